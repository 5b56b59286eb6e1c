/- The reference's great numbers: over numbers. -/
import Derived.Test.YtcnibfancjofhaaDoorRfC
namespace Go.Proofs.YtcnibfancjofhaaDoor
open Go.RowKit Go.Proofs.YtcnibfancjofhaaDoorW.PrintWords Go.Proofs.YtcnibfancjofhaaDoorW.PrintLast Go.Proofs.YtcnibfancjofhaaDoorW.PrintMore
set_option linter.unusedVariables false
set_option linter.unusedSimpArgs false
theorem satS_sat {n : Int} {m : Bool} (h : 0 ≤ n) : satS n m = sat (if m = true then -n else n) := by
  unfold satS sat; cases m <;> simp <;> (repeat' split) <;> omega
theorem ab_natAbs (a : Int) : ab a = (a.natAbs : Int) := by unfold ab; split <;> omega
theorem mulF_rep (a b : Int) : mulF a b = sat (if (!(decide (a < 0) == decide (b < 0))) = true then -((a.natAbs : Int) * (b.natAbs : Int) / 4294967296) else (a.natAbs : Int) * (b.natAbs : Int) / 4294967296) := by
  have h := ab_mul_nonneg a b
  unfold mulF ng
  rw [ab_natAbs, ab_natAbs] at h ⊢
  rw [satS_sat h]
  rfl
theorem divF_rep (a b : Int) : divF a b = sat (if (!(decide (a < 0) == decide (b < 0))) = true then -((a.natAbs : Int) * 4294967296 / (b.natAbs : Int)) else (a.natAbs : Int) * 4294967296 / (b.natAbs : Int)) := by
  have h := divF_nonneg a b
  unfold divF ng
  rw [ab_natAbs, ab_natAbs] at h ⊢
  rw [satS_sat h]
  rfl
theorem fromF_rep (a : Int) : fromF a = sat (if decide (a < 0) = true then -((a.natAbs : Int) * 4294967296) else (a.natAbs : Int) * 4294967296) := by
  unfold fromF
  rw [ab_natAbs, satS_sat (by omega)]
theorem toF_rep (a : Int) : toF a = sat (if decide (a < 0) = true then -((a.natAbs : Int) / 4294967296) else (a.natAbs : Int) / 4294967296) := by
  unfold toF
  rw [ab_natAbs, satS_sat (by omega)]
theorem i64_of {a : Int} (h : In64 a) : I64 a := ⟨h.1, h.2⟩
theorem ret_big {m : Bool} {D E : Nat → Int} (h : bigA m D = bigA m E) : Ending.returned (.agg (bigA m D)) = .returned (.agg (bigA m E)) := by rw [h]
theorem of_ex (n : Int) (w : World) (hn : I64 n) : Calls Tryd.prog 40 #[.int .i64 n] w fun e w' => e = .returned (.agg #[.bool (decide (n < 0)), .int .i64 (cdig (n.natAbs : Int) 0), .int .i64 (cdig (n.natAbs : Int) 1), .int .i64 (cdig (n.natAbs : Int) 2), .int .i64 (cdig (n.natAbs : Int) 3), .int .i64 (cdig (n.natAbs : Int) 4), .int .i64 (cdig (n.natAbs : Int) 5), .int .i64 (cdig (n.natAbs : Int) 6), .int .i64 (cdig (n.natAbs : Int) 7)]) ∧ Below w.heap.size w w' := by
  by_cases h : n < 0
  · rw [decide_eq_true h]
    exact (of_neg n w hn h).mono fun _ _ ⟨D, he, hr, hb⟩ => ⟨he.trans (ret_big (hr.cells true)), hb⟩
  · rw [decide_eq_false h]
    exact (of_pos n w hn (by omega)).mono fun _ _ ⟨D, he, hr, hb⟩ => ⟨he.trans (ret_big (hr.cells false)), hb⟩
theorem rep_abs {n : Int} (hn : I64 n) : Rep (cdig (n.natAbs : Int)) (n.natAbs : Int) ∧ (n.natAbs : Int) < 18446744073709551616 := by
  have h1 := hn.1; have h2 := hn.2
  exact ⟨rep_cdig (by omega) (by omega), by omega⟩
theorem times_ex (ma mb : Bool) (A B : Int) (w : World) (hA : Rep (cdig A) A) (hB : Rep (cdig B) B) (hA1 : A < 18446744073709551616) (hB1 : B < 18446744073709551616) :
    Calls Tryd.prog 50 #[.agg #[.bool ma, .int .i64 (cdig A 0), .int .i64 (cdig A 1), .int .i64 (cdig A 2), .int .i64 (cdig A 3), .int .i64 (cdig A 4), .int .i64 (cdig A 5), .int .i64 (cdig A 6), .int .i64 (cdig A 7)], .agg #[.bool mb, .int .i64 (cdig B 0), .int .i64 (cdig B 1), .int .i64 (cdig B 2), .int .i64 (cdig B 3), .int .i64 (cdig B 4), .int .i64 (cdig B 5), .int .i64 (cdig B 6), .int .i64 (cdig B 7)]] w fun e w' => e = .returned (.agg #[.bool (!(ma == mb)), .int .i64 (cdig (A * B) 0), .int .i64 (cdig (A * B) 1), .int .i64 (cdig (A * B) 2), .int .i64 (cdig (A * B) 3), .int .i64 (cdig (A * B) 4), .int .i64 (cdig (A * B) 5), .int .i64 (cdig (A * B) 6), .int .i64 (cdig (A * B) 7)]) ∧ Below w.heap.size w w' :=
  (times_calls ma mb (cdig A) (cdig B) A B w hA hB hA1 hB1).mono fun _ _ ⟨D, he, hr, hb⟩ => ⟨he.trans (ret_big (hr.cells _)), hb⟩
theorem mul_rep {A B : Int} (hA : Rep (cdig A) A) (hB : Rep (cdig B) B) (hA1 : A < 18446744073709551616) (hB1 : B < 18446744073709551616) : Rep (cdig (A * B)) (A * B) := by
  have h1 := hA.nonneg; have h2 := hB.nonneg
  have h3 := Int.mul_nonneg h1 h2
  have h4 : A * B ≤ 18446744073709551615 * 18446744073709551615 := Int.mul_le_mul (by omega) (by omega) h2 (by omega)
  exact rep_cdig h3 (by omega)
theorem shift_ex (m : Bool) (V : Int) (w : World) (hV : Rep (cdig V) V) : Calls Tryd.prog 48 #[.agg #[.bool m, .int .i64 (cdig V 0), .int .i64 (cdig V 1), .int .i64 (cdig V 2), .int .i64 (cdig V 3), .int .i64 (cdig V 4), .int .i64 (cdig V 5), .int .i64 (cdig V 6), .int .i64 (cdig V 7)], .int .i64 (-2)] w fun e w' => e = .returned (.agg #[.bool m, .int .i64 (cdig (V / 4294967296) 0), .int .i64 (cdig (V / 4294967296) 1), .int .i64 (cdig (V / 4294967296) 2), .int .i64 (cdig (V / 4294967296) 3), .int .i64 (cdig (V / 4294967296) 4), .int .i64 (cdig (V / 4294967296) 5), .int .i64 (cdig (V / 4294967296) 6), .int .i64 (cdig (V / 4294967296) 7)]) ∧ Below w.heap.size w w' :=
  (shift_m2 m (cdig V) V w hV).mono fun _ _ ⟨D, he, hr, hb⟩ => ⟨he.trans (ret_big (hr.cells _)), hb⟩
theorem stop_ex (m : Bool) (V : Int) (w : World) (hV : Rep (cdig V) V) : Calls Tryd.prog 46 #[.agg #[.bool m, .int .i64 (cdig V 0), .int .i64 (cdig V 1), .int .i64 (cdig V 2), .int .i64 (cdig V 3), .int .i64 (cdig V 4), .int .i64 (cdig V 5), .int .i64 (cdig V 6), .int .i64 (cdig V 7)]] w fun e w' => e = .returned (.int .i64 (sat (if m then -V else V))) ∧ Below w.heap.size w w' :=
  stop_calls m (cdig V) V w hV
theorem compare_ex (ma mb : Bool) (A B : Int) (w : World) (hA : Rep (cdig A) A) (hB : Rep (cdig B) B) :
    Calls Tryd.prog 49 #[.agg #[.bool ma, .int .i64 (cdig A 0), .int .i64 (cdig A 1), .int .i64 (cdig A 2), .int .i64 (cdig A 3), .int .i64 (cdig A 4), .int .i64 (cdig A 5), .int .i64 (cdig A 6), .int .i64 (cdig A 7)], .agg #[.bool mb, .int .i64 (cdig B 0), .int .i64 (cdig B 1), .int .i64 (cdig B 2), .int .i64 (cdig B 3), .int .i64 (cdig B 4), .int .i64 (cdig B 5), .int .i64 (cdig B 6), .int .i64 (cdig B 7)]] w fun e w' => e = .returned (.int .i64 (cmpI A B)) ∧ Below w.heap.size w w' :=
  compare_calls ma mb (cdig A) (cdig B) A B w hA hB
set_option maxHeartbeats 4000000 in
set_option maxRecDepth 100000 in
theorem rmul_calls (a b : Int) (w : World) (ha : I64 a) (hb : I64 b) :
    Calls Tryd.prog 25 #[.int .i64 a, .int .i64 b] w
      fun e w' => e = .returned (.int .i64 (mulF a b)) ∧ Below w.heap.size w w' := by
  have HB := Aside0.mk (Below.refl w.heap.size w)
  obtain ⟨r1, r2⟩ := rep_abs ha; obtain ⟨q1, q2⟩ := rep_abs hb
  have r3 := mul_rep r1 q1 r2 q2
  have r4 : Rep (cdig ((a.natAbs : Int) * (b.natAbs : Int) / 4294967296)) ((a.natAbs : Int) * (b.natAbs : Int) / 4294967296) := rep_cdig (by have := r3.nonneg; omega) (by have := r3.nonneg; have := r3.lt; omega)
  have e1 : mulF a b = sat (if (!(decide (a < 0) == decide (b < 0))) = true then -((a.natAbs : Int) * (b.natAbs : Int) / 4294967296) else (a.natAbs : Int) * (b.natAbs : Int) / 4294967296) := mulF_rep a b
  have E1 := Lib.hid e1; clear e1
  go_enter Tryd.func25, Tryd.ntmps25
  go_wp2_with fail
  ((with_reducible refine (of_ex _ _ ha).mono ?_); rintro e_ W1 ⟨rfl, hb_⟩)
  have n_ := Aside0.mk (below_step HB.out hb_); clear HB; have HB := n_; clear n_
  clear hb_
  go_wp2_with fail
  ((with_reducible refine (of_ex _ _ hb).mono ?_); rintro e_ W2 ⟨rfl, hb_⟩)
  have n_ := Aside0.mk (below_step HB.out hb_); clear HB; have HB := n_; clear n_
  clear hb_
  go_wp2_with fail
  ((with_reducible refine (times_ex (decide (a < 0)) (decide (b < 0)) (a.natAbs : Int) (b.natAbs : Int) _ r1 q1 r2 q2).mono ?_); rintro e_ W3 ⟨rfl, hb_⟩)
  have n_ := Aside0.mk (below_step HB.out hb_); clear HB; have HB := n_; clear n_
  clear hb_
  go_wp2_with fail
  ((with_reducible refine (shift_ex (!(decide (a < 0) == decide (b < 0))) ((a.natAbs : Int) * (b.natAbs : Int)) _ r3).mono ?_); rintro e_ W4 ⟨rfl, hb_⟩)
  have n_ := Aside0.mk (below_step HB.out hb_); clear HB; have HB := n_; clear n_
  clear hb_
  go_wp2_with fail
  ((with_reducible refine (stop_ex (!(decide (a < 0) == decide (b < 0))) ((a.natAbs : Int) * (b.natAbs : Int) / 4294967296) _ r4).mono ?_); rintro e_ W5 ⟨rfl, hb_⟩)
  have n_ := Aside0.mk (below_step HB.out hb_); clear HB; have HB := n_; clear n_
  clear hb_
  rw [← E1.out]
  go_wp2
  go_ret
  exact ⟨rfl, (by repeat (first | (with_reducible first | exact HB.out | apply below_alloc | apply pw_below_drewN | apply below_drew1) | exact HB.out))⟩
end Go.Proofs.YtcnibfancjofhaaDoor
