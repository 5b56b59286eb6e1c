/- The laws FixOrder, FixSigns, FixDivides, FixWhole, walked. -/
import Derived.Test.YtcnibfancjofhaaDoorFixM
namespace Go.Proofs.YtcnibfancjofhaaDoor
open Go.RowKit Go.Proofs.YtcnibfancjofhaaDoorW.PrintWords Go.Proofs.YtcnibfancjofhaaDoorW.PrintLast Go.Proofs.YtcnibfancjofhaaDoorW.PrintMore
set_option linter.unusedVariables false
set_option linter.unusedSimpArgs false
theorem addF_in (a b : Int) : In64 (addF a b) := sat_in _
theorem subF_in (a b : Int) : In64 (subF a b) := sat_in _
theorem mulF_in (a b : Int) : In64 (mulF a b) := satS_in _ (ab_mul_nonneg a b)
theorem divF_in (a b : Int) : In64 (divF a b) := satS_in _ (divF_nonneg a b)
theorem fromF_in (a : Int) : In64 (fromF a) := satS_in _ (Int.mul_nonneg (ab_nonneg a) (by decide))
theorem toF_in (a : Int) : In64 (toF a) := satS_in _ (div_nonneg' (ab_nonneg a))
set_option maxHeartbeats 8000000 in
set_option maxRecDepth 100000 in
theorem FixWhole_calls (n a : Int) (w : World) (hn : -9223372036854775808 ≤ n ∧ n ≤ 9223372036854775807) (ha : -9223372036854775808 ≤ a ∧ a ≤ 9223372036854775807) : Calls Tryd.prog 10 #[.int .i64 n, .int .i64 a] w fun e w' => e = .returned (.bool true) ∧ Below w.heap.size w w' := by
  have hF := fun W => From_calls n W hn
  have hT2 := fun W => To_calls a W ha
  have hF2 := fun W => From_calls (toF a) W (toF_in a)
  have hS := fun W => Sub_calls a (fromF (toF a)) W ha (fromF_in _)
  obtain ⟨k1, k2, k3, k4⟩ := whole_near (a := a) ha
  generalize hr : subF a (fromF (toF a)) = r at hS k1 k2 k3 k4
  generalize hy : fromF (toF a) = y at hF2 hS hr
  generalize hz : toF a = z at hT2 hF2
  clear hr hy hz
  have d1 : decide (r < 4294967296) = true := decide_eq_true k1
  have d2 : decide (-4294967296 < r) = true := decide_eq_true k2
  by_cases b1 : 2147483647 < n
  · have e1 : decide (2147483647 < n) = true := decide_eq_true b1
    by_cases s1 : 0 ≤ r
    · have f1 : decide (0 ≤ r) = true := decide_eq_true s1
      by_cases s2 : r ≤ 0
      · have f2 : decide (r ≤ 0) = true := decide_eq_true s2
        clear k1 k2 k3 k4 s1 s2
        go_enter Tryd.func10, Tryd.ntmps10
        go_wp2_with fail
        ((with_reducible refine (awake_calls _).mono ?_); rintro e_ W1 ⟨rfl, hb⟩)
        have HB1 := Aside0.mk hb
        clear hb
        go_wp2_with fail
        ((with_reducible refine (hF _).mono ?_); rintro e_ W_ ⟨rfl, rfl⟩)
        go_wp2_with fail
        ((with_reducible refine (hT2 _).mono ?_); rintro e_ W_ ⟨rfl, rfl⟩)
        go_wp2_with fail
        ((with_reducible refine (hF2 _).mono ?_); rintro e_ W_ ⟨rfl, rfl⟩)
        go_wp2_with fail
        ((with_reducible refine (hS _).mono ?_); rintro e_ W_ ⟨rfl, rfl⟩)
        clear hT2 hF2 hS hF
        go_wp2
        go_ret
        exact ⟨rfl, HB1.out⟩
      · have f2 : decide (r ≤ 0) = false := decide_eq_false s2
        have f3 : decide (0 < a) = true := decide_eq_true (by omega)
        clear k1 k2 k3 k4 s1 s2
        go_enter Tryd.func10, Tryd.ntmps10
        go_wp2_with fail
        ((with_reducible refine (awake_calls _).mono ?_); rintro e_ W1 ⟨rfl, hb⟩)
        have HB1 := Aside0.mk hb
        clear hb
        go_wp2_with fail
        ((with_reducible refine (hF _).mono ?_); rintro e_ W_ ⟨rfl, rfl⟩)
        go_wp2_with fail
        ((with_reducible refine (hT2 _).mono ?_); rintro e_ W_ ⟨rfl, rfl⟩)
        go_wp2_with fail
        ((with_reducible refine (hF2 _).mono ?_); rintro e_ W_ ⟨rfl, rfl⟩)
        go_wp2_with fail
        ((with_reducible refine (hS _).mono ?_); rintro e_ W_ ⟨rfl, rfl⟩)
        clear hT2 hF2 hS hF
        go_wp2
        go_ret
        exact ⟨rfl, HB1.out⟩
    · have f1 : decide (0 ≤ r) = false := decide_eq_false s1
      have f2 : decide (r ≤ 0) = true := decide_eq_true (by omega)
      have f3 : decide (a < 0) = true := decide_eq_true (by omega)
      clear k1 k2 k3 k4 s1
      go_enter Tryd.func10, Tryd.ntmps10
      go_wp2_with fail
      ((with_reducible refine (awake_calls _).mono ?_); rintro e_ W1 ⟨rfl, hb⟩)
      have HB1 := Aside0.mk hb
      clear hb
      go_wp2_with fail
      ((with_reducible refine (hF _).mono ?_); rintro e_ W_ ⟨rfl, rfl⟩)
      go_wp2_with fail
      ((with_reducible refine (hT2 _).mono ?_); rintro e_ W_ ⟨rfl, rfl⟩)
      go_wp2_with fail
      ((with_reducible refine (hF2 _).mono ?_); rintro e_ W_ ⟨rfl, rfl⟩)
      go_wp2_with fail
      ((with_reducible refine (hS _).mono ?_); rintro e_ W_ ⟨rfl, rfl⟩)
      clear hT2 hF2 hS hF
      go_wp2
      go_ret
      exact ⟨rfl, HB1.out⟩
  by_cases b2 : n < -2147483648
  · have e1 : decide (2147483647 < n) = false := decide_eq_false b1
    have e2 : decide (n < -2147483648) = true := decide_eq_true b2
    by_cases s1 : 0 ≤ r
    · have f1 : decide (0 ≤ r) = true := decide_eq_true s1
      by_cases s2 : r ≤ 0
      · have f2 : decide (r ≤ 0) = true := decide_eq_true s2
        clear k1 k2 k3 k4 s1 s2
        go_enter Tryd.func10, Tryd.ntmps10
        go_wp2_with fail
        ((with_reducible refine (awake_calls _).mono ?_); rintro e_ W1 ⟨rfl, hb⟩)
        have HB1 := Aside0.mk hb
        clear hb
        go_wp2_with fail
        ((with_reducible refine (hF _).mono ?_); rintro e_ W_ ⟨rfl, rfl⟩)
        go_wp2_with fail
        ((with_reducible refine (hT2 _).mono ?_); rintro e_ W_ ⟨rfl, rfl⟩)
        go_wp2_with fail
        ((with_reducible refine (hF2 _).mono ?_); rintro e_ W_ ⟨rfl, rfl⟩)
        go_wp2_with fail
        ((with_reducible refine (hS _).mono ?_); rintro e_ W_ ⟨rfl, rfl⟩)
        clear hT2 hF2 hS hF
        go_wp2
        go_ret
        exact ⟨rfl, HB1.out⟩
      · have f2 : decide (r ≤ 0) = false := decide_eq_false s2
        have f3 : decide (0 < a) = true := decide_eq_true (by omega)
        clear k1 k2 k3 k4 s1 s2
        go_enter Tryd.func10, Tryd.ntmps10
        go_wp2_with fail
        ((with_reducible refine (awake_calls _).mono ?_); rintro e_ W1 ⟨rfl, hb⟩)
        have HB1 := Aside0.mk hb
        clear hb
        go_wp2_with fail
        ((with_reducible refine (hF _).mono ?_); rintro e_ W_ ⟨rfl, rfl⟩)
        go_wp2_with fail
        ((with_reducible refine (hT2 _).mono ?_); rintro e_ W_ ⟨rfl, rfl⟩)
        go_wp2_with fail
        ((with_reducible refine (hF2 _).mono ?_); rintro e_ W_ ⟨rfl, rfl⟩)
        go_wp2_with fail
        ((with_reducible refine (hS _).mono ?_); rintro e_ W_ ⟨rfl, rfl⟩)
        clear hT2 hF2 hS hF
        go_wp2
        go_ret
        exact ⟨rfl, HB1.out⟩
    · have f1 : decide (0 ≤ r) = false := decide_eq_false s1
      have f2 : decide (r ≤ 0) = true := decide_eq_true (by omega)
      have f3 : decide (a < 0) = true := decide_eq_true (by omega)
      clear k1 k2 k3 k4 s1
      go_enter Tryd.func10, Tryd.ntmps10
      go_wp2_with fail
      ((with_reducible refine (awake_calls _).mono ?_); rintro e_ W1 ⟨rfl, hb⟩)
      have HB1 := Aside0.mk hb
      clear hb
      go_wp2_with fail
      ((with_reducible refine (hF _).mono ?_); rintro e_ W_ ⟨rfl, rfl⟩)
      go_wp2_with fail
      ((with_reducible refine (hT2 _).mono ?_); rintro e_ W_ ⟨rfl, rfl⟩)
      go_wp2_with fail
      ((with_reducible refine (hF2 _).mono ?_); rintro e_ W_ ⟨rfl, rfl⟩)
      go_wp2_with fail
      ((with_reducible refine (hS _).mono ?_); rintro e_ W_ ⟨rfl, rfl⟩)
      clear hT2 hF2 hS hF
      go_wp2
      go_ret
      exact ⟨rfl, HB1.out⟩
  have e1 : decide (2147483647 < n) = false := decide_eq_false b1
  have e2 : decide (n < -2147483648) = false := decide_eq_false b2
  have hT1 := fun W => To_calls (fromF n) W (fromF_in n)
  rw [whole_back ⟨by omega, by omega⟩] at hT1
  generalize fromF n = x at hF hT1
  · skip
    by_cases s1 : 0 ≤ r
    · have f1 : decide (0 ≤ r) = true := decide_eq_true s1
      by_cases s2 : r ≤ 0
      · have f2 : decide (r ≤ 0) = true := decide_eq_true s2
        clear k1 k2 k3 k4 s1 s2
        go_enter Tryd.func10, Tryd.ntmps10
        go_wp2_with fail
        ((with_reducible refine (awake_calls _).mono ?_); rintro e_ W1 ⟨rfl, hb⟩)
        have HB1 := Aside0.mk hb
        clear hb
        go_wp2_with fail
        ((with_reducible refine (hF _).mono ?_); rintro e_ W_ ⟨rfl, rfl⟩)
        go_wp2_with fail
        ((with_reducible refine (hT1 _).mono ?_); rintro e_ W_ ⟨rfl, rfl⟩)
        go_wp2_with fail
        ((with_reducible refine (hT2 _).mono ?_); rintro e_ W_ ⟨rfl, rfl⟩)
        go_wp2_with fail
        ((with_reducible refine (hF2 _).mono ?_); rintro e_ W_ ⟨rfl, rfl⟩)
        go_wp2_with fail
        ((with_reducible refine (hS _).mono ?_); rintro e_ W_ ⟨rfl, rfl⟩)
        clear hT2 hF2 hS hF
        go_wp2
        go_ret
        exact ⟨rfl, HB1.out⟩
      · have f2 : decide (r ≤ 0) = false := decide_eq_false s2
        have f3 : decide (0 < a) = true := decide_eq_true (by omega)
        clear k1 k2 k3 k4 s1 s2
        go_enter Tryd.func10, Tryd.ntmps10
        go_wp2_with fail
        ((with_reducible refine (awake_calls _).mono ?_); rintro e_ W1 ⟨rfl, hb⟩)
        have HB1 := Aside0.mk hb
        clear hb
        go_wp2_with fail
        ((with_reducible refine (hF _).mono ?_); rintro e_ W_ ⟨rfl, rfl⟩)
        go_wp2_with fail
        ((with_reducible refine (hT1 _).mono ?_); rintro e_ W_ ⟨rfl, rfl⟩)
        go_wp2_with fail
        ((with_reducible refine (hT2 _).mono ?_); rintro e_ W_ ⟨rfl, rfl⟩)
        go_wp2_with fail
        ((with_reducible refine (hF2 _).mono ?_); rintro e_ W_ ⟨rfl, rfl⟩)
        go_wp2_with fail
        ((with_reducible refine (hS _).mono ?_); rintro e_ W_ ⟨rfl, rfl⟩)
        clear hT2 hF2 hS hF
        go_wp2
        go_ret
        exact ⟨rfl, HB1.out⟩
    · have f1 : decide (0 ≤ r) = false := decide_eq_false s1
      have f2 : decide (r ≤ 0) = true := decide_eq_true (by omega)
      have f3 : decide (a < 0) = true := decide_eq_true (by omega)
      clear k1 k2 k3 k4 s1
      go_enter Tryd.func10, Tryd.ntmps10
      go_wp2_with fail
      ((with_reducible refine (awake_calls _).mono ?_); rintro e_ W1 ⟨rfl, hb⟩)
      have HB1 := Aside0.mk hb
      clear hb
      go_wp2_with fail
      ((with_reducible refine (hF _).mono ?_); rintro e_ W_ ⟨rfl, rfl⟩)
      go_wp2_with fail
      ((with_reducible refine (hT1 _).mono ?_); rintro e_ W_ ⟨rfl, rfl⟩)
      go_wp2_with fail
      ((with_reducible refine (hT2 _).mono ?_); rintro e_ W_ ⟨rfl, rfl⟩)
      go_wp2_with fail
      ((with_reducible refine (hF2 _).mono ?_); rintro e_ W_ ⟨rfl, rfl⟩)
      go_wp2_with fail
      ((with_reducible refine (hS _).mono ?_); rintro e_ W_ ⟨rfl, rfl⟩)
      clear hT2 hF2 hS hF
      go_wp2
      go_ret
      exact ⟨rfl, HB1.out⟩
set_option maxHeartbeats 8000000 in
set_option maxRecDepth 100000 in
theorem FixDivides_calls (a b : Int) (w : World) (ha : -9223372036854775808 ≤ a ∧ a ≤ 9223372036854775807) (hb : -9223372036854775808 ≤ b ∧ b ≤ 9223372036854775807) : Calls Tryd.prog 6 #[.int .i64 a, .int .i64 b] w fun e w' => e = .returned (.bool true) ∧ Below w.heap.size w w' := by
  by_cases hz : b = 0
  · subst hz
    have hD := fun W => Div_zero a W
    go_enter Tryd.func6, Tryd.ntmps6
    go_wp2_with fail
    ((with_reducible refine (awake_calls _).mono ?_); rintro e_ W1 ⟨rfl, hb⟩)
    have HB1 := Aside0.mk hb
    clear hb
    go_wp2_with fail
    ((with_reducible refine (hD _).mono ?_); rintro e_ W_ ⟨rfl, rfl⟩)
    clear hD
    go_wp2
    go_ret
    exact ⟨rfl, HB1.out⟩
  have hD := fun W => Div_calls a b W ha hb hz
  have zb : (b == 0) = false := beq_eq_false_iff_ne.2 hz
  by_cases h1 : a < 0
  · have e1 : decide (a < 0) = true := decide_eq_true h1
    go_enter Tryd.func6, Tryd.ntmps6
    go_wp2_with fail
    ((with_reducible refine (awake_calls _).mono ?_); rintro e_ W1 ⟨rfl, hb⟩)
    have HB1 := Aside0.mk hb
    clear hb
    go_wp2_with fail
    ((with_reducible refine (hD _).mono ?_); rintro e_ W_ ⟨rfl, n1, rfl⟩)
    have HB2 := Aside0.mk (pw_below_drewN HB1.out n1)
    clear hD h1
    go_wp2
    go_ret
    exact ⟨rfl, HB2.out⟩
  have e1 : decide (a < 0) = false := decide_eq_false h1
  by_cases h2 : b < 4294967296
  · have e2 : decide (b < 4294967296) = true := decide_eq_true h2
    go_enter Tryd.func6, Tryd.ntmps6
    go_wp2_with fail
    ((with_reducible refine (awake_calls _).mono ?_); rintro e_ W1 ⟨rfl, hb⟩)
    have HB1 := Aside0.mk hb
    clear hb
    go_wp2_with fail
    ((with_reducible refine (hD _).mono ?_); rintro e_ W_ ⟨rfl, n1, rfl⟩)
    have HB2 := Aside0.mk (pw_below_drewN HB1.out n1)
    clear hD h1 h2
    go_wp2
    go_ret
    exact ⟨rfl, HB2.out⟩
  have e2 : decide (b < 4294967296) = false := decide_eq_false h2
  by_cases h3 : divF a b = 9223372036854775807
  · rw [h3] at hD
    go_enter Tryd.func6, Tryd.ntmps6
    go_wp2_with fail
    ((with_reducible refine (awake_calls _).mono ?_); rintro e_ W1 ⟨rfl, hb⟩)
    have HB1 := Aside0.mk hb
    clear hb
    go_wp2_with fail
    ((with_reducible refine (hD _).mono ?_); rintro e_ W_ ⟨rfl, n1, rfl⟩)
    have HB2 := Aside0.mk (pw_below_drewN HB1.out n1)
    clear hD h1 h2 h3
    go_wp2
    go_ret
    exact ⟨rfl, HB2.out⟩
  have e3 : (divF a b == 9223372036854775807) = false := beq_eq_false_iff_ne.2 h3
  have hq := quo_facts (a := a) (b := b) ⟨by omega, ha.2⟩ (by omega) h3
  have hqi := divF_in a b
  obtain ⟨k1, k2, k3, k4⟩ := hq
  generalize divF a b = q at hD h3 e3 k1 k2 k3 k4 hqi
  unfold In64 at hqi
  have hw : IntKind.i64.wrap (q + 1) = q + 1 := by rw [wrap_i64]; omega
  have hM1 := fun W => Mul_calls q b W hqi hb
  have hM2 := fun W => Mul_calls (q + 1) b W (by unfold In64; omega) hb
  generalize mulF q b = x at hM1 k1 k2 k3 k4
  generalize mulF (q + 1) b = y at hM2 k1 k2 k3 k4
  have f1 : decide (0 ≤ q) = true := decide_eq_true (by omega)
  have f2 : decide (q ≤ a) = true := decide_eq_true (by omega)
  have f3 : decide (x ≤ a) = true := decide_eq_true (by omega)
  have f4 : decide (a ≤ y) = true := decide_eq_true (by omega)
  · clear k1 k2 k3 k4 h1 h2
    go_enter Tryd.func6, Tryd.ntmps6
    go_wp2_with fail
    ((with_reducible refine (awake_calls _).mono ?_); rintro e_ W1 ⟨rfl, hb⟩)
    have HB1 := Aside0.mk hb
    clear hb
    go_wp2_with fail
    ((with_reducible refine (hD _).mono ?_); rintro e_ W_ ⟨rfl, n1, rfl⟩)
    have HB2 := Aside0.mk (pw_below_drewN HB1.out n1)
    clear hD
    go_wp2_with fail
    ((with_reducible refine (hM1 _).mono ?_); rintro e_ W_ ⟨rfl, rfl⟩)
    go_wp2_with fail
    ((with_reducible refine (hM2 _).mono ?_); rintro e_ W_ ⟨rfl, rfl⟩)
    clear hM1 hM2
    go_wp2
    go_ret
    exact ⟨rfl, HB2.out⟩
set_option maxHeartbeats 8000000 in
set_option maxRecDepth 100000 in
theorem FixOrder_calls (a b c : Int) (w : World) (ha : -9223372036854775808 ≤ a ∧ a ≤ 9223372036854775807) (hb : -9223372036854775808 ≤ b ∧ b ≤ 9223372036854775807) (hc : -9223372036854775808 ≤ c ∧ c ≤ 9223372036854775807) : Calls Tryd.prog 7 #[.int .i64 a, .int .i64 b, .int .i64 c] w fun e w' => e = .returned (.bool true) ∧ Below w.heap.size w w' := by
  obtain ⟨l, hl⟩ : ∃ l, l = min a b := ⟨_, rfl⟩
  obtain ⟨u, hu⟩ : ∃ u, u = max a b := ⟨_, rfl⟩
  have hlu : l ≤ u := by omega
  have hli : In64 l := by unfold In64; omega
  have hui : In64 u := by unfold In64; omega
  have hmin : min a b = l := hl.symm
  have hmax : max a b = u := hu.symm
  have hmin2 : (if a ≤ b then a else b) = l := by rw [hl, Int.min_def]
  have hmax2 : (if a ≤ b then b else a) = u := by rw [hu, Int.max_def]
  clear hl hu
  have m1 : addF l c ≤ addF u c := sat_mono (by omega)
  have m2 : subF l c ≤ subF u c := sat_mono (by omega)
  have m3 : subF c u ≤ subF c l := sat_mono (by omega)
  have hA1 := fun W => Add_calls l c W hli hc
  have hA2 := fun W => Add_calls u c W hui hc
  have hS1 := fun W => Sub_calls l c W hli hc
  have hS2 := fun W => Sub_calls u c W hui hc
  have hS3 := fun W => Sub_calls c l W hc hli
  have hS4 := fun W => Sub_calls c u W hc hui
  have hM1 := fun W => Mul_calls l c W hli hc
  have hM2 := fun W => Mul_calls u c W hui hc
  have e1 : decide (addF l c ≤ addF u c) = true := decide_eq_true m1
  have e2 : decide (subF l c ≤ subF u c) = true := decide_eq_true m2
  have e3 : decide (subF c u ≤ subF c l) = true := decide_eq_true m3
  clear m1 m2 m3
  generalize addF l c = x1 at hA1 e1
  generalize addF u c = x2 at hA2 e1
  generalize subF l c = x3 at hS1 e2
  generalize subF u c = x4 at hS2 e2
  generalize subF c l = x5 at hS3 e3
  generalize subF c u = x6 at hS4 e3
  have hAB := fun W => Add_calls a b W ha hb
  have hBA := fun W => Add_calls b a W hb ha
  rw [show addF b a = addF a b by unfold addF; rw [Int.add_comm]] at hBA
  have hMAB := fun W => Mul_calls a b W ha hb
  have hMBA := fun W => Mul_calls b a W hb ha
  rw [mulF_comm b a] at hMBA
  generalize mulF a b = x7 at hMAB hMBA
  have hA0 := fun W => Add_calls a 0 W ha (by unfold In64; decide)
  rw [addF_zero ha] at hA0
  have hS0 := fun W => Sub_calls a 0 W ha (by unfold In64; decide)
  rw [subF_zero ha] at hS0
  have hM3 := fun W => Mul_calls a 4294967296 W ha (by unfold In64; decide)
  rw [mulF_one ha] at hM3
  have hM0 := fun W => Mul_calls a 0 W ha (by unfold In64; decide)
  rw [mulF_zero a] at hM0
  have hD := fun W => Div_calls a 4294967296 W ha (by unfold In64; decide) (by decide)
  rw [divF_one ha] at hD
  have hback := add_back ha hb
  have hBK := fun W => Sub_calls (addF a b) b W (addF_in a b) hb
  generalize hs : addF a b = s at hAB hBA hback hBK
  clear hs
  generalize hv : subF s b = v at hback hBK
  clear hv
  by_cases hc0 : c < 0
  · have g1 : decide (c < 0) = true := decide_eq_true hc0
    have m4 := mulF_anti (a := l) (b := u) (c := c) hlu hc0
    have e4 : decide (mulF u c ≤ mulF l c) = true := decide_eq_true m4
    clear m4 hc0
    generalize mulF l c = y1 at hM1 e4
    generalize mulF u c = y2 at hM2 e4
    by_cases b1 : s = 9223372036854775807
    · have f1 : (s == 9223372036854775807) = true := beq_iff_eq.2 b1
      clear b1 hback hlu
      go_enter Tryd.func7, Tryd.ntmps7
      go_wp2_with fail
      ((with_reducible refine (awake_calls _).mono ?_); rintro e_ W1 ⟨rfl, hb⟩)
      have HB1 := Aside0.mk hb
      clear hb
      go_wp2_with fail
      ((with_reducible refine (hA1 _).mono ?_); rintro e_ W_ ⟨rfl, rfl⟩)
      go_wp2_with fail
      ((with_reducible refine (hA2 _).mono ?_); rintro e_ W_ ⟨rfl, rfl⟩)
      go_wp2_with fail
      ((with_reducible refine (hS1 _).mono ?_); rintro e_ W_ ⟨rfl, rfl⟩)
      go_wp2_with fail
      ((with_reducible refine (hS2 _).mono ?_); rintro e_ W_ ⟨rfl, rfl⟩)
      go_wp2_with fail
      ((with_reducible refine (hS3 _).mono ?_); rintro e_ W_ ⟨rfl, rfl⟩)
      go_wp2_with fail
      ((with_reducible refine (hS4 _).mono ?_); rintro e_ W_ ⟨rfl, rfl⟩)
      go_wp2_with fail
      ((with_reducible refine (hM1 _).mono ?_); rintro e_ W_ ⟨rfl, rfl⟩)
      go_wp2_with fail
      ((with_reducible refine (hM2 _).mono ?_); rintro e_ W_ ⟨rfl, rfl⟩)
      go_wp2_with fail
      ((with_reducible refine (hAB _).mono ?_); rintro e_ W_ ⟨rfl, rfl⟩)
      go_wp2_with fail
      ((with_reducible refine (hBA _).mono ?_); rintro e_ W_ ⟨rfl, rfl⟩)
      go_wp2_with fail
      ((with_reducible refine (hMAB _).mono ?_); rintro e_ W_ ⟨rfl, rfl⟩)
      go_wp2_with fail
      ((with_reducible refine (hMBA _).mono ?_); rintro e_ W_ ⟨rfl, rfl⟩)
      go_wp2_with fail
      ((with_reducible refine (hA0 _).mono ?_); rintro e_ W_ ⟨rfl, rfl⟩)
      go_wp2_with fail
      ((with_reducible refine (hS0 _).mono ?_); rintro e_ W_ ⟨rfl, rfl⟩)
      go_wp2_with fail
      ((with_reducible refine (hM3 _).mono ?_); rintro e_ W_ ⟨rfl, rfl⟩)
      go_wp2_with fail
      ((with_reducible refine (hM0 _).mono ?_); rintro e_ W_ ⟨rfl, rfl⟩)
      go_wp2_with fail
      ((with_reducible refine (hD _).mono ?_); rintro e_ W_ ⟨rfl, n1, rfl⟩)
      have HB2 := Aside0.mk (pw_below_drewN HB1.out n1)
      go_wp2_with fail
      ((with_reducible refine (hAB _).mono ?_); rintro e_ W_ ⟨rfl, rfl⟩)
      clear hA1 hA2 hS1 hS2 hS3 hS4 hM1 hM2 hAB hBA hMAB hMBA hA0 hS0 hM3 hM0 hD
      go_wp2
      go_ret
      exact ⟨rfl, HB2.out⟩
    have f1 : (s == 9223372036854775807) = false := beq_eq_false_iff_ne.2 b1
    by_cases b2 : s = -9223372036854775808
    · have f2 : (s == -9223372036854775808) = true := beq_iff_eq.2 b2
      clear b1 b2 hback hlu
      go_enter Tryd.func7, Tryd.ntmps7
      go_wp2_with fail
      ((with_reducible refine (awake_calls _).mono ?_); rintro e_ W1 ⟨rfl, hb⟩)
      have HB1 := Aside0.mk hb
      clear hb
      go_wp2_with fail
      ((with_reducible refine (hA1 _).mono ?_); rintro e_ W_ ⟨rfl, rfl⟩)
      go_wp2_with fail
      ((with_reducible refine (hA2 _).mono ?_); rintro e_ W_ ⟨rfl, rfl⟩)
      go_wp2_with fail
      ((with_reducible refine (hS1 _).mono ?_); rintro e_ W_ ⟨rfl, rfl⟩)
      go_wp2_with fail
      ((with_reducible refine (hS2 _).mono ?_); rintro e_ W_ ⟨rfl, rfl⟩)
      go_wp2_with fail
      ((with_reducible refine (hS3 _).mono ?_); rintro e_ W_ ⟨rfl, rfl⟩)
      go_wp2_with fail
      ((with_reducible refine (hS4 _).mono ?_); rintro e_ W_ ⟨rfl, rfl⟩)
      go_wp2_with fail
      ((with_reducible refine (hM1 _).mono ?_); rintro e_ W_ ⟨rfl, rfl⟩)
      go_wp2_with fail
      ((with_reducible refine (hM2 _).mono ?_); rintro e_ W_ ⟨rfl, rfl⟩)
      go_wp2_with fail
      ((with_reducible refine (hAB _).mono ?_); rintro e_ W_ ⟨rfl, rfl⟩)
      go_wp2_with fail
      ((with_reducible refine (hBA _).mono ?_); rintro e_ W_ ⟨rfl, rfl⟩)
      go_wp2_with fail
      ((with_reducible refine (hMAB _).mono ?_); rintro e_ W_ ⟨rfl, rfl⟩)
      go_wp2_with fail
      ((with_reducible refine (hMBA _).mono ?_); rintro e_ W_ ⟨rfl, rfl⟩)
      go_wp2_with fail
      ((with_reducible refine (hA0 _).mono ?_); rintro e_ W_ ⟨rfl, rfl⟩)
      go_wp2_with fail
      ((with_reducible refine (hS0 _).mono ?_); rintro e_ W_ ⟨rfl, rfl⟩)
      go_wp2_with fail
      ((with_reducible refine (hM3 _).mono ?_); rintro e_ W_ ⟨rfl, rfl⟩)
      go_wp2_with fail
      ((with_reducible refine (hM0 _).mono ?_); rintro e_ W_ ⟨rfl, rfl⟩)
      go_wp2_with fail
      ((with_reducible refine (hD _).mono ?_); rintro e_ W_ ⟨rfl, n1, rfl⟩)
      have HB2 := Aside0.mk (pw_below_drewN HB1.out n1)
      go_wp2_with fail
      ((with_reducible refine (hAB _).mono ?_); rintro e_ W_ ⟨rfl, rfl⟩)
      clear hA1 hA2 hS1 hS2 hS3 hS4 hM1 hM2 hAB hBA hMAB hMBA hA0 hS0 hM3 hM0 hD
      go_wp2
      go_ret
      exact ⟨rfl, HB2.out⟩
    have f2 : (s == -9223372036854775808) = false := beq_eq_false_iff_ne.2 b2
    have hv : v = a := by
      rcases hback with h | h | h
      · exact absurd h b1
      · exact absurd h b2
      · exact h
    subst hv
    · clear b1 b2 hback hlu
      go_enter Tryd.func7, Tryd.ntmps7
      go_wp2_with fail
      ((with_reducible refine (awake_calls _).mono ?_); rintro e_ W1 ⟨rfl, hb⟩)
      have HB1 := Aside0.mk hb
      clear hb
      go_wp2_with fail
      ((with_reducible refine (hA1 _).mono ?_); rintro e_ W_ ⟨rfl, rfl⟩)
      go_wp2_with fail
      ((with_reducible refine (hA2 _).mono ?_); rintro e_ W_ ⟨rfl, rfl⟩)
      go_wp2_with fail
      ((with_reducible refine (hS1 _).mono ?_); rintro e_ W_ ⟨rfl, rfl⟩)
      go_wp2_with fail
      ((with_reducible refine (hS2 _).mono ?_); rintro e_ W_ ⟨rfl, rfl⟩)
      go_wp2_with fail
      ((with_reducible refine (hS3 _).mono ?_); rintro e_ W_ ⟨rfl, rfl⟩)
      go_wp2_with fail
      ((with_reducible refine (hS4 _).mono ?_); rintro e_ W_ ⟨rfl, rfl⟩)
      go_wp2_with fail
      ((with_reducible refine (hM1 _).mono ?_); rintro e_ W_ ⟨rfl, rfl⟩)
      go_wp2_with fail
      ((with_reducible refine (hM2 _).mono ?_); rintro e_ W_ ⟨rfl, rfl⟩)
      go_wp2_with fail
      ((with_reducible refine (hAB _).mono ?_); rintro e_ W_ ⟨rfl, rfl⟩)
      go_wp2_with fail
      ((with_reducible refine (hBA _).mono ?_); rintro e_ W_ ⟨rfl, rfl⟩)
      go_wp2_with fail
      ((with_reducible refine (hMAB _).mono ?_); rintro e_ W_ ⟨rfl, rfl⟩)
      go_wp2_with fail
      ((with_reducible refine (hMBA _).mono ?_); rintro e_ W_ ⟨rfl, rfl⟩)
      go_wp2_with fail
      ((with_reducible refine (hA0 _).mono ?_); rintro e_ W_ ⟨rfl, rfl⟩)
      go_wp2_with fail
      ((with_reducible refine (hS0 _).mono ?_); rintro e_ W_ ⟨rfl, rfl⟩)
      go_wp2_with fail
      ((with_reducible refine (hM3 _).mono ?_); rintro e_ W_ ⟨rfl, rfl⟩)
      go_wp2_with fail
      ((with_reducible refine (hM0 _).mono ?_); rintro e_ W_ ⟨rfl, rfl⟩)
      go_wp2_with fail
      ((with_reducible refine (hD _).mono ?_); rintro e_ W_ ⟨rfl, n1, rfl⟩)
      have HB2 := Aside0.mk (pw_below_drewN HB1.out n1)
      go_wp2_with fail
      ((with_reducible refine (hAB _).mono ?_); rintro e_ W_ ⟨rfl, rfl⟩)
      clear hA1 hA2 hS1 hS2 hS3 hS4 hM1 hM2 hAB hBA hMAB hMBA hA0 hS0 hM3 hM0 hD
      go_wp2_with fail
      ((with_reducible refine (hBK _).mono ?_); rintro e_ W_ ⟨rfl, rfl⟩)
      clear hBK
      go_wp2
      go_ret
      exact ⟨rfl, HB2.out⟩
  · have g1 : decide (c < 0) = false := decide_eq_false hc0
    have g2 : decide (0 ≤ c) = true := decide_eq_true (by omega)
    have m4 := mulF_mono (a := l) (b := u) (c := c) hlu (by omega)
    have e4 : decide (mulF l c ≤ mulF u c) = true := decide_eq_true m4
    clear m4 hc0
    generalize mulF l c = y1 at hM1 e4
    generalize mulF u c = y2 at hM2 e4
    by_cases b1 : s = 9223372036854775807
    · have f1 : (s == 9223372036854775807) = true := beq_iff_eq.2 b1
      clear b1 hback hlu
      go_enter Tryd.func7, Tryd.ntmps7
      go_wp2_with fail
      ((with_reducible refine (awake_calls _).mono ?_); rintro e_ W1 ⟨rfl, hb⟩)
      have HB1 := Aside0.mk hb
      clear hb
      go_wp2_with fail
      ((with_reducible refine (hA1 _).mono ?_); rintro e_ W_ ⟨rfl, rfl⟩)
      go_wp2_with fail
      ((with_reducible refine (hA2 _).mono ?_); rintro e_ W_ ⟨rfl, rfl⟩)
      go_wp2_with fail
      ((with_reducible refine (hS1 _).mono ?_); rintro e_ W_ ⟨rfl, rfl⟩)
      go_wp2_with fail
      ((with_reducible refine (hS2 _).mono ?_); rintro e_ W_ ⟨rfl, rfl⟩)
      go_wp2_with fail
      ((with_reducible refine (hS3 _).mono ?_); rintro e_ W_ ⟨rfl, rfl⟩)
      go_wp2_with fail
      ((with_reducible refine (hS4 _).mono ?_); rintro e_ W_ ⟨rfl, rfl⟩)
      go_wp2_with fail
      ((with_reducible refine (hM1 _).mono ?_); rintro e_ W_ ⟨rfl, rfl⟩)
      go_wp2_with fail
      ((with_reducible refine (hM2 _).mono ?_); rintro e_ W_ ⟨rfl, rfl⟩)
      go_wp2_with fail
      ((with_reducible refine (hAB _).mono ?_); rintro e_ W_ ⟨rfl, rfl⟩)
      go_wp2_with fail
      ((with_reducible refine (hBA _).mono ?_); rintro e_ W_ ⟨rfl, rfl⟩)
      go_wp2_with fail
      ((with_reducible refine (hMAB _).mono ?_); rintro e_ W_ ⟨rfl, rfl⟩)
      go_wp2_with fail
      ((with_reducible refine (hMBA _).mono ?_); rintro e_ W_ ⟨rfl, rfl⟩)
      go_wp2_with fail
      ((with_reducible refine (hA0 _).mono ?_); rintro e_ W_ ⟨rfl, rfl⟩)
      go_wp2_with fail
      ((with_reducible refine (hS0 _).mono ?_); rintro e_ W_ ⟨rfl, rfl⟩)
      go_wp2_with fail
      ((with_reducible refine (hM3 _).mono ?_); rintro e_ W_ ⟨rfl, rfl⟩)
      go_wp2_with fail
      ((with_reducible refine (hM0 _).mono ?_); rintro e_ W_ ⟨rfl, rfl⟩)
      go_wp2_with fail
      ((with_reducible refine (hD _).mono ?_); rintro e_ W_ ⟨rfl, n1, rfl⟩)
      have HB2 := Aside0.mk (pw_below_drewN HB1.out n1)
      go_wp2_with fail
      ((with_reducible refine (hAB _).mono ?_); rintro e_ W_ ⟨rfl, rfl⟩)
      clear hA1 hA2 hS1 hS2 hS3 hS4 hM1 hM2 hAB hBA hMAB hMBA hA0 hS0 hM3 hM0 hD
      go_wp2
      go_ret
      exact ⟨rfl, HB2.out⟩
    have f1 : (s == 9223372036854775807) = false := beq_eq_false_iff_ne.2 b1
    by_cases b2 : s = -9223372036854775808
    · have f2 : (s == -9223372036854775808) = true := beq_iff_eq.2 b2
      clear b1 b2 hback hlu
      go_enter Tryd.func7, Tryd.ntmps7
      go_wp2_with fail
      ((with_reducible refine (awake_calls _).mono ?_); rintro e_ W1 ⟨rfl, hb⟩)
      have HB1 := Aside0.mk hb
      clear hb
      go_wp2_with fail
      ((with_reducible refine (hA1 _).mono ?_); rintro e_ W_ ⟨rfl, rfl⟩)
      go_wp2_with fail
      ((with_reducible refine (hA2 _).mono ?_); rintro e_ W_ ⟨rfl, rfl⟩)
      go_wp2_with fail
      ((with_reducible refine (hS1 _).mono ?_); rintro e_ W_ ⟨rfl, rfl⟩)
      go_wp2_with fail
      ((with_reducible refine (hS2 _).mono ?_); rintro e_ W_ ⟨rfl, rfl⟩)
      go_wp2_with fail
      ((with_reducible refine (hS3 _).mono ?_); rintro e_ W_ ⟨rfl, rfl⟩)
      go_wp2_with fail
      ((with_reducible refine (hS4 _).mono ?_); rintro e_ W_ ⟨rfl, rfl⟩)
      go_wp2_with fail
      ((with_reducible refine (hM1 _).mono ?_); rintro e_ W_ ⟨rfl, rfl⟩)
      go_wp2_with fail
      ((with_reducible refine (hM2 _).mono ?_); rintro e_ W_ ⟨rfl, rfl⟩)
      go_wp2_with fail
      ((with_reducible refine (hAB _).mono ?_); rintro e_ W_ ⟨rfl, rfl⟩)
      go_wp2_with fail
      ((with_reducible refine (hBA _).mono ?_); rintro e_ W_ ⟨rfl, rfl⟩)
      go_wp2_with fail
      ((with_reducible refine (hMAB _).mono ?_); rintro e_ W_ ⟨rfl, rfl⟩)
      go_wp2_with fail
      ((with_reducible refine (hMBA _).mono ?_); rintro e_ W_ ⟨rfl, rfl⟩)
      go_wp2_with fail
      ((with_reducible refine (hA0 _).mono ?_); rintro e_ W_ ⟨rfl, rfl⟩)
      go_wp2_with fail
      ((with_reducible refine (hS0 _).mono ?_); rintro e_ W_ ⟨rfl, rfl⟩)
      go_wp2_with fail
      ((with_reducible refine (hM3 _).mono ?_); rintro e_ W_ ⟨rfl, rfl⟩)
      go_wp2_with fail
      ((with_reducible refine (hM0 _).mono ?_); rintro e_ W_ ⟨rfl, rfl⟩)
      go_wp2_with fail
      ((with_reducible refine (hD _).mono ?_); rintro e_ W_ ⟨rfl, n1, rfl⟩)
      have HB2 := Aside0.mk (pw_below_drewN HB1.out n1)
      go_wp2_with fail
      ((with_reducible refine (hAB _).mono ?_); rintro e_ W_ ⟨rfl, rfl⟩)
      clear hA1 hA2 hS1 hS2 hS3 hS4 hM1 hM2 hAB hBA hMAB hMBA hA0 hS0 hM3 hM0 hD
      go_wp2
      go_ret
      exact ⟨rfl, HB2.out⟩
    have f2 : (s == -9223372036854775808) = false := beq_eq_false_iff_ne.2 b2
    have hv : v = a := by
      rcases hback with h | h | h
      · exact absurd h b1
      · exact absurd h b2
      · exact h
    subst hv
    · clear b1 b2 hback hlu
      go_enter Tryd.func7, Tryd.ntmps7
      go_wp2_with fail
      ((with_reducible refine (awake_calls _).mono ?_); rintro e_ W1 ⟨rfl, hb⟩)
      have HB1 := Aside0.mk hb
      clear hb
      go_wp2_with fail
      ((with_reducible refine (hA1 _).mono ?_); rintro e_ W_ ⟨rfl, rfl⟩)
      go_wp2_with fail
      ((with_reducible refine (hA2 _).mono ?_); rintro e_ W_ ⟨rfl, rfl⟩)
      go_wp2_with fail
      ((with_reducible refine (hS1 _).mono ?_); rintro e_ W_ ⟨rfl, rfl⟩)
      go_wp2_with fail
      ((with_reducible refine (hS2 _).mono ?_); rintro e_ W_ ⟨rfl, rfl⟩)
      go_wp2_with fail
      ((with_reducible refine (hS3 _).mono ?_); rintro e_ W_ ⟨rfl, rfl⟩)
      go_wp2_with fail
      ((with_reducible refine (hS4 _).mono ?_); rintro e_ W_ ⟨rfl, rfl⟩)
      go_wp2_with fail
      ((with_reducible refine (hM1 _).mono ?_); rintro e_ W_ ⟨rfl, rfl⟩)
      go_wp2_with fail
      ((with_reducible refine (hM2 _).mono ?_); rintro e_ W_ ⟨rfl, rfl⟩)
      go_wp2_with fail
      ((with_reducible refine (hAB _).mono ?_); rintro e_ W_ ⟨rfl, rfl⟩)
      go_wp2_with fail
      ((with_reducible refine (hBA _).mono ?_); rintro e_ W_ ⟨rfl, rfl⟩)
      go_wp2_with fail
      ((with_reducible refine (hMAB _).mono ?_); rintro e_ W_ ⟨rfl, rfl⟩)
      go_wp2_with fail
      ((with_reducible refine (hMBA _).mono ?_); rintro e_ W_ ⟨rfl, rfl⟩)
      go_wp2_with fail
      ((with_reducible refine (hA0 _).mono ?_); rintro e_ W_ ⟨rfl, rfl⟩)
      go_wp2_with fail
      ((with_reducible refine (hS0 _).mono ?_); rintro e_ W_ ⟨rfl, rfl⟩)
      go_wp2_with fail
      ((with_reducible refine (hM3 _).mono ?_); rintro e_ W_ ⟨rfl, rfl⟩)
      go_wp2_with fail
      ((with_reducible refine (hM0 _).mono ?_); rintro e_ W_ ⟨rfl, rfl⟩)
      go_wp2_with fail
      ((with_reducible refine (hD _).mono ?_); rintro e_ W_ ⟨rfl, n1, rfl⟩)
      have HB2 := Aside0.mk (pw_below_drewN HB1.out n1)
      go_wp2_with fail
      ((with_reducible refine (hAB _).mono ?_); rintro e_ W_ ⟨rfl, rfl⟩)
      clear hA1 hA2 hS1 hS2 hS3 hS4 hM1 hM2 hAB hBA hMAB hMBA hA0 hS0 hM3 hM0 hD
      go_wp2_with fail
      ((with_reducible refine (hBK _).mono ?_); rintro e_ W_ ⟨rfl, rfl⟩)
      clear hBK
      go_wp2
      go_ret
      exact ⟨rfl, HB2.out⟩
end Go.Proofs.YtcnibfancjofhaaDoor
