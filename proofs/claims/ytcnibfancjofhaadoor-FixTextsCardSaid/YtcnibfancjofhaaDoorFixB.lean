/- size, signed, end, Add, Sub, From, To. -/
import Derived.Test.YtcnibfancjofhaaDoorFixA
import Derived.Test.YtcnibfancjofhaaDoorProg
namespace Go.Proofs.YtcnibfancjofhaaDoor
open Go.RowKit Go.Proofs.YtcnibfancjofhaaDoorW.PrintWords Go.Proofs.YtcnibfancjofhaaDoorW.PrintLast Go.Proofs.YtcnibfancjofhaaDoorW.PrintMore
set_option linter.unusedVariables false
set_option linter.unusedSimpArgs false

theorem wrap_u64 (z : Int) : IntKind.u64.wrap z = z % 18446744073709551616 := by simp [IntKind.wrap, IntKind.bits, IntKind.signed]
theorem wrap_i64 (z : Int) : IntKind.i64.wrap z = (z + 9223372036854775808) % 18446744073709551616 - 9223372036854775808 := IntKind.wrap_i64 z
theorem wrap64_eq (z : Int) : wrap64 z = (z + 9223372036854775808) % 18446744073709551616 - 9223372036854775808 := by unfold wrap64; first | rfl | omega
set_option maxHeartbeats 1000000 in
theorem size_calls (a : Int) (w : World) (h : In64 a) : Calls Tryd.prog 36 #[.int .i64 a] w fun e w' => e = .returned (.int .u64 (ab a)) ∧ w' = w := by
  unfold In64 at h
  by_cases ha : a < 0
  · rw [ab_neg ha]
    have da : decide (a < 0) = true := decide_eq_true ha
    go_enter Tryd.func36, Tryd.ntmps36
    go_wp2
    go_ret
    exact ⟨ret_int (by first | rfl | ((try simp only [wrap_u64]) <;> omega)), rfl⟩
  · rw [ab_pos (by omega)]
    have da : decide (a < 0) = false := decide_eq_false ha
    go_enter Tryd.func36, Tryd.ntmps36
    go_wp2
    go_ret
    exact ⟨ret_int (by first | rfl | ((try simp only [wrap_u64]) <;> omega)), rfl⟩
set_option maxHeartbeats 1000000 in
theorem end_calls (m : Bool) (w : World) : Calls Tryd.prog 45 #[.bool m] w fun e w' => e = .returned (.int .i64 (if m then -9223372036854775808 else 9223372036854775807)) ∧ w' = w := by
  cases m
  all_goals
    go_enter Tryd.func45, Tryd.ntmps45
    go_wp2
    go_ret
    exact ⟨rfl, rfl⟩
/-- The number that two words say. -/
def word2 (hi lo : Int) : Int := hi * 18446744073709551616 + lo
set_option maxHeartbeats 1000000 in
theorem signed_calls (hi lo : Int) (m : Bool) (w : World) (h1 : 0 ≤ hi ∧ hi < 18446744073709551616) (h2 : 0 ≤ lo ∧ lo < 18446744073709551616) : Calls Tryd.prog 43 #[.int .u64 hi, .int .u64 lo, .bool m] w fun e w' => e = .returned (.int .i64 (satS (word2 hi lo) m)) ∧ w' = w := by
  by_cases hg : 0 < hi ∨ 9223372036854775807 < lo
  · have hs : satS (word2 hi lo) m = if m then -9223372036854775808 else 9223372036854775807 := by
      unfold satS word2
      rw [if_pos (by omega)]
    rw [hs]
    clear hs
    have hc : decide (0 < hi) = true ∨ (decide (0 < hi) = false ∧ decide (9223372036854775807 < lo) = true) := by
      by_cases h : 0 < hi
      · exact .inl (decide_eq_true h)
      · exact .inr ⟨decide_eq_false h, decide_eq_true (by omega)⟩
    clear hg
    rcases hc with e1 | ⟨e1, e2⟩
    all_goals
      cases m
      all_goals
        go_enter Tryd.func43, Tryd.ntmps43
        go_wp2
        go_ret
        exact ⟨rfl, rfl⟩
  · have e1 : decide (0 < hi) = false := decide_eq_false (by omega)
    have e2 : decide (9223372036854775807 < lo) = false := decide_eq_false (by omega)
    have hs : satS (word2 hi lo) m = if m then -lo else lo := by
      have hh : hi = 0 := by omega
      unfold satS word2
      rw [if_neg (by omega), hh]
      simp
    rw [hs]
    clear hs
    have b1 : lo ≤ 9223372036854775807 := by omega
    clear hg
    cases m
    all_goals
      go_enter Tryd.func43, Tryd.ntmps43
      go_wp2
      go_ret
      first
        | exact ⟨rfl, rfl⟩
        | exact ⟨ret_int (by (try simp only [wrap_i64, wrap64_eq, Bool.false_eq_true, if_true, if_false]); omega), rfl⟩
set_option maxHeartbeats 2000000 in
theorem Add_calls (a b : Int) (w : World) (ha : In64 a) (hb : In64 b) : Calls Tryd.prog 19 #[.int .i64 a, .int .i64 b] w fun e w' => e = .returned (.int .i64 (addF a b)) ∧ w' = w := by
  unfold In64 at ha hb
  obtain ⟨s, hs⟩ : ∃ s, s = wrap64 (a + b) := ⟨_, rfl⟩
  have hsv : s = (a + b + 9223372036854775808) % 18446744073709551616 - 9223372036854775808 := by rw [hs]; unfold wrap64; first | rfl | omega
  have hw : wrap64 (a + b) = s := hs.symm
  have key : addF a b = if decide (a < 0) = decide (b < 0) ∧ decide (s < 0) ≠ decide (a < 0) then (if a < 0 then -9223372036854775808 else 9223372036854775807) else s := by
    unfold addF sat
    by_cases h1 : a < 0 <;> by_cases h2 : b < 0 <;> by_cases h3 : s < 0 <;> simp only [h1, h2, h3, decide_true, decide_false, ne_eq, not_true_eq_false, and_false, and_true, if_true, if_false, true_and, not_false_eq_true, Bool.false_eq_true, Bool.true_eq_false, false_and, reduceCtorEq] <;> (repeat' split) <;> omega
  rw [key]
  clear key
  by_cases h1 : a < 0 <;> by_cases h2 : b < 0 <;> by_cases h3 : s < 0
  all_goals
    simp only [h1, h2, h3, decide_true, decide_false, ne_eq, not_true_eq_false, and_false, and_true, if_true, if_false, true_and, not_false_eq_true, Bool.false_eq_true, Bool.true_eq_false, false_and, reduceCtorEq]
    first
      | have d1 : decide (a < 0) = true := decide_eq_true h1
      | have d1 : decide (a < 0) = false := decide_eq_false h1
    first
      | have d2 : decide (b < 0) = true := decide_eq_true h2
      | have d2 : decide (b < 0) = false := decide_eq_false h2
    first
      | have d3 : decide (s < 0) = true := decide_eq_true h3
      | have d3 : decide (s < 0) = false := decide_eq_false h3
    clear hs hsv h1 h2 h3 ha hb
    go_enter Tryd.func19, Tryd.ntmps19
    go_wp2_with (first | ((with_reducible refine (end_calls _ _).mono ?_); rintro e_ W1 ⟨rfl, rfl⟩))
    go_ret
    first
      | exact ⟨rfl, rfl⟩
      | exact ⟨ret_int hw, rfl⟩
set_option maxHeartbeats 2000000 in
theorem Sub_calls (a b : Int) (w : World) (ha : In64 a) (hb : In64 b) : Calls Tryd.prog 20 #[.int .i64 a, .int .i64 b] w fun e w' => e = .returned (.int .i64 (subF a b)) ∧ w' = w := by
  unfold In64 at ha hb
  obtain ⟨s, hs⟩ : ∃ s, s = wrap64 (a - b) := ⟨_, rfl⟩
  have hsv : s = (a - b + 9223372036854775808) % 18446744073709551616 - 9223372036854775808 := by rw [hs]; unfold wrap64; first | rfl | omega
  have hw : wrap64 (a - b) = s := hs.symm
  have key : subF a b = if decide (a < 0) ≠ decide (b < 0) ∧ decide (s < 0) ≠ decide (a < 0) then (if a < 0 then -9223372036854775808 else 9223372036854775807) else s := by
    unfold subF sat
    by_cases h1 : a < 0 <;> by_cases h2 : b < 0 <;> by_cases h3 : s < 0 <;> simp only [h1, h2, h3, decide_true, decide_false, ne_eq, not_true_eq_false, and_false, and_true, if_true, if_false, true_and, not_false_eq_true, Bool.false_eq_true, Bool.true_eq_false, false_and, reduceCtorEq] <;> (repeat' split) <;> omega
  rw [key]
  clear key
  by_cases h1 : a < 0 <;> by_cases h2 : b < 0 <;> by_cases h3 : s < 0
  all_goals
    simp only [h1, h2, h3, decide_true, decide_false, ne_eq, not_true_eq_false, and_false, and_true, if_true, if_false, true_and, not_false_eq_true, Bool.false_eq_true, Bool.true_eq_false, false_and, reduceCtorEq]
    first
      | have d1 : decide (a < 0) = true := decide_eq_true h1
      | have d1 : decide (a < 0) = false := decide_eq_false h1
    first
      | have d2 : decide (b < 0) = true := decide_eq_true h2
      | have d2 : decide (b < 0) = false := decide_eq_false h2
    first
      | have d3 : decide (s < 0) = true := decide_eq_true h3
      | have d3 : decide (s < 0) = false := decide_eq_false h3
    clear hs hsv h1 h2 h3 ha hb
    go_enter Tryd.func20, Tryd.ntmps20
    go_wp2_with (first | ((with_reducible refine (end_calls _ _).mono ?_); rintro e_ W1 ⟨rfl, rfl⟩))
    go_ret
    first
      | exact ⟨rfl, rfl⟩
      | exact ⟨ret_int hw, rfl⟩
set_option maxHeartbeats 2000000 in
theorem From_calls (a : Int) (w : World) (h : In64 a) : Calls Tryd.prog 26 #[.int .i64 a] w fun e w' => e = .returned (.int .i64 (fromF a)) ∧ w' = w := by
  have hn := ab_nonneg a
  have hl := ab_le h
  have HH := Aside0.mk h
  have hv : satS (word2 (ab a / 4294967296) (ab a * 4294967296 % 18446744073709551616)) (decide (a < 0)) = fromF a := by
    unfold fromF word2
    congr 1
    generalize ab a = x at *
    omega
  have HV := Aside0.mk hv
  clear hv h
  go_enter Tryd.func26, Tryd.ntmps26
  go_wp2_with fail
  ((with_reducible refine (size_calls _ _ HH.out).mono ?_); rintro e_ W1 ⟨rfl, rfl⟩)
  generalize ab a = x at hn hl HV ⊢
  go_wp2_with fail
  rw [wrap_u64]
  ((with_reducible refine (signed_calls _ _ _ _ (by omega) (by omega)).mono ?_); rintro e_ W2 ⟨rfl, rfl⟩)
  rw [HV.out]
  go_wp2
  go_ret
  exact ⟨rfl, rfl⟩
set_option maxHeartbeats 2000000 in
theorem To_calls (a : Int) (w : World) (h : In64 a) : Calls Tryd.prog 28 #[.int .i64 a] w fun e w' => e = .returned (.int .i64 (toF a)) ∧ w' = w := by
  have hn := ab_nonneg a
  have hl := ab_le h
  have HH := Aside0.mk h
  have hv : satS (word2 0 (ab a / 4294967296)) (decide (a < 0)) = toF a := by
    unfold toF word2
    congr 1
    omega
  have HV := Aside0.mk hv
  clear hv h
  go_enter Tryd.func28, Tryd.ntmps28
  go_wp2_with fail
  ((with_reducible refine (size_calls _ _ HH.out).mono ?_); rintro e_ W1 ⟨rfl, rfl⟩)
  generalize ab a = x at hn hl HV ⊢
  go_wp2_with fail
  ((with_reducible refine (signed_calls _ _ _ _ (by omega) (by omega)).mono ?_); rintro e_ W2 ⟨rfl, rfl⟩)
  rw [HV.out]
  go_wp2
  go_ret
  exact ⟨rfl, rfl⟩
end Go.Proofs.YtcnibfancjofhaaDoor
