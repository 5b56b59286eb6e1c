/- The law FixPrints, walked. -/
import Derived.Test.YtcnibfancjofhaaDoorFixT
namespace Go.Proofs.YtcnibfancjofhaaDoor
open Go.RowKit Go.Proofs.YtcnibfancjofhaaDoorW.PrintWords Go.Proofs.YtcnibfancjofhaaDoorW.PrintLast Go.Proofs.YtcnibfancjofhaaDoorW.PrintMore
set_option linter.unusedVariables false
set_option linter.unusedSimpArgs false
set_option maxHeartbeats 8000000 in
set_option maxRecDepth 100000 in
theorem FixPrints_calls (a : Int) (s : ByteArray) (w : World) (hW : FixW w) (ha : -9223372036854775808 ≤ a ∧ a ≤ 9223372036854775807) (hs : s.size ≤ 140737488355328) : Calls Tryd.prog 5 #[.int .i64 a, .string s] w fun e w' => e = .returned (.bool true) ∧ Below w.heap.size w w' := by
  have HW := Aside0.mk hW
  clear hW
  by_cases h0 : 0 ≤ a
  · have d0 : decide (0 ≤ a) = true := decide_eq_true h0
    have hPr := fun W h => Print_pos a h0 ha.2 W h
    have hPa := fun W => Parse_print a h0 ha.2 W
    generalize (⟨(printF a).toArray⟩ : ByteArray) = t at hPr hPa
    go_enter Tryd.func5, Tryd.ntmps5
    go_wp2_with fail
    ((with_reducible refine (awake_calls _).mono ?_); rintro e_ W1 ⟨rfl, hb⟩)
    have HB1 := Aside0.mk hb
    clear hb
    go_wp2_with fail
    ((with_reducible refine (hPr W1 (HW.out.below HB1.out).pow).mono ?_); rintro e_ W2 ⟨rfl, hb⟩)
    have HB2 := Aside0.mk (below_step HB1.out hb)
    clear hb
    go_wp2_with fail
    ((with_reducible refine (hPa W2).mono ?_); rintro e_ W3 ⟨rfl, hb⟩)
    have HB3 := Aside0.mk (below_step HB2.out hb)
    clear hb hPr hPa
    have hAny := Parse_any s W3 hs (HW.out.below HB3.out)
    go_wp2_with fail
    ((with_reducible refine hAny.mono ?_); rintro e_ W4 (⟨y, hy0, hy1, rfl, hb⟩ | ⟨rfl, hb⟩))
    · have HB4 := Aside0.mk (below_step HB3.out hb)
      clear hb hAny
      have dy : decide (0 ≤ y) = true := decide_eq_true hy0
      have hPr2 := fun W h => Print_pos y hy0 hy1 W h
      have hPa2 := fun W => Parse_print y hy0 hy1 W
      generalize (⟨(printF y).toArray⟩ : ByteArray) = t2 at hPr2 hPa2
      go_wp2_with fail
      ((with_reducible refine (hPr2 W4 (HW.out.below HB4.out).pow).mono ?_); rintro e_ W5 ⟨rfl, hb⟩)
      have HB5 := Aside0.mk (below_step HB4.out hb)
      clear hb
      go_wp2_with fail
      ((with_reducible refine (hPa2 W5).mono ?_); rintro e_ W6 ⟨rfl, hb⟩)
      have HB6 := Aside0.mk (below_step HB5.out hb)
      clear hb hPr2 hPa2
      go_wp2
      go_ret
      exact ⟨rfl, HB6.out⟩
    · have HB4 := Aside0.mk (below_step HB3.out hb)
      clear hb hAny
      go_wp2
      go_ret
      exact ⟨rfl, HB4.out⟩
  · have d0 : decide (0 ≤ a) = false := decide_eq_false h0
    obtain ⟨u, hu⟩ : ∃ u, u = -a := ⟨_, rfl⟩
    have hPr := fun W h => Print_neg a u hu (by omega) ha.1 W h
    have hPa := fun W => Parse_minus u (by omega) (by omega) W
    unfold ParseBad at hPa
    generalize (⟨(45 :: printF u).toArray⟩ : ByteArray) = t at hPr hPa
    clear hu
    go_enter Tryd.func5, Tryd.ntmps5
    go_wp2_with fail
    ((with_reducible refine (awake_calls _).mono ?_); rintro e_ W1 ⟨rfl, hb⟩)
    have HB1 := Aside0.mk hb
    clear hb
    go_wp2_with fail
    ((with_reducible refine (hPr W1 (HW.out.below HB1.out).pow).mono ?_); rintro e_ W2 ⟨rfl, hb⟩)
    have HB2 := Aside0.mk (below_step HB1.out hb)
    clear hb
    go_wp2_with fail
    ((with_reducible refine (hPa W2).mono ?_); rintro e_ W3 ⟨rfl, hb⟩)
    have HB3 := Aside0.mk (below_step HB2.out hb)
    clear hb hPr hPa
    have hAny := Parse_any s W3 hs (HW.out.below HB3.out)
    go_wp2_with fail
    ((with_reducible refine hAny.mono ?_); rintro e_ W4 (⟨y, hy0, hy1, rfl, hb⟩ | ⟨rfl, hb⟩))
    · have HB4 := Aside0.mk (below_step HB3.out hb)
      clear hb hAny
      have dy : decide (0 ≤ y) = true := decide_eq_true hy0
      have hPr2 := fun W h => Print_pos y hy0 hy1 W h
      have hPa2 := fun W => Parse_print y hy0 hy1 W
      generalize (⟨(printF y).toArray⟩ : ByteArray) = t2 at hPr2 hPa2
      go_wp2_with fail
      ((with_reducible refine (hPr2 W4 (HW.out.below HB4.out).pow).mono ?_); rintro e_ W5 ⟨rfl, hb⟩)
      have HB5 := Aside0.mk (below_step HB4.out hb)
      clear hb
      go_wp2_with fail
      ((with_reducible refine (hPa2 W5).mono ?_); rintro e_ W6 ⟨rfl, hb⟩)
      have HB6 := Aside0.mk (below_step HB5.out hb)
      clear hb hPr2 hPa2
      go_wp2
      go_ret
      exact ⟨rfl, HB6.out⟩
    · have HB4 := Aside0.mk (below_step HB3.out hb)
      clear hb hAny
      go_wp2
      go_ret
      exact ⟨rfl, HB4.out⟩
end Go.Proofs.YtcnibfancjofhaaDoor
