/- The law FixTexts, walked. -/
import Derived.Test.YtcnibfancjofhaaDoorRfJ
import Derived.Test.YtcnibfancjofhaaDoorFixV
namespace Go.Proofs.YtcnibfancjofhaaDoor
open Go.RowKit Go.Proofs.YtcnibfancjofhaaDoorW.PrintWords Go.Proofs.YtcnibfancjofhaaDoorW.PrintLast Go.Proofs.YtcnibfancjofhaaDoorW.PrintMore
set_option linter.unusedVariables false
set_option linter.unusedSimpArgs false
/-- The text of a number. -/
def printS (a : Int) : ByteArray := if a < 0 then ⟨(45 :: printF (-a)).toArray⟩ else ⟨(printF a).toArray⟩
theorem Print_calls (a : Int) (h0 : -9223372036854775808 ≤ a) (h1 : a ≤ 9223372036854775807) (w : World) (hT : PowT w) :
    Calls Tryd.prog 14 #[.int .i64 a] w fun e w' => e = .returned (.string (printS a)) ∧ Below w.heap.size w w' := by
  unfold printS
  by_cases h : a < 0
  · rw [if_pos h]; exact Print_neg a (-a) rfl h h0 w hT
  · rw [if_neg h]; exact Print_pos a (by omega) h1 w hT
theorem rPrint_calls (a : Int) (h0 : -9223372036854775808 ≤ a) (h1 : a ≤ 9223372036854775807) (w : World) :
    Calls Tryd.prog 15 #[.int .i64 a] w fun e w' => e = .returned (.string (printS a)) ∧ Below w.heap.size w w' := by
  unfold printS
  by_cases h : a < 0
  · rw [if_pos h]; exact rPrint_neg a (-a) w ⟨h0, h1⟩ (decide_eq_true h) (by omega)
  · rw [if_neg h]; exact rPrint_pos a a w ⟨h0, h1⟩ (decide_eq_false h) (by omega)
set_option maxHeartbeats 8000000 in
set_option maxRecDepth 100000 in
theorem FixTexts_calls (s : ByteArray) (a : Int) (w : World) (hW : FixW w) (hs : s.size ≤ 140737488355328) (ha : -9223372036854775808 ≤ a ∧ a ≤ 9223372036854775807) : Calls Tryd.prog 3 #[.string s, .int .i64 a] w fun e w' => e = .returned (.bool true) ∧ Below w.heap.size w w' := by
  have HW := Aside0.mk hW
  clear hW
  have hP := fun W h => Parse_exact s W hs h
  have hR := fun W => rParse_calls s W (by omega)
  have hQ := fun W h => Print_calls a ha.1 ha.2 W h
  have hX := fun W => rPrint_calls a ha.1 ha.2 W
  generalize parseV s = pv at hP hR
  generalize printS a = ps at hQ hX
  obtain ⟨x, e⟩ := pv
  go_enter Tryd.func3, Tryd.ntmps3
  go_wp2_with fail
  ((with_reducible refine (awake_calls _).mono ?_); rintro e_ W1 ⟨rfl, hb⟩)
  have HB1 := Aside0.mk hb
  clear hb
  go_wp2_with fail
  ((with_reducible refine (hP W1 (HW.out.below HB1.out)).mono ?_); rintro e_ W2 ⟨rfl, hb⟩)
  have HB2 := Aside0.mk (below_step HB1.out hb)
  clear hb hP
  go_wp2_with fail
  ((with_reducible refine (hR W2).mono ?_); rintro e_ W3 ⟨rfl, hb⟩)
  have HB3 := Aside0.mk (below_step HB2.out hb)
  clear hb hR
  go_wp2_with fail
  ((with_reducible refine (hQ W3 (HW.out.below HB3.out).pow).mono ?_); rintro e_ W4 ⟨rfl, hb⟩)
  have HB4 := Aside0.mk (below_step HB3.out hb)
  clear hb hQ
  go_wp2_with fail
  ((with_reducible refine (hX W4).mono ?_); rintro e_ W5 ⟨rfl, hb⟩)
  have HB5 := Aside0.mk (below_step HB4.out hb)
  clear hb hX
  go_wp2
  go_ret
  exact ⟨rfl, HB5.out⟩
end Go.Proofs.YtcnibfancjofhaaDoor
