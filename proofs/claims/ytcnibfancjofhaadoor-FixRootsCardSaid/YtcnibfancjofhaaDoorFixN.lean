/- The laws FixRoots, FixOrder, FixSigns, FixDivides, FixWhole, walked. -/
import Derived.Test.YtcnibfancjofhaaDoorFixM
namespace Go.Proofs.YtcnibfancjofhaaDoor
open Go.RowKit Go.Proofs.YtcnibfancjofhaaDoorW.PrintWords Go.Proofs.YtcnibfancjofhaaDoorW.PrintLast Go.Proofs.YtcnibfancjofhaaDoorW.PrintMore
set_option linter.unusedVariables false
set_option linter.unusedSimpArgs false
set_option maxHeartbeats 8000000 in
set_option maxRecDepth 100000 in
theorem FixRoots_calls (a : Int) (w : World) (ha : -9223372036854775808 ≤ a ∧ a ≤ 9223372036854775807) : Calls Tryd.prog 4 #[.int .i64 a] w fun e w' => e = .returned (.bool true) ∧ Below w.heap.size w w' := by
  by_cases h0 : a < 0
  · have d0 : decide (a < 0) = true := decide_eq_true h0
    have hS := fun W => Sqrt_neg a W h0
    go_enter Tryd.func4, Tryd.ntmps4
    go_wp2_with fail
    ((with_reducible refine (awake_calls _).mono ?_); rintro e_ W1 ⟨rfl, hb⟩)
    have HB1 := Aside0.mk hb
    clear hb
    go_wp2_with fail
    ((with_reducible refine (hS _).mono ?_); rintro e_ W2 ⟨rfl, rfl⟩)
    clear hS h0
    go_wp2
    go_ret
    exact ⟨rfl, HB1.out⟩
  · have hS := fun W => Sqrt_calls a W (by omega) ha.2
    have h0' : 0 ≤ a := by omega
    go_enter Tryd.func4, Tryd.ntmps4
    go_wp2_with fail
    ((with_reducible refine (awake_calls _).mono ?_); rintro e_ W1 ⟨rfl, hb⟩)
    have HB1 := Aside0.mk hb
    clear hb
    go_wp2_with fail
    ((with_reducible refine (hS _).mono ?_); rintro e_ W2 ⟨n, rfl, rfl, hr⟩)
    clear hS
    have hlo := root_low ⟨h0', ha.2⟩ hr
    have hhi := root_high ⟨h0', ha.2⟩ hr
    have hlt := root_lt ha.2 hr
    have hn0 := hr.1
    have d1 : decide (0 ≤ n) = true := decide_eq_true hn0
    have d2 : decide (mulF n n ≤ a) = true := decide_eq_true hlo
    have d3 : decide (a ≤ mulF (n + 1) (n + 1)) = true := decide_eq_true hhi
    have hw : IntKind.i64.wrap (n + 1) = n + 1 := by rw [wrap_i64]; omega
    have hM1 := fun W => Mul_calls n n W (by unfold In64; omega) (by unfold In64; omega)
    have hM2 := fun W => Mul_calls (n + 1) (n + 1) W (by unfold In64; omega) (by unfold In64; omega)
    clear hlo hhi hr
    generalize mulF n n = x at d2 hM1
    generalize mulF (n + 1) (n + 1) = y at d3 hM2
    go_wp2_with fail
    ((with_reducible refine (hM1 _).mono ?_); rintro e_ W3 ⟨rfl, rfl⟩)
    go_wp2_with fail
    ((with_reducible refine (hM2 _).mono ?_); rintro e_ W4 ⟨rfl, rfl⟩)
    clear hM1 hM2
    go_wp2
    go_ret
    exact ⟨rfl, HB1.out⟩
end Go.Proofs.YtcnibfancjofhaaDoor
