/- The law FixWorks, walked. -/
import Derived.Test.YtcnibfancjofhaaDoorRfH
import Derived.Test.YtcnibfancjofhaaDoorFixM
namespace Go.Proofs.YtcnibfancjofhaaDoor
open Go.RowKit Go.Proofs.YtcnibfancjofhaaDoorW.PrintWords Go.Proofs.YtcnibfancjofhaaDoorW.PrintLast Go.Proofs.YtcnibfancjofhaaDoorW.PrintMore
set_option linter.unusedVariables false
set_option linter.unusedSimpArgs false
theorem drew_below {P : Program} {f : FuncId} {args : Array Value} {v : Ending} {w : World} (h : Calls P f args w fun e w' => e = v ∧ ∃ n, w' = w.drewN n) : Calls P f args w fun e w' => e = v ∧ Below w.heap.size w w' :=
  h.mono fun _ _ ⟨he, n, hn⟩ => ⟨he, by rw [hn]; exact pw_below_drewN (Below.refl _ _) n⟩
theorem in64_hi {a : Int} (h : In64 a) : a ≤ 9223372036854775807 := h.2
set_option maxHeartbeats 8000000 in
set_option maxRecDepth 100000 in
theorem works_1 (a b : Int) (w : World) (ha : In64 a) (hb : In64 b) (hb0 : b = 0) (ha0 : a < 0) :
    Calls Tryd.prog 9 #[.int .i64 a, .int .i64 b] w fun e w' => e = .returned (.bool true) ∧ Below w.heap.size w w' := by
  subst hb0
  have HB := Aside0.mk (Below.refl w.heap.size w)
  go_enter Tryd.func9, Tryd.ntmps9
  go_wp2_with fail
  ((with_reducible refine (awake_calls _).mono ?_); rintro e_ W1 ⟨rfl, hb_⟩)
  have n_ := Aside0.mk (below_step HB.out hb_); clear HB; have HB := n_; clear n_ hb_
  go_wp2_with fail
  ((with_reducible refine (Div_zero _ _).mono ?_); rintro e_ W_ ⟨rfl, rfl⟩)
  go_wp2_with fail
  ((with_reducible refine (Sqrt_neg a _ ha0).mono ?_); rintro e_ W_ ⟨rfl, rfl⟩)
  go_wp2_with fail
  ((with_reducible refine (rdiv_zero _ _).mono ?_); rintro e_ W2 ⟨rfl, hb_⟩)
  have n_ := Aside0.mk (below_step HB.out hb_); clear HB; have HB := n_; clear n_ hb_
  go_wp2_with fail
  ((with_reducible refine (rsqrt_neg a _ ha0).mono ?_); rintro e_ W3 ⟨rfl, hb_⟩)
  have n_ := Aside0.mk (below_step HB.out hb_); clear HB; have HB := n_; clear n_ hb_
  go_wp2_with fail
  ((with_reducible refine (Add_calls a 0 _ ha hb).mono ?_); rintro e_ W_ ⟨rfl, rfl⟩)
  go_wp2_with fail
  ((with_reducible refine (drew_below (rAdd_calls a 0 _ ha hb)).mono ?_); rintro e_ W4 ⟨rfl, hb_⟩)
  have n_ := Aside0.mk (below_step HB.out hb_); clear HB; have HB := n_; clear n_ hb_
  go_wp2_with fail
  ((with_reducible refine (Sub_calls a 0 _ ha hb).mono ?_); rintro e_ W_ ⟨rfl, rfl⟩)
  go_wp2_with fail
  ((with_reducible refine (drew_below (rSub_calls a 0 _ ha hb)).mono ?_); rintro e_ W5 ⟨rfl, hb_⟩)
  have n_ := Aside0.mk (below_step HB.out hb_); clear HB; have HB := n_; clear n_ hb_
  go_wp2_with fail
  ((with_reducible refine (Mul_calls a 0 _ ha hb).mono ?_); rintro e_ W_ ⟨rfl, rfl⟩)
  go_wp2_with fail
  ((with_reducible refine (rmul_calls a 0 _ (i64_of ha) (i64_of hb)).mono ?_); rintro e_ W6 ⟨rfl, hb_⟩)
  have n_ := Aside0.mk (below_step HB.out hb_); clear HB; have HB := n_; clear n_ hb_
  go_wp2_with fail
  ((with_reducible refine (From_calls a _ ha).mono ?_); rintro e_ W_ ⟨rfl, rfl⟩)
  go_wp2_with fail
  ((with_reducible refine (rfrom_calls a _ (i64_of ha)).mono ?_); rintro e_ W7 ⟨rfl, hb_⟩)
  have n_ := Aside0.mk (below_step HB.out hb_); clear HB; have HB := n_; clear n_ hb_
  go_wp2_with fail
  ((with_reducible refine (To_calls a _ ha).mono ?_); rintro e_ W_ ⟨rfl, rfl⟩)
  go_wp2_with fail
  ((with_reducible refine (rto_calls a _ (i64_of ha)).mono ?_); rintro e_ W8 ⟨rfl, hb_⟩)
  have n_ := Aside0.mk (below_step HB.out hb_); clear HB; have HB := n_; clear n_ hb_
  go_wp2
  go_ret
  exact ⟨rfl, HB.out⟩
set_option maxHeartbeats 8000000 in
set_option maxRecDepth 100000 in
theorem works_2 (a b : Int) (w : World) (ha : In64 a) (hb : In64 b) (hb0 : b = 0) (ha0 : 0 ≤ a) :
    Calls Tryd.prog 9 #[.int .i64 a, .int .i64 b] w fun e w' => e = .returned (.bool true) ∧ Below w.heap.size w w' := by
  subst hb0
  have HB := Aside0.mk (Below.refl w.heap.size w)
  go_enter Tryd.func9, Tryd.ntmps9
  go_wp2_with fail
  ((with_reducible refine (awake_calls _).mono ?_); rintro e_ W9 ⟨rfl, hb_⟩)
  have n_ := Aside0.mk (below_step HB.out hb_); clear HB; have HB := n_; clear n_ hb_
  go_wp2_with fail
  ((with_reducible refine (Div_zero _ _).mono ?_); rintro e_ W_ ⟨rfl, rfl⟩)
  go_wp2_with fail
  ((with_reducible refine (Sqrt_calls a _ ha0 (in64_hi ha)).mono ?_); rintro e_ W_ ⟨n, rfl, rfl, hroot⟩)
  have HR := Aside0.mk hroot; clear hroot
  go_wp2_with fail
  ((with_reducible refine (rdiv_zero _ _).mono ?_); rintro e_ W10 ⟨rfl, hb_⟩)
  have n_ := Aside0.mk (below_step HB.out hb_); clear HB; have HB := n_; clear n_ hb_
  go_wp2_with fail
  ((with_reducible refine (rsqrt_calls a n _ ha0 (in64_hi ha) HR.out).mono ?_); rintro e_ W11 ⟨rfl, hb_⟩)
  have n_ := Aside0.mk (below_step HB.out hb_); clear HB; have HB := n_; clear n_ hb_
  go_wp2_with fail
  ((with_reducible refine (Add_calls a 0 _ ha hb).mono ?_); rintro e_ W_ ⟨rfl, rfl⟩)
  go_wp2_with fail
  ((with_reducible refine (drew_below (rAdd_calls a 0 _ ha hb)).mono ?_); rintro e_ W12 ⟨rfl, hb_⟩)
  have n_ := Aside0.mk (below_step HB.out hb_); clear HB; have HB := n_; clear n_ hb_
  go_wp2_with fail
  ((with_reducible refine (Sub_calls a 0 _ ha hb).mono ?_); rintro e_ W_ ⟨rfl, rfl⟩)
  go_wp2_with fail
  ((with_reducible refine (drew_below (rSub_calls a 0 _ ha hb)).mono ?_); rintro e_ W13 ⟨rfl, hb_⟩)
  have n_ := Aside0.mk (below_step HB.out hb_); clear HB; have HB := n_; clear n_ hb_
  go_wp2_with fail
  ((with_reducible refine (Mul_calls a 0 _ ha hb).mono ?_); rintro e_ W_ ⟨rfl, rfl⟩)
  go_wp2_with fail
  ((with_reducible refine (rmul_calls a 0 _ (i64_of ha) (i64_of hb)).mono ?_); rintro e_ W14 ⟨rfl, hb_⟩)
  have n_ := Aside0.mk (below_step HB.out hb_); clear HB; have HB := n_; clear n_ hb_
  go_wp2_with fail
  ((with_reducible refine (From_calls a _ ha).mono ?_); rintro e_ W_ ⟨rfl, rfl⟩)
  go_wp2_with fail
  ((with_reducible refine (rfrom_calls a _ (i64_of ha)).mono ?_); rintro e_ W15 ⟨rfl, hb_⟩)
  have n_ := Aside0.mk (below_step HB.out hb_); clear HB; have HB := n_; clear n_ hb_
  go_wp2_with fail
  ((with_reducible refine (To_calls a _ ha).mono ?_); rintro e_ W_ ⟨rfl, rfl⟩)
  go_wp2_with fail
  ((with_reducible refine (rto_calls a _ (i64_of ha)).mono ?_); rintro e_ W16 ⟨rfl, hb_⟩)
  have n_ := Aside0.mk (below_step HB.out hb_); clear HB; have HB := n_; clear n_ hb_
  go_wp2
  go_ret
  exact ⟨rfl, HB.out⟩
set_option maxHeartbeats 8000000 in
set_option maxRecDepth 100000 in
theorem works_3 (a b : Int) (w : World) (ha : In64 a) (hb : In64 b) (hb0 : b ≠ 0) (ha0 : a < 0) :
    Calls Tryd.prog 9 #[.int .i64 a, .int .i64 b] w fun e w' => e = .returned (.bool true) ∧ Below w.heap.size w w' := by
  have HB0 := Lib.hid hb0; clear hb0
  have HB := Aside0.mk (Below.refl w.heap.size w)
  go_enter Tryd.func9, Tryd.ntmps9
  go_wp2_with fail
  ((with_reducible refine (awake_calls _).mono ?_); rintro e_ W17 ⟨rfl, hb_⟩)
  have n_ := Aside0.mk (below_step HB.out hb_); clear HB; have HB := n_; clear n_ hb_
  go_wp2_with fail
  ((with_reducible refine (drew_below (Div_calls a b _ ha hb HB0.out)).mono ?_); rintro e_ W18 ⟨rfl, hb_⟩)
  have n_ := Aside0.mk (below_step HB.out hb_); clear HB; have HB := n_; clear n_ hb_
  go_wp2_with fail
  ((with_reducible refine (Sqrt_neg a _ ha0).mono ?_); rintro e_ W_ ⟨rfl, rfl⟩)
  go_wp2_with fail
  ((with_reducible refine (rdiv_calls a b _ (i64_of ha) (i64_of hb) HB0.out).mono ?_); rintro e_ W19 ⟨rfl, hb_⟩)
  have n_ := Aside0.mk (below_step HB.out hb_); clear HB; have HB := n_; clear n_ hb_
  go_wp2_with fail
  ((with_reducible refine (rsqrt_neg a _ ha0).mono ?_); rintro e_ W20 ⟨rfl, hb_⟩)
  have n_ := Aside0.mk (below_step HB.out hb_); clear HB; have HB := n_; clear n_ hb_
  go_wp2_with fail
  ((with_reducible refine (Add_calls a b _ ha hb).mono ?_); rintro e_ W_ ⟨rfl, rfl⟩)
  go_wp2_with fail
  ((with_reducible refine (drew_below (rAdd_calls a b _ ha hb)).mono ?_); rintro e_ W21 ⟨rfl, hb_⟩)
  have n_ := Aside0.mk (below_step HB.out hb_); clear HB; have HB := n_; clear n_ hb_
  go_wp2_with fail
  ((with_reducible refine (Sub_calls a b _ ha hb).mono ?_); rintro e_ W_ ⟨rfl, rfl⟩)
  go_wp2_with fail
  ((with_reducible refine (drew_below (rSub_calls a b _ ha hb)).mono ?_); rintro e_ W22 ⟨rfl, hb_⟩)
  have n_ := Aside0.mk (below_step HB.out hb_); clear HB; have HB := n_; clear n_ hb_
  go_wp2_with fail
  ((with_reducible refine (Mul_calls a b _ ha hb).mono ?_); rintro e_ W_ ⟨rfl, rfl⟩)
  go_wp2_with fail
  ((with_reducible refine (rmul_calls a b _ (i64_of ha) (i64_of hb)).mono ?_); rintro e_ W23 ⟨rfl, hb_⟩)
  have n_ := Aside0.mk (below_step HB.out hb_); clear HB; have HB := n_; clear n_ hb_
  go_wp2_with fail
  ((with_reducible refine (From_calls a _ ha).mono ?_); rintro e_ W_ ⟨rfl, rfl⟩)
  go_wp2_with fail
  ((with_reducible refine (rfrom_calls a _ (i64_of ha)).mono ?_); rintro e_ W24 ⟨rfl, hb_⟩)
  have n_ := Aside0.mk (below_step HB.out hb_); clear HB; have HB := n_; clear n_ hb_
  go_wp2_with fail
  ((with_reducible refine (To_calls a _ ha).mono ?_); rintro e_ W_ ⟨rfl, rfl⟩)
  go_wp2_with fail
  ((with_reducible refine (rto_calls a _ (i64_of ha)).mono ?_); rintro e_ W25 ⟨rfl, hb_⟩)
  have n_ := Aside0.mk (below_step HB.out hb_); clear HB; have HB := n_; clear n_ hb_
  go_wp2
  go_ret
  exact ⟨rfl, HB.out⟩
set_option maxHeartbeats 8000000 in
set_option maxRecDepth 100000 in
theorem works_4 (a b : Int) (w : World) (ha : In64 a) (hb : In64 b) (hb0 : b ≠ 0) (ha0 : 0 ≤ a) :
    Calls Tryd.prog 9 #[.int .i64 a, .int .i64 b] w fun e w' => e = .returned (.bool true) ∧ Below w.heap.size w w' := by
  have HB0 := Lib.hid hb0; clear hb0
  have HB := Aside0.mk (Below.refl w.heap.size w)
  go_enter Tryd.func9, Tryd.ntmps9
  go_wp2_with fail
  ((with_reducible refine (awake_calls _).mono ?_); rintro e_ W26 ⟨rfl, hb_⟩)
  have n_ := Aside0.mk (below_step HB.out hb_); clear HB; have HB := n_; clear n_ hb_
  go_wp2_with fail
  ((with_reducible refine (drew_below (Div_calls a b _ ha hb HB0.out)).mono ?_); rintro e_ W27 ⟨rfl, hb_⟩)
  have n_ := Aside0.mk (below_step HB.out hb_); clear HB; have HB := n_; clear n_ hb_
  go_wp2_with fail
  ((with_reducible refine (Sqrt_calls a _ ha0 (in64_hi ha)).mono ?_); rintro e_ W_ ⟨n, rfl, rfl, hroot⟩)
  have HR := Aside0.mk hroot; clear hroot
  go_wp2_with fail
  ((with_reducible refine (rdiv_calls a b _ (i64_of ha) (i64_of hb) HB0.out).mono ?_); rintro e_ W28 ⟨rfl, hb_⟩)
  have n_ := Aside0.mk (below_step HB.out hb_); clear HB; have HB := n_; clear n_ hb_
  go_wp2_with fail
  ((with_reducible refine (rsqrt_calls a n _ ha0 (in64_hi ha) HR.out).mono ?_); rintro e_ W29 ⟨rfl, hb_⟩)
  have n_ := Aside0.mk (below_step HB.out hb_); clear HB; have HB := n_; clear n_ hb_
  go_wp2_with fail
  ((with_reducible refine (Add_calls a b _ ha hb).mono ?_); rintro e_ W_ ⟨rfl, rfl⟩)
  go_wp2_with fail
  ((with_reducible refine (drew_below (rAdd_calls a b _ ha hb)).mono ?_); rintro e_ W30 ⟨rfl, hb_⟩)
  have n_ := Aside0.mk (below_step HB.out hb_); clear HB; have HB := n_; clear n_ hb_
  go_wp2_with fail
  ((with_reducible refine (Sub_calls a b _ ha hb).mono ?_); rintro e_ W_ ⟨rfl, rfl⟩)
  go_wp2_with fail
  ((with_reducible refine (drew_below (rSub_calls a b _ ha hb)).mono ?_); rintro e_ W31 ⟨rfl, hb_⟩)
  have n_ := Aside0.mk (below_step HB.out hb_); clear HB; have HB := n_; clear n_ hb_
  go_wp2_with fail
  ((with_reducible refine (Mul_calls a b _ ha hb).mono ?_); rintro e_ W_ ⟨rfl, rfl⟩)
  go_wp2_with fail
  ((with_reducible refine (rmul_calls a b _ (i64_of ha) (i64_of hb)).mono ?_); rintro e_ W32 ⟨rfl, hb_⟩)
  have n_ := Aside0.mk (below_step HB.out hb_); clear HB; have HB := n_; clear n_ hb_
  go_wp2_with fail
  ((with_reducible refine (From_calls a _ ha).mono ?_); rintro e_ W_ ⟨rfl, rfl⟩)
  go_wp2_with fail
  ((with_reducible refine (rfrom_calls a _ (i64_of ha)).mono ?_); rintro e_ W33 ⟨rfl, hb_⟩)
  have n_ := Aside0.mk (below_step HB.out hb_); clear HB; have HB := n_; clear n_ hb_
  go_wp2_with fail
  ((with_reducible refine (To_calls a _ ha).mono ?_); rintro e_ W_ ⟨rfl, rfl⟩)
  go_wp2_with fail
  ((with_reducible refine (rto_calls a _ (i64_of ha)).mono ?_); rintro e_ W34 ⟨rfl, hb_⟩)
  have n_ := Aside0.mk (below_step HB.out hb_); clear HB; have HB := n_; clear n_ hb_
  go_wp2
  go_ret
  exact ⟨rfl, HB.out⟩
theorem FixWorks_calls (a b : Int) (w : World) (ha : -9223372036854775808 ≤ a ∧ a ≤ 9223372036854775807) (hb : -9223372036854775808 ≤ b ∧ b ≤ 9223372036854775807) :
    Calls Tryd.prog 9 #[.int .i64 a, .int .i64 b] w fun e w' => e = .returned (.bool true) ∧ Below w.heap.size w w' := by
  by_cases hb0 : b = 0 <;> rcases Int.lt_or_le a 0 with ha0 | ha0
  · exact works_1 a b w ha hb hb0 ha0
  · exact works_2 a b w ha hb hb0 ha0
  · exact works_3 a b w ha hb hb0 ha0
  · exact works_4 a b w ha hb hb0 ha0
end Go.Proofs.YtcnibfancjofhaaDoor
