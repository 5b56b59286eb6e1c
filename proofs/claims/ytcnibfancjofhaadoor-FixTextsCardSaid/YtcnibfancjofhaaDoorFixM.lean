/- awake: the document's examples. -/
import Derived.Test.YtcnibfancjofhaaDoorFixK
import Derived.Test.YtcnibfancjofhaaDoorFixL
import Derived.Test.YtcnibfancjofhaaDoorFixD
namespace Go.Proofs.YtcnibfancjofhaaDoor
open Go.RowKit Go.Proofs.YtcnibfancjofhaaDoorW.PrintWords Go.Proofs.YtcnibfancjofhaaDoorW.PrintLast Go.Proofs.YtcnibfancjofhaaDoorW.PrintMore
set_option linter.unusedVariables false
set_option linter.unusedSimpArgs false
theorem root_one {a n m : Int} (h : Root a n) (k : Root a m) : n = m := by
  have key : ∀ {x y : Int}, Root a x → Root a y → ¬ x < y := by
    rintro x y ⟨hx0, hx1, hx2⟩ ⟨hy0, hy1, hy2⟩ hlt
    have : (x + 1) * (x + 1) ≤ y * y := Int.mul_le_mul (by omega) (by omega) (by omega) (by omega)
    omega
  have h1 := key h k
  have h2 := key k h
  omega
set_option maxRecDepth 100000 in
theorem root_two : Root 8589934592 6074000999 := by unfold Root; decide
set_option maxRecDepth 100000 in
theorem Sqrt_two (w : World) : Calls Tryd.prog 16 #[.int .i64 8589934592] w fun e w' => e = .returned (.tuple #[.int .i64 6074000999, .int .i64 0]) ∧ w' = w := by
  refine (Sqrt_calls 8589934592 w (by decide) (by decide)).mono ?_
  rintro e w' ⟨n, rfl, rfl, h⟩
  rw [root_one h root_two]
  exact ⟨rfl, rfl⟩
set_option maxRecDepth 100000 in
theorem Parse_tenth (w : World) : Calls Tryd.prog 12 #[.string ⟨#[48, 46, 49]⟩] w fun e w' => e = .returned (.tuple #[.int .i64 429496729, .int .i64 0]) ∧ Below w.heap.size w w' := by
  have ha : (⟨#[48]⟩ : ByteArray) = (⟨#[48, 46, 49]⟩ : ByteArray).extract 0 1 := by decide
  have hb : (⟨#[49]⟩ : ByteArray) = (⟨#[48, 46, 49]⟩ : ByteArray).extract (1 + 1) (⟨#[48, 46, 49]⟩ : ByteArray).size := by decide
  have hd : Digs (bytesOf ((⟨#[48]⟩ : ByteArray) ++ (⟨#[49]⟩ : ByteArray))) := by
    rw [digs_append]; unfold Digs; decide
  have := Parse_good ⟨#[48, 46, 49]⟩ 1 w (by decide) (by decide) ⟨#[48]⟩ ⟨#[49]⟩ ha hb (by decide) (by decide) (by decide) (by decide) (by decide) hd (by decide)
  have e : numV 0 (bytesOf (⟨#[48]⟩ : ByteArray)) * 4294967296 + fracF (⟨#[49]⟩ : ByteArray) = 429496729 := by decide
  rw [e] at this
  exact this
set_option maxRecDepth 100000 in
theorem Parse_lead (w : World) : Calls Tryd.prog 12 #[.string ⟨#[48, 49, 46, 53]⟩] w (ParseBad w) := by
  have ha : (⟨#[48, 49]⟩ : ByteArray) = (⟨#[48, 49, 46, 53]⟩ : ByteArray).extract 0 2 := by decide
  have hb : (⟨#[53]⟩ : ByteArray) = (⟨#[48, 49, 46, 53]⟩ : ByteArray).extract (2 + 1) (⟨#[48, 49, 46, 53]⟩ : ByteArray).size := by decide
  exact Parse_bad1 ⟨#[48, 49, 46, 53]⟩ 2 w (by decide) (by decide) ⟨#[48, 49]⟩ ⟨#[53]⟩ ha hb (by decide)
set_option maxRecDepth 100000 in
theorem print_half : printF 6442450944 = [49, 46, 53] := by
  have e1 : Lib.decDigits (6442450944 / 4294967296 : Int).toNat = [49] := by
    rw [show (6442450944 / 4294967296 : Int).toNat = 1 by decide, Lib.decDigits, dif_pos (by decide)]; decide
  unfold printF
  rw [e1]
  decide
theorem Print_half (w : World) : Calls Tryd.prog 14 #[.int .i64 6442450944] w fun e w' => e = .returned (.string ⟨#[49, 46, 53]⟩) ∧ Below w.heap.size w w' := by
  have := Print_small 6442450944 (by decide) (by decide) w
  rw [print_half] at this
  exact this
theorem in64_lit {a : Int} (h0 : -9223372036854775808 ≤ a) (h1 : a ≤ 9223372036854775807) : In64 a := ⟨h0, h1⟩
set_option maxHeartbeats 8000000 in
set_option maxRecDepth 100000 in
theorem awake_calls (w : World) : Calls Tryd.prog 11 #[] w fun e w' => e = .returned (.bool true) ∧ Below w.heap.size w w' := by
  have hD := fun W => Div_calls 4294967296 12884901888 W (by unfold In64; decide) (by unfold In64; decide) (by decide)
  rw [show divF 4294967296 12884901888 = 1431655765 by decide] at hD
  have hM := fun W => Mul_calls (-9223372036854775808) (-9223372036854775808) W (by unfold In64; decide) (by unfold In64; decide)
  rw [show mulF (-9223372036854775808) (-9223372036854775808) = 9223372036854775807 by decide] at hM
  have hA := fun W => Add_calls 9223372036854775807 1 W (by unfold In64; decide) (by unfold In64; decide)
  rw [show addF 9223372036854775807 1 = 9223372036854775807 by decide] at hA
  go_enter Tryd.func11, Tryd.ntmps11
  go_wp2_with fail
  ((with_reducible refine (hD _).mono ?_); rintro e_ W1 ⟨rfl, n1, rfl⟩)
  go_wp2_with fail
  ((with_reducible refine (Div_zero _ _).mono ?_); rintro e_ W2 ⟨rfl, rfl⟩)
  go_wp2_with fail
  ((with_reducible refine (Sqrt_two _).mono ?_); rintro e_ W3 ⟨rfl, rfl⟩)
  go_wp2_with fail
  ((with_reducible refine (Parse_tenth _).mono ?_); rintro e_ W4 ⟨rfl, hb⟩)
  have HB4 := Aside0.mk (below_step (pw_below_drewN (Below.refl _ _) _) hb)
  clear hb
  go_wp2_with fail
  ((with_reducible refine (Parse_lead _).mono ?_); rintro e_ W5 ⟨rfl, hb⟩)
  have HB5 := Aside0.mk (below_step HB4.out hb)
  clear hb
  go_wp2_with fail
  ((with_reducible refine (hM _).mono ?_); rintro e_ W6 ⟨rfl, rfl⟩)
  go_wp2_with fail
  ((with_reducible refine (hA _).mono ?_); rintro e_ W7 ⟨rfl, rfl⟩)
  go_wp2_with fail
  ((with_reducible refine (Print_half _).mono ?_); rintro e_ W8 ⟨rfl, hb⟩)
  have HB8 := Aside0.mk (below_step HB5.out hb)
  clear hb
  go_wp2
  go_ret
  exact ⟨rfl, HB8.out⟩
end Go.Proofs.YtcnibfancjofhaaDoor
