/- The law FixSigns, walked. -/
import Derived.Test.YtcnibfancjofhaaDoorFixO
namespace Go.Proofs.YtcnibfancjofhaaDoor
open Go.RowKit Go.Proofs.YtcnibfancjofhaaDoorW.PrintWords Go.Proofs.YtcnibfancjofhaaDoorW.PrintLast Go.Proofs.YtcnibfancjofhaaDoorW.PrintMore
set_option linter.unusedVariables false
set_option linter.unusedSimpArgs false
theorem mulF_both (a b : Int) : mulF (-a) (-b) = mulF a b := by
  by_cases ha : a = 0
  · subst ha; simp [mulF, ab, satS_zero]
  by_cases hb : b = 0
  · subst hb; simp [mulF, ab, satS_zero]
  unfold mulF
  rw [ab_minus, ab_minus, ng_minus ha, ng_comm a (-b), ng_minus hb, ng_comm b a]
  simp
theorem mulF_turn2 {a b : Int} (h1 : mulF a b ≠ 9223372036854775807) (h2 : mulF a b ≠ -9223372036854775808) : mulF a (-b) = -mulF a b := by
  rw [mulF_comm a (-b), mulF_comm a b]
  rw [mulF_comm a b] at h1 h2
  exact mulF_turn h1 h2
set_option maxHeartbeats 8000000 in
set_option maxRecDepth 100000 in
theorem FixSigns_calls (a b : Int) (w : World) (ha : -9223372036854775808 ≤ a ∧ a ≤ 9223372036854775807) (hb : -9223372036854775808 ≤ b ∧ b ≤ 9223372036854775807) : Calls Tryd.prog 8 #[.int .i64 a, .int .i64 b] w fun e w' => e = .returned (.bool true) ∧ Below w.heap.size w w' := by
  by_cases c1 : a = -9223372036854775808
  · have d1 : (a == -9223372036854775808) = true := beq_iff_eq.2 c1
    clear c1
    go_enter Tryd.func8, Tryd.ntmps8
    go_wp2_with fail
    ((with_reducible refine (awake_calls _).mono ?_); rintro e_ W1 ⟨rfl, hb⟩)
    have HB1 := Aside0.mk hb
    clear hb
    go_wp2
    go_ret
    exact ⟨rfl, HB1.out⟩
  have d1 : (a == -9223372036854775808) = false := beq_eq_false_iff_ne.2 c1
  by_cases c2 : b = -9223372036854775808
  · have d2 : (b == -9223372036854775808) = true := beq_iff_eq.2 c2
    clear c1 c2
    go_enter Tryd.func8, Tryd.ntmps8
    go_wp2_with fail
    ((with_reducible refine (awake_calls _).mono ?_); rintro e_ W1 ⟨rfl, hb⟩)
    have HB1 := Aside0.mk hb
    clear hb
    go_wp2
    go_ret
    exact ⟨rfl, HB1.out⟩
  have d2 : (b == -9223372036854775808) = false := beq_eq_false_iff_ne.2 c2
  have hna : In64 (-a) := by unfold In64; omega
  have hnb : In64 (-b) := by unfold In64; omega
  have hwa : IntKind.i64.wrap (-a) = -a := by rw [wrap_i64]; omega
  have hwb : IntKind.i64.wrap (-b) = -b := by rw [wrap_i64]; omega
  have hM := fun W => Mul_calls a b W ha hb
  have hM1 := fun W => Mul_calls (-a) b W hna hb
  have hM2 := fun W => Mul_calls a (-b) W ha hnb
  have hM3 := fun W => Mul_calls (-a) (-b) W hna hnb
  rw [mulF_both] at hM3
  have hS := fun W => Sub_calls a b W ha hb
  have hA := fun W => Add_calls a (-b) W ha hnb
  rw [← sub_add] at hA
  generalize subF a b = x at hS hA
  by_cases hz : b = 0
  · subst hz
    have hD := fun W => Div_zero a W
    have hD2 := fun W => Div_zero (-a) W
    rw [mulF_zero] at hM hM3
    rw [mulF_zero] at hM1
    rw [show (-0 : Int) = 0 by decide] at hM2 hM3 hwb hA
    rw [mulF_zero] at hM2
    clear hna hnb c1 c2
    go_enter Tryd.func8, Tryd.ntmps8
    go_wp2_with fail
    ((with_reducible refine (awake_calls _).mono ?_); rintro e_ W1 ⟨rfl, hb⟩)
    have HB1 := Aside0.mk hb
    clear hb
    go_wp2_with fail
    ((with_reducible refine (hM _).mono ?_); rintro e_ W_ ⟨rfl, rfl⟩)
    go_wp2_with fail
    ((with_reducible refine (hM1 _).mono ?_); rintro e_ W_ ⟨rfl, rfl⟩)
    go_wp2_with fail
    ((with_reducible refine (hM2 _).mono ?_); rintro e_ W_ ⟨rfl, rfl⟩)
    go_wp2_with fail
    ((with_reducible refine (hM3 _).mono ?_); rintro e_ W_ ⟨rfl, rfl⟩)
    go_wp2_with fail
    ((with_reducible refine (hD _).mono ?_); rintro e_ W_ ⟨rfl, rfl⟩)
    go_wp2_with fail
    ((with_reducible refine (hD2 _).mono ?_); rintro e_ W_ ⟨rfl, rfl⟩)
    go_wp2_with fail
    ((with_reducible refine (hD _).mono ?_); rintro e_ W_ ⟨rfl, rfl⟩)
    go_wp2_with fail
    ((with_reducible refine (hS _).mono ?_); rintro e_ W_ ⟨rfl, rfl⟩)
    go_wp2_with fail
    ((with_reducible refine (hA _).mono ?_); rintro e_ W_ ⟨rfl, rfl⟩)
    clear hM hM1 hM2 hM3 hD hD2 hS hA
    go_wp2
    go_ret
    exact ⟨rfl, HB1.out⟩
  have hD := fun W => Div_calls a b W ha hb hz
  have hD1 := fun W => Div_calls (-a) b W hna hb hz
  have hD2 := fun W => Div_calls a (-b) W ha hnb (by omega)
  have hmi := mulF_in a b
  have hqi := divF_in a b
  unfold In64 at hmi hqi
  have hT1 := fun h1 h2 => mulF_turn (a := a) (b := b) h1 h2
  have hT2 := fun h1 h2 => mulF_turn2 (a := a) (b := b) h1 h2
  have hQ1 := fun h1 h2 => divF_turn (a := a) (b := b) h1 h2
  have hQ2 := fun h1 h2 => divF_turn2 (a := a) (b := b) hz h1 h2
  generalize mulF a b = m at hM hM3 hmi hT1 hT2
  generalize divF a b = q at hD hqi hQ1 hQ2
  generalize mulF (-a) b = m1 at hM1 hT1
  generalize mulF a (-b) = m2 at hM2 hT2
  generalize divF (-a) b = q1 at hD1 hQ1
  generalize divF a (-b) = q2 at hD2 hQ2
  clear c1 c2 hna hnb hz
  by_cases u1 : m = 9223372036854775807
  · have fm1 : (m == 9223372036854775807) = true := beq_iff_eq.2 u1
    clear hT1 hT2
    by_cases v1 : q = 9223372036854775807
    · have fq1 : (q == 9223372036854775807) = true := beq_iff_eq.2 v1
      clear hQ1 hQ2
      go_enter Tryd.func8, Tryd.ntmps8
      go_wp2_with fail
      ((with_reducible refine (awake_calls _).mono ?_); rintro e_ W1 ⟨rfl, hb⟩)
      have HB1 := Aside0.mk hb
      clear hb
      go_wp2_with fail
      ((with_reducible refine (hM _).mono ?_); rintro e_ W_ ⟨rfl, rfl⟩)
      go_wp2_with fail
      ((with_reducible refine (hD _).mono ?_); rintro e_ W_ ⟨rfl, n1, rfl⟩)
      go_wp2_with fail
      ((with_reducible refine (hD1 _).mono ?_); rintro e_ W_ ⟨rfl, n2, rfl⟩)
      go_wp2_with fail
      ((with_reducible refine (hD2 _).mono ?_); rintro e_ W_ ⟨rfl, n3, rfl⟩)
      go_wp2_with fail
      ((with_reducible refine (hS _).mono ?_); rintro e_ W_ ⟨rfl, rfl⟩)
      go_wp2_with fail
      ((with_reducible refine (hA _).mono ?_); rintro e_ W_ ⟨rfl, rfl⟩)
      clear hM hM1 hM2 hM3 hD hD1 hD2 hS hA
      go_wp2
      go_ret
      exact ⟨rfl, pw_below_drewN HB1.out _⟩
    have fq1 : (q == 9223372036854775807) = false := beq_eq_false_iff_ne.2 v1
    by_cases v2 : q = -9223372036854775808
    · have fq2 : (q == -9223372036854775808) = true := beq_iff_eq.2 v2
      clear hQ1 hQ2
      go_enter Tryd.func8, Tryd.ntmps8
      go_wp2_with fail
      ((with_reducible refine (awake_calls _).mono ?_); rintro e_ W1 ⟨rfl, hb⟩)
      have HB1 := Aside0.mk hb
      clear hb
      go_wp2_with fail
      ((with_reducible refine (hM _).mono ?_); rintro e_ W_ ⟨rfl, rfl⟩)
      go_wp2_with fail
      ((with_reducible refine (hD _).mono ?_); rintro e_ W_ ⟨rfl, n1, rfl⟩)
      go_wp2_with fail
      ((with_reducible refine (hD1 _).mono ?_); rintro e_ W_ ⟨rfl, n2, rfl⟩)
      go_wp2_with fail
      ((with_reducible refine (hD2 _).mono ?_); rintro e_ W_ ⟨rfl, n3, rfl⟩)
      go_wp2_with fail
      ((with_reducible refine (hS _).mono ?_); rintro e_ W_ ⟨rfl, rfl⟩)
      go_wp2_with fail
      ((with_reducible refine (hA _).mono ?_); rintro e_ W_ ⟨rfl, rfl⟩)
      clear hM hM1 hM2 hM3 hD hD1 hD2 hS hA
      go_wp2
      go_ret
      exact ⟨rfl, pw_below_drewN HB1.out _⟩
    have fq2 : (q == -9223372036854775808) = false := beq_eq_false_iff_ne.2 v2
    have kq1 := hQ1 v1 v2
    have kq2 := hQ2 v1 v2
    have wq : IntKind.i64.wrap (-q) = -q := by rw [wrap_i64]; omega
    subst kq1 kq2
    clear hQ1 hQ2
    go_enter Tryd.func8, Tryd.ntmps8
    go_wp2_with fail
    ((with_reducible refine (awake_calls _).mono ?_); rintro e_ W1 ⟨rfl, hb⟩)
    have HB1 := Aside0.mk hb
    clear hb
    go_wp2_with fail
    ((with_reducible refine (hM _).mono ?_); rintro e_ W_ ⟨rfl, rfl⟩)
    go_wp2_with fail
    ((with_reducible refine (hD _).mono ?_); rintro e_ W_ ⟨rfl, n1, rfl⟩)
    go_wp2_with fail
    ((with_reducible refine (hD1 _).mono ?_); rintro e_ W_ ⟨rfl, n2, rfl⟩)
    go_wp2_with fail
    ((with_reducible refine (hD2 _).mono ?_); rintro e_ W_ ⟨rfl, n3, rfl⟩)
    go_wp2_with fail
    ((with_reducible refine (hS _).mono ?_); rintro e_ W_ ⟨rfl, rfl⟩)
    go_wp2_with fail
    ((with_reducible refine (hA _).mono ?_); rintro e_ W_ ⟨rfl, rfl⟩)
    clear hM hM1 hM2 hM3 hD hD1 hD2 hS hA
    go_wp2
    go_ret
    exact ⟨rfl, pw_below_drewN HB1.out _⟩
  have fm1 : (m == 9223372036854775807) = false := beq_eq_false_iff_ne.2 u1
  by_cases u2 : m = -9223372036854775808
  · have fm2 : (m == -9223372036854775808) = true := beq_iff_eq.2 u2
    clear hT1 hT2
    by_cases v1 : q = 9223372036854775807
    · have fq1 : (q == 9223372036854775807) = true := beq_iff_eq.2 v1
      clear hQ1 hQ2
      go_enter Tryd.func8, Tryd.ntmps8
      go_wp2_with fail
      ((with_reducible refine (awake_calls _).mono ?_); rintro e_ W1 ⟨rfl, hb⟩)
      have HB1 := Aside0.mk hb
      clear hb
      go_wp2_with fail
      ((with_reducible refine (hM _).mono ?_); rintro e_ W_ ⟨rfl, rfl⟩)
      go_wp2_with fail
      ((with_reducible refine (hD _).mono ?_); rintro e_ W_ ⟨rfl, n1, rfl⟩)
      go_wp2_with fail
      ((with_reducible refine (hD1 _).mono ?_); rintro e_ W_ ⟨rfl, n2, rfl⟩)
      go_wp2_with fail
      ((with_reducible refine (hD2 _).mono ?_); rintro e_ W_ ⟨rfl, n3, rfl⟩)
      go_wp2_with fail
      ((with_reducible refine (hS _).mono ?_); rintro e_ W_ ⟨rfl, rfl⟩)
      go_wp2_with fail
      ((with_reducible refine (hA _).mono ?_); rintro e_ W_ ⟨rfl, rfl⟩)
      clear hM hM1 hM2 hM3 hD hD1 hD2 hS hA
      go_wp2
      go_ret
      exact ⟨rfl, pw_below_drewN HB1.out _⟩
    have fq1 : (q == 9223372036854775807) = false := beq_eq_false_iff_ne.2 v1
    by_cases v2 : q = -9223372036854775808
    · have fq2 : (q == -9223372036854775808) = true := beq_iff_eq.2 v2
      clear hQ1 hQ2
      go_enter Tryd.func8, Tryd.ntmps8
      go_wp2_with fail
      ((with_reducible refine (awake_calls _).mono ?_); rintro e_ W1 ⟨rfl, hb⟩)
      have HB1 := Aside0.mk hb
      clear hb
      go_wp2_with fail
      ((with_reducible refine (hM _).mono ?_); rintro e_ W_ ⟨rfl, rfl⟩)
      go_wp2_with fail
      ((with_reducible refine (hD _).mono ?_); rintro e_ W_ ⟨rfl, n1, rfl⟩)
      go_wp2_with fail
      ((with_reducible refine (hD1 _).mono ?_); rintro e_ W_ ⟨rfl, n2, rfl⟩)
      go_wp2_with fail
      ((with_reducible refine (hD2 _).mono ?_); rintro e_ W_ ⟨rfl, n3, rfl⟩)
      go_wp2_with fail
      ((with_reducible refine (hS _).mono ?_); rintro e_ W_ ⟨rfl, rfl⟩)
      go_wp2_with fail
      ((with_reducible refine (hA _).mono ?_); rintro e_ W_ ⟨rfl, rfl⟩)
      clear hM hM1 hM2 hM3 hD hD1 hD2 hS hA
      go_wp2
      go_ret
      exact ⟨rfl, pw_below_drewN HB1.out _⟩
    have fq2 : (q == -9223372036854775808) = false := beq_eq_false_iff_ne.2 v2
    have kq1 := hQ1 v1 v2
    have kq2 := hQ2 v1 v2
    have wq : IntKind.i64.wrap (-q) = -q := by rw [wrap_i64]; omega
    subst kq1 kq2
    clear hQ1 hQ2
    go_enter Tryd.func8, Tryd.ntmps8
    go_wp2_with fail
    ((with_reducible refine (awake_calls _).mono ?_); rintro e_ W1 ⟨rfl, hb⟩)
    have HB1 := Aside0.mk hb
    clear hb
    go_wp2_with fail
    ((with_reducible refine (hM _).mono ?_); rintro e_ W_ ⟨rfl, rfl⟩)
    go_wp2_with fail
    ((with_reducible refine (hD _).mono ?_); rintro e_ W_ ⟨rfl, n1, rfl⟩)
    go_wp2_with fail
    ((with_reducible refine (hD1 _).mono ?_); rintro e_ W_ ⟨rfl, n2, rfl⟩)
    go_wp2_with fail
    ((with_reducible refine (hD2 _).mono ?_); rintro e_ W_ ⟨rfl, n3, rfl⟩)
    go_wp2_with fail
    ((with_reducible refine (hS _).mono ?_); rintro e_ W_ ⟨rfl, rfl⟩)
    go_wp2_with fail
    ((with_reducible refine (hA _).mono ?_); rintro e_ W_ ⟨rfl, rfl⟩)
    clear hM hM1 hM2 hM3 hD hD1 hD2 hS hA
    go_wp2
    go_ret
    exact ⟨rfl, pw_below_drewN HB1.out _⟩
  have fm2 : (m == -9223372036854775808) = false := beq_eq_false_iff_ne.2 u2
  have km1 := hT1 u1 u2
  have km2 := hT2 u1 u2
  have wm : IntKind.i64.wrap (-m) = -m := by rw [wrap_i64]; omega
  subst km1 km2
  clear hT1 hT2
  by_cases v1 : q = 9223372036854775807
  · have fq1 : (q == 9223372036854775807) = true := beq_iff_eq.2 v1
    clear hQ1 hQ2
    go_enter Tryd.func8, Tryd.ntmps8
    go_wp2_with fail
    ((with_reducible refine (awake_calls _).mono ?_); rintro e_ W1 ⟨rfl, hb⟩)
    have HB1 := Aside0.mk hb
    clear hb
    go_wp2_with fail
    ((with_reducible refine (hM _).mono ?_); rintro e_ W_ ⟨rfl, rfl⟩)
    go_wp2_with fail
    ((with_reducible refine (hM1 _).mono ?_); rintro e_ W_ ⟨rfl, rfl⟩)
    go_wp2_with fail
    ((with_reducible refine (hM2 _).mono ?_); rintro e_ W_ ⟨rfl, rfl⟩)
    go_wp2_with fail
    ((with_reducible refine (hM3 _).mono ?_); rintro e_ W_ ⟨rfl, rfl⟩)
    go_wp2_with fail
    ((with_reducible refine (hD _).mono ?_); rintro e_ W_ ⟨rfl, n1, rfl⟩)
    go_wp2_with fail
    ((with_reducible refine (hD1 _).mono ?_); rintro e_ W_ ⟨rfl, n2, rfl⟩)
    go_wp2_with fail
    ((with_reducible refine (hD2 _).mono ?_); rintro e_ W_ ⟨rfl, n3, rfl⟩)
    go_wp2_with fail
    ((with_reducible refine (hS _).mono ?_); rintro e_ W_ ⟨rfl, rfl⟩)
    go_wp2_with fail
    ((with_reducible refine (hA _).mono ?_); rintro e_ W_ ⟨rfl, rfl⟩)
    clear hM hM1 hM2 hM3 hD hD1 hD2 hS hA
    go_wp2
    go_ret
    exact ⟨rfl, pw_below_drewN HB1.out _⟩
  have fq1 : (q == 9223372036854775807) = false := beq_eq_false_iff_ne.2 v1
  by_cases v2 : q = -9223372036854775808
  · have fq2 : (q == -9223372036854775808) = true := beq_iff_eq.2 v2
    clear hQ1 hQ2
    go_enter Tryd.func8, Tryd.ntmps8
    go_wp2_with fail
    ((with_reducible refine (awake_calls _).mono ?_); rintro e_ W1 ⟨rfl, hb⟩)
    have HB1 := Aside0.mk hb
    clear hb
    go_wp2_with fail
    ((with_reducible refine (hM _).mono ?_); rintro e_ W_ ⟨rfl, rfl⟩)
    go_wp2_with fail
    ((with_reducible refine (hM1 _).mono ?_); rintro e_ W_ ⟨rfl, rfl⟩)
    go_wp2_with fail
    ((with_reducible refine (hM2 _).mono ?_); rintro e_ W_ ⟨rfl, rfl⟩)
    go_wp2_with fail
    ((with_reducible refine (hM3 _).mono ?_); rintro e_ W_ ⟨rfl, rfl⟩)
    go_wp2_with fail
    ((with_reducible refine (hD _).mono ?_); rintro e_ W_ ⟨rfl, n1, rfl⟩)
    go_wp2_with fail
    ((with_reducible refine (hD1 _).mono ?_); rintro e_ W_ ⟨rfl, n2, rfl⟩)
    go_wp2_with fail
    ((with_reducible refine (hD2 _).mono ?_); rintro e_ W_ ⟨rfl, n3, rfl⟩)
    go_wp2_with fail
    ((with_reducible refine (hS _).mono ?_); rintro e_ W_ ⟨rfl, rfl⟩)
    go_wp2_with fail
    ((with_reducible refine (hA _).mono ?_); rintro e_ W_ ⟨rfl, rfl⟩)
    clear hM hM1 hM2 hM3 hD hD1 hD2 hS hA
    go_wp2
    go_ret
    exact ⟨rfl, pw_below_drewN HB1.out _⟩
  have fq2 : (q == -9223372036854775808) = false := beq_eq_false_iff_ne.2 v2
  have kq1 := hQ1 v1 v2
  have kq2 := hQ2 v1 v2
  have wq : IntKind.i64.wrap (-q) = -q := by rw [wrap_i64]; omega
  subst kq1 kq2
  clear hQ1 hQ2
  go_enter Tryd.func8, Tryd.ntmps8
  go_wp2_with fail
  ((with_reducible refine (awake_calls _).mono ?_); rintro e_ W1 ⟨rfl, hb⟩)
  have HB1 := Aside0.mk hb
  clear hb
  go_wp2_with fail
  ((with_reducible refine (hM _).mono ?_); rintro e_ W_ ⟨rfl, rfl⟩)
  go_wp2_with fail
  ((with_reducible refine (hM1 _).mono ?_); rintro e_ W_ ⟨rfl, rfl⟩)
  go_wp2_with fail
  ((with_reducible refine (hM2 _).mono ?_); rintro e_ W_ ⟨rfl, rfl⟩)
  go_wp2_with fail
  ((with_reducible refine (hM3 _).mono ?_); rintro e_ W_ ⟨rfl, rfl⟩)
  go_wp2_with fail
  ((with_reducible refine (hD _).mono ?_); rintro e_ W_ ⟨rfl, n1, rfl⟩)
  go_wp2_with fail
  ((with_reducible refine (hD1 _).mono ?_); rintro e_ W_ ⟨rfl, n2, rfl⟩)
  go_wp2_with fail
  ((with_reducible refine (hD2 _).mono ?_); rintro e_ W_ ⟨rfl, n3, rfl⟩)
  go_wp2_with fail
  ((with_reducible refine (hS _).mono ?_); rintro e_ W_ ⟨rfl, rfl⟩)
  go_wp2_with fail
  ((with_reducible refine (hA _).mono ?_); rintro e_ W_ ⟨rfl, rfl⟩)
  clear hM hM1 hM2 hM3 hD hD1 hD2 hS hA
  go_wp2
  go_ret
  exact ⟨rfl, pw_below_drewN HB1.out _⟩
end Go.Proofs.YtcnibfancjofhaaDoor
