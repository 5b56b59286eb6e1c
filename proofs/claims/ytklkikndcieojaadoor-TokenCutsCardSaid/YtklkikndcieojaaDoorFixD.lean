/- bits.Div64. -/
import Derived.Test.YtklkikndcieojaaDoorFixC
import Derived.Lib.ItoaNum
import Derived.Deep.DeepCutAuto
import Derived.Deep.CutBlock
import Derived.Deep.CutRange
import Derived.Deep.Cut
namespace Go.Proofs.YtklkikndcieojaaDoor
open Go.RowKit Go.Proofs.YtklkikndcieojaaDoorW.PrintWords Go.Proofs.YtklkikndcieojaaDoorW.PrintLast Go.Proofs.YtklkikndcieojaaDoorW.PrintMore
set_option linter.unusedVariables false
set_option linter.unusedSimpArgs false

/-- A digit of the quotient, guessed too great: y = y1, y0 (in base 2^32, its highest bit set), w below y, d one more digit. -/
structure QD (y1 y0 w d : Int) : Prop where
  y1a : 2147483648 ≤ y1
  y1b : y1 < 4294967296
  y0a : 0 ≤ y0
  y0b : y0 < 4294967296
  wa : 0 ≤ w
  wb : w < y1 * 4294967296 + y0
  da : 0 ≤ d
  db : d < 4294967296
def qQ (y1 y0 w d : Int) : Int := (w * 4294967296 + d) / (y1 * 4294967296 + y0)
/-- So far. -/
def QI (y1 y0 w d q r : Int) : Prop := qQ y1 y0 w d ≤ q ∧ 0 ≤ q ∧ q ≤ 4294967297 ∧ r = w - q * y1 ∧ 0 ≤ r ∧ r < 4294967296
section
variable {y1 y0 w d q r : Int}
theorem qQ_nonneg (h : QD y1 y0 w d) : 0 ≤ qQ y1 y0 w d := Int.ediv_nonneg (by have := h.wa; have := h.da; omega) (by have := h.y1a; have := h.y0a; omega)
theorem qQ_lt (h : QD y1 y0 w d) (k : Int) (hk : w * 4294967296 + d < k * (y1 * 4294967296 + y0)) : qQ y1 y0 w d < k :=
  Int.ediv_lt_of_lt_mul (by have := h.y1a; have := h.y0a; omega) hk
theorem qQ_ge (h : QD y1 y0 w d) (k : Int) (hk : k * (y1 * 4294967296 + y0) ≤ w * 4294967296 + d) : k ≤ qQ y1 y0 w d :=
  Int.le_ediv_of_mul_le (by have := h.y1a; have := h.y0a; omega) hk
theorem qQ_b (h : QD y1 y0 w d) : qQ y1 y0 w d < 4294967296 := by
  refine qQ_lt h _ ?_
  have := h.wb; have := h.db
  omega
theorem mul_split (q y1 y0 : Int) : q * (y1 * 4294967296 + y0) = q * y1 * 4294967296 + q * y0 := by rw [Int.mul_add, ← Int.mul_assoc]
theorem qd_start (h : QD y1 y0 w d) : QI y1 y0 w d (w / y1) (w - w / y1 * y1) := by
  have a1 := h.y1a; have a2 := h.y1b; have a3 := h.y0a; have a4 := h.y0b; have a5 := h.wa; have a6 := h.wb; have a7 := h.da; have a8 := h.db
  have q0 : 0 ≤ w / y1 := Int.ediv_nonneg a5 (by omega)
  have hm : w / y1 * y1 + w % y1 = w := by rw [Int.mul_comm]; exact Int.mul_ediv_add_emod w y1
  have r0 : 0 ≤ w % y1 := Int.emod_nonneg _ (by omega)
  have r1 : w % y1 < y1 := Int.emod_lt_of_pos _ (by omega)
  generalize w / y1 = q at *
  generalize w % y1 = r at *
  have hle : q ≤ 4294967297 := by
    refine Int.le_of_lt_add_one (Int.lt_of_not_ge (fun hq => ?_))
    have : 4294967298 * y1 ≤ q * y1 := Int.mul_le_mul_of_nonneg_right (by omega) (by omega)
    omega
  refine ⟨?_, q0, hle, rfl, by omega, by omega⟩
  refine Int.le_of_lt_add_one (qQ_lt h _ ?_)
  have e1 : (q + 1) * y1 = q * y1 + y1 := by rw [Int.add_mul, Int.one_mul]
  have e2 : (q + 1) * y0 = q * y0 + y0 := by rw [Int.add_mul, Int.one_mul]
  rw [mul_split, e1, e2]
  have : 0 ≤ q * y0 := Int.mul_nonneg q0 a3
  generalize q * y1 = P at *
  omega
theorem qd_less (h : QD y1 y0 w d) (hi : QI y1 y0 w d q r) (ht : 4294967296 ≤ q ∨ r * 4294967296 + d < q * y0) : qQ y1 y0 w d ≤ q - 1 := by
  obtain ⟨i1, i2, i3, i4, i5, i6⟩ := hi
  rcases ht with ht | ht
  · have := qQ_b h; omega
  · have : qQ y1 y0 w d < q := by
      refine qQ_lt h _ ?_
      rw [mul_split]
      generalize q * y1 = P at *
      omega
    omega
theorem qd_next (h : QD y1 y0 w d) (hi : QI y1 y0 w d q r) (ht : 4294967296 ≤ q ∨ r * 4294967296 + d < q * y0) (hr : r + y1 < 4294967296) : QI y1 y0 w d (q - 1) (r + y1) := by
  have h1 := qd_less h hi ht
  obtain ⟨i1, i2, i3, i4, i5, i6⟩ := hi
  have h2 := qQ_nonneg h
  have a1 := h.y1a
  refine ⟨h1, by omega, by omega, ?_, by omega, hr⟩
  rw [Int.sub_mul, Int.one_mul]
  omega
theorem qd_exact (h : QD y1 y0 w d) (hi : qQ y1 y0 w d ≤ q) (hm : q * (y1 * 4294967296 + y0) ≤ w * 4294967296 + d) : q = qQ y1 y0 w d := by
  have := qQ_ge h q hm
  omega
theorem qd_break (h : QD y1 y0 w d) (hi : QI y1 y0 w d q r) (ht : 4294967296 ≤ q ∨ r * 4294967296 + d < q * y0) (hr : 4294967296 ≤ r + y1) : q - 1 = qQ y1 y0 w d := by
  have h1 := qd_less h hi ht
  obtain ⟨i1, i2, i3, i4, i5, i6⟩ := hi
  have a1 := h.y1a; have a2 := h.y1b; have a3 := h.y0a; have a4 := h.y0b; have a5 := h.wa; have a6 := h.wb; have a7 := h.da; have a8 := h.db
  have q1 : q - 1 < 4294967296 := by
    refine Int.lt_of_not_ge (fun hq => ?_)
    have : 4294967296 * y1 ≤ (q - 1) * y1 := Int.mul_le_mul_of_nonneg_right hq (by omega)
    rw [Int.sub_mul, Int.one_mul] at this
    omega
  have h0 := qQ_nonneg h
  refine qd_exact h h1 ?_
  rw [mul_split]
  have hq0 : (q - 1) * y0 ≤ 4294967295 * 4294967295 := Int.mul_le_mul (by omega) (by omega) a3 (by decide)
  have hr' : (q - 1) * y1 = q * y1 - y1 := by rw [Int.sub_mul, Int.one_mul]
  rw [hr']
  generalize q * y1 = P at *
  omega
theorem qd_done (h : QD y1 y0 w d) (hi : QI y1 y0 w d q r) (ht : ¬ 4294967296 ≤ q) (ht2 : ¬ r * 4294967296 + d < q * y0) : q = qQ y1 y0 w d := by
  obtain ⟨i1, i2, i3, i4, i5, i6⟩ := hi
  refine qd_exact h i1 ?_
  rw [mul_split]
  generalize q * y1 = P at *
  omega
end
/-- The highest bit. -/
theorem norm_shift {y : Int} (h0 : 0 < y) (h1 : y < 18446744073709551616) : ∃ s : Nat, s < 64 ∧ Lib.bitLen y.toNat = 64 - s ∧ 9223372036854775808 ≤ y * b2 s ∧ y * b2 s < 18446744073709551616 := by
  obtain ⟨n, rfl⟩ : ∃ n : Nat, y = (n : Int) := ⟨y.toNat, by omega⟩
  rw [Int.toNat_natCast]
  obtain ⟨e1, e2, e3⟩ := Lib.bitLenAux_bounds 64 n (by omega) (by omega)
  have hle : Lib.bitLenAux 64 n ≤ 64 := Lib.bitLenAux_le 64 n 64 (by omega)
  unfold Lib.bitLen
  generalize Lib.bitLenAux 64 n = L at *
  refine ⟨64 - L, by omega, by omega, ?_, ?_⟩
  · unfold b2
    rw [← Int.natCast_mul]
    have h : 2 ^ 63 ≤ n * 2 ^ (64 - L) := by
      have := Nat.mul_le_mul_right (2 ^ (64 - L)) e2
      rw [← Nat.pow_add, show L - 1 + (64 - L) = 63 by omega] at this
      exact this
    omega
  · unfold b2
    rw [← Int.natCast_mul]
    have h : n * 2 ^ (64 - L) < 2 ^ 64 := by
      have := Nat.mul_lt_mul_of_pos_right e3 (Nat.two_pow_pos (64 - L))
      rw [← Nat.pow_add, show L + (64 - L) = 64 by omega] at this
      exact this
    omega
/-- Two digits make the quotient. -/
theorem two_digits {y1 y0 w u1 u0 : Int} (h1 : QD y1 y0 w u1) :
    (w * 18446744073709551616 + u1 * 4294967296 + u0) / (y1 * 4294967296 + y0) = qQ y1 y0 w u1 * 4294967296 + qQ y1 y0 ((w * 4294967296 + u1) - qQ y1 y0 w u1 * (y1 * 4294967296 + y0)) u0 := by
  unfold qQ
  generalize hY : y1 * 4294967296 + y0 = Y
  have hYp : 0 < Y := by have := h1.y1a; have := h1.y0a; omega
  generalize hU : w * 4294967296 + u1 = U
  have e : w * 18446744073709551616 + u1 * 4294967296 + u0 = (U - U / Y * Y) * 4294967296 + u0 + Y * (U / Y * 4294967296) := by
    rw [show Y * (U / Y * 4294967296) = U / Y * Y * 4294967296 by rw [← Int.mul_assoc, Int.mul_comm Y]]
    generalize U / Y * Y = P
    omega
  rw [e, Int.add_mul_ediv_left _ _ (by omega)]
  omega

theorem mask32 (x : Int) (h0 : 0 ≤ x) (h1 : x < 18446744073709551616) : bits .and .u64 x 4294967295 = x % 4294967296 := bits_mask .u64 64 (by decide) wraps_u64 32 (by decide) x h0 h1
/-- What is made ready. -/
theorem div_prep {hi lo y : Int} {s : Nat} (hh : 0 ≤ hi ∧ hi < y) (hl : 0 ≤ lo ∧ lo < 18446744073709551616) (hy : y < 18446744073709551616) (hs : s < 64) (hn1 : 9223372036854775808 ≤ y * b2 s) (hn2 : y * b2 s < 18446744073709551616) :
    ∃ Y y1 y0 W0 l0 u1 u0 hsh : Int, IntKind.u64.wrap (y * 2 ^ s) = Y ∧ Y / 4294967296 = y1 ∧ bits .and .u64 Y 4294967295 = y0 ∧ IntKind.u64.wrap (hi * 2 ^ s) = hsh ∧ bits .or .u64 hsh (lo / 2 ^ (64 - s)) = W0 ∧
      IntKind.u64.wrap (lo * 2 ^ s) = l0 ∧ l0 / 4294967296 = u1 ∧ bits .and .u64 l0 4294967295 = u0 ∧ QD y1 y0 W0 u1 ∧ (Y = y1 * 4294967296 + y0 ∧ 0 ≤ u0 ∧ u0 < 4294967296 ∧ (W0 * 18446744073709551616 + u1 * 4294967296 + u0) / Y = (hi * 18446744073709551616 + lo) / y) := by
  have hpow : (2 : Int) ^ s = b2 s := by unfold b2; exact (Int.natCast_pow 2 s).symm
  have hpow2 : (2 : Int) ^ (64 - s) = b2 (64 - s) := by unfold b2; exact (Int.natCast_pow 2 (64 - s)).symm
  have hbb : b2 s * b2 (64 - s) = 18446744073709551616 := by
    unfold b2
    rw [← Int.natCast_mul, ← Nat.pow_add, show s + (64 - s) = 64 by omega]
    rfl
  rw [hpow, hpow2]
  have hb := b2_pos s
  have hb2 := b2_pos (64 - s)
  have hbs : b2 s ≤ 9223372036854775808 := by
    have := b2_le (show s ≤ 63 by omega)
    rw [show b2 63 = 9223372036854775808 by rfl] at this
    exact this
  have e1 : IntKind.u64.wrap (y * b2 s) = y * b2 s := wraps_u64 _ (by omega) (by omega)
  have hhs : hi * b2 s ≤ y * b2 s - b2 s := by
    have := Int.mul_le_mul_of_nonneg_right (show hi ≤ y - 1 by omega) (Int.le_of_lt hb)
    rw [Int.sub_mul, Int.one_mul] at this
    exact this
  have hh0 : 0 ≤ hi * b2 s := Int.mul_nonneg hh.1 (Int.le_of_lt hb)
  have e2 : IntKind.u64.wrap (hi * b2 s) = hi * b2 s := wraps_u64 _ hh0 (by omega)
  -- the low word, cut at its top s bits
  have hdm := Int.mul_ediv_add_emod lo (b2 (64 - s))
  have hq0 : 0 ≤ lo / b2 (64 - s) := Int.ediv_nonneg hl.1 (Int.le_of_lt hb2)
  have hm0 : 0 ≤ lo % b2 (64 - s) := Int.emod_nonneg _ (by omega)
  have hm1 : lo % b2 (64 - s) < b2 (64 - s) := Int.emod_lt_of_pos _ hb2
  have hq1 : lo / b2 (64 - s) < b2 s := by
    refine Int.ediv_lt_of_lt_mul hb2 ?_
    rw [hbb]; exact hl.2
  have e3 : bits .or .u64 (hi * b2 s) (lo / b2 (64 - s)) = hi * b2 s + lo / b2 (64 - s) :=
    or_u64 s _ _ (b2 s) hpow.symm hh0 (Int.mul_emod_left _ _) (by omega) hq0 hq1 (by omega)
  have hlo : lo * b2 s = lo / b2 (64 - s) * 18446744073709551616 + lo % b2 (64 - s) * b2 s := by
    have h : (b2 (64 - s) * (lo / b2 (64 - s)) + lo % b2 (64 - s)) * b2 s = lo * b2 s := by rw [hdm]
    rw [Int.add_mul] at h
    rw [← h, Int.mul_comm (b2 (64 - s)), Int.mul_assoc, Int.mul_comm (b2 (64 - s)), hbb]
  have hx0 : 0 ≤ lo % b2 (64 - s) * b2 s := Int.mul_nonneg hm0 (Int.le_of_lt hb)
  have hx1 : lo % b2 (64 - s) * b2 s < 18446744073709551616 := by
    have := Int.mul_lt_mul_of_pos_right hm1 hb
    rw [Int.mul_comm (b2 (64 - s)), hbb] at this
    exact this
  have e4 : IntKind.u64.wrap (lo * b2 s) = lo % b2 (64 - s) * b2 s := by
    rw [wrap_u64, hlo]
    generalize lo % b2 (64 - s) * b2 s = x at *
    omega
  rw [e1, e2, e4]
  refine ⟨_, _, _, _, _, _, _, _, rfl, rfl, mask32 _ (by omega) (by omega), rfl, e3, rfl, rfl, mask32 _ hx0 hx1, ⟨by omega, by omega, by omega, by omega, by omega, ?_, by omega, by omega⟩, by omega, by omega, by omega, ?_⟩
  · generalize y * b2 s = Y at *
    generalize hi * b2 s = H at *
    omega
  · have hnum : (hi * b2 s + lo / b2 (64 - s)) * 18446744073709551616 + lo % b2 (64 - s) * b2 s / 4294967296 * 4294967296 + lo % b2 (64 - s) * b2 s % 4294967296 = (hi * 18446744073709551616 + lo) * b2 s := by
      rw [Int.add_mul (hi * 18446744073709551616), hlo, show hi * 18446744073709551616 * b2 s = hi * b2 s * 18446744073709551616 by rw [Int.mul_assoc, Int.mul_comm 18446744073709551616, ← Int.mul_assoc]]
      generalize lo % b2 (64 - s) * b2 s = x at *
      generalize hi * b2 s = H at *
      omega
    rw [hnum]
    exact Int.mul_ediv_mul_of_pos_left _ _ hb
theorem rest_of {y1 y0 W0 u1 Y Q1 : Int} (h : QD y1 y0 W0 u1) (hY : Y = y1 * 4294967296 + y0) (hQ : qQ y1 y0 W0 u1 = Q1) :
    ∃ V, V = (W0 * 4294967296 + u1) - Q1 * Y ∧ 0 ≤ V ∧ V < Y ∧ IntKind.u64.wrap (IntKind.u64.wrap (IntKind.u64.wrap (W0 * 4294967296) + u1) - IntKind.u64.wrap (Q1 * Y)) = V := by
  have a1 := h.y1a; have a2 := h.y1b; have a3 := h.y0a; have a4 := h.y0b; have a5 := h.wa; have a6 := h.wb; have a7 := h.da; have a8 := h.db
  have hYp : 0 < Y := by omega
  have hdm := Int.mul_ediv_add_emod (W0 * 4294967296 + u1) Y
  have hm0 : 0 ≤ (W0 * 4294967296 + u1) % Y := Int.emod_nonneg _ (by omega)
  have hm1 : (W0 * 4294967296 + u1) % Y < Y := Int.emod_lt_of_pos _ hYp
  have hq : (W0 * 4294967296 + u1) / Y = Q1 := by rw [← hQ, hY]; rfl
  rw [hq, Int.mul_comm] at hdm
  generalize (W0 * 4294967296 + u1) % Y = m at *
  refine ⟨_, rfl, by omega, by omega, ?_⟩
  rw [wrap_u64, wrap_u64, wrap_u64, wrap_u64]
  generalize Q1 * Y = P at *
  omega
theorem div_words {x y : Int} (hx : 0 ≤ x ∧ x ≤ 9223372036854775808) (hy : 0 < y) :
    word2 (x / 4294967296 / y) ((x / 4294967296 % y * 18446744073709551616 + x * 4294967296 % 18446744073709551616) / y) = x * 4294967296 / y := by
  unfold word2
  have e1 : x * 4294967296 = x / 4294967296 * 18446744073709551616 + x * 4294967296 % 18446744073709551616 := by omega
  have hdm := Int.mul_ediv_add_emod (x / 4294967296) y
  generalize x * 4294967296 % 18446744073709551616 = lo at *
  generalize x / 4294967296 = hi at *
  rw [e1, show hi * 18446744073709551616 + lo = hi % y * 18446744073709551616 + lo + y * (hi / y * 18446744073709551616) by
    rw [← Int.mul_assoc]
    generalize y * (hi / y) = P at *
    omega, Int.add_mul_ediv_left _ _ (by omega)]
  omega
end Go.Proofs.YtklkikndcieojaaDoor
