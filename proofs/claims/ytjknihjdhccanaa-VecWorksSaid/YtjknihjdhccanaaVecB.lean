/- fix.Mul in plain numbers. -/
import Derived.Test.YtjknihjdhccanaaVecA
import Derived.Laws.MathBits
namespace Go.Proofs.Ytjknihjdhccanaa
open Go.RowKit Go.Proofs.YtjknihjdhccanaaW.PrintWords Go.Proofs.YtjknihjdhccanaaW.PrintLast Go.Proofs.YtjknihjdhccanaaW.PrintMore
set_option linter.unusedVariables false
set_option linter.unusedSimpArgs false

theorem mul64_eq (a b : Int) (ha0 : 0 ≤ a) (ha : a < 18446744073709551616) (hb0 : 0 ≤ b) (hb : b < 18446744073709551616) :
    PVecWorks.bits_Mul64.f a b = some (a * b / 18446744073709551616, a * b % 18446744073709551616) := by
  have h := mul64_arith a b ha0 ha hb0 hb
  unfold PVecWorks.bits_Mul64.f
  rw [and_low32 a ha0 ha, and_low32 b hb0 hb]
  have hw : ∀ n : Int, IntKind.u64.wrap n = n % 18446744073709551616 := by intro n; simp [IntKind.wrap, IntKind.bits, IntKind.signed]
  simp only [hw]
  rw [and_low32 _ (by omega) (by omega)]
  rw [h]

theorem signed_eq (hi lo : Int) (m : Bool) (h0 : 0 ≤ hi) (l0 : 0 ≤ lo) (l1 : lo < 18446744073709551616) :
    PVecWorks.fix_signed.f 1 hi lo m = some (sat (if m then -(hi * 18446744073709551616 + lo) else hi * 18446744073709551616 + lo)) := by
  unfold PVecWorks.fix_signed.f PVecWorks.fix_signed.j0 sat
  by_cases h : hi > 0
  · cases m <;> simp [h] <;> (repeat' split) <;> omega
  · have : hi = 0 := by omega
    subst this
    by_cases g : lo > 9223372036854775807
    · cases m <;> simp [g] <;> (repeat' split) <;> omega
    · cases m <;> simp [g, wrap64] <;> (repeat' split) <;> omega

theorem or_apart (x y : Int) (hx : 0 ≤ x) (hx2 : x < 4294967296) (hy : 0 ≤ y) (hy2 : y < 4294967296) :
    Go.bits .or .u64 (x * 4294967296) y = x * 4294967296 + y := by
  obtain ⟨X, rfl⟩ := Int.eq_ofNat_of_zero_le hx
  obtain ⟨Y, rfl⟩ := Int.eq_ofNat_of_zero_le hy
  have := u64_or_nat (X * 4294967296) Y (by omega) (by omega)
  rw [show ((X : Int) * 4294967296) = ((X * 4294967296 : Nat) : Int) from by simp, this]
  have h2 : (2 ^ 32) * X + Y = (2 ^ 32) * X ||| Y := Nat.two_pow_add_eq_or_of_lt (i := 32) (by omega) X
  rw [show X * 4294967296 = 2 ^ 32 * X from by omega, ← h2]
  omega

/-- The one times the other, before it is stopped. -/
def mulQ (a b : Int) : Int := if (decide (a < 0)) != (decide (b < 0)) then -((a.natAbs : Int) * b.natAbs / 4294967296) else (a.natAbs : Int) * b.natAbs / 4294967296
def fmul (a b : Int) : Int := sat (mulQ a b)
theorem fmul_I64 (a b : Int) : I64 (fmul a b) := sat_I64 _

theorem abs_mul_le (a b : Int) (ha : I64 a) (hb : I64 b) : (0 : Int) ≤ (a.natAbs : Int) * b.natAbs ∧ (a.natAbs : Int) * b.natAbs ≤ 85070591730234615865843651857942052864 := by
  obtain ⟨a1, a2⟩ := ha
  obtain ⟨b1, b2⟩ := hb
  have h1 : (a.natAbs : Int) ≤ 9223372036854775808 := by omega
  have h2 : (b.natAbs : Int) ≤ 9223372036854775808 := by omega
  refine ⟨Int.mul_nonneg (by omega) (by omega), ?_⟩
  have := Int.mul_le_mul h1 h2 (by omega) (by omega : (0 : Int) ≤ 9223372036854775808)
  omega

theorem fix_Mul_eq (a b : Int) (ha : I64 a) (hb : I64 b) : PVecWorks.fix_Mul.f 1 a b = some (fmul a b) := by
  have hs := fun (x : Int) (hx : I64 x) => (show PVecWorks.fix_size.f x = some (x.natAbs : Int) from vec_size_eq x hx)
  have hm := abs_mul_le a b ha hb
  unfold PVecWorks.fix_Mul.f
  rw [hs a ha, hs b hb]
  simp only [Option.bind_some]
  rw [mul64_eq _ _ (by omega) (by have := ha.1; have := ha.2; omega) (by omega) (by have := hb.1; have := hb.2; omega)]
  simp only [Option.bind_some]
  unfold fmul mulQ
  generalize (a.natAbs : Int) * b.natAbs = P at *
  have hw : IntKind.u64.wrap (P / 18446744073709551616 * 4294967296) = (P / 18446744073709551616 % 4294967296) * 4294967296 := by
    simp only [IntKind.wrap, IntKind.bits, IntKind.signed]; simp; omega
  rw [hw, or_apart _ _ (by omega) (by omega) (by omega) (by omega), signed_eq _ _ _ (by omega) (by omega) (by omega)]
  simp only [Option.bind_some]
  have e : P / 18446744073709551616 / 4294967296 * 18446744073709551616 + (P / 18446744073709551616 % 4294967296 * 4294967296 + P % 18446744073709551616 / 4294967296) = P / 4294967296 := by omega
  rw [e]
end Go.Proofs.Ytjknihjdhccanaa
