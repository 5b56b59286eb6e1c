/- Mul, Sqrt. -/
import Derived.Test.YtklkikndcieojaaDoorFixB
import Derived.Test.YtklkikndcieojaaDoorShA
namespace Go.Proofs.YtklkikndcieojaaDoor
open Go.RowKit Go.Proofs.YtklkikndcieojaaDoorW.PrintWords Go.Proofs.YtklkikndcieojaaDoorW.PrintLast Go.Proofs.YtklkikndcieojaaDoorW.PrintMore
set_option linter.unusedVariables false
set_option linter.unusedSimpArgs false

theorem wraps_u64 (n : Int) (h₀ : 0 ≤ n) (h₁ : n < 2 ^ 64) : IntKind.u64.wrap n = n := by rw [wrap_u64]; omega
theorem or_u64 (i : Nat) (x y : Int) (p : Int) (hp : p = (2 : Int) ^ i) (hx0 : 0 ≤ x) (hx : x % p = 0) (hx1 : x < 18446744073709551616) (hy0 : 0 ≤ y) (hy : y < p) (hy1 : y < 18446744073709551616) : bits .or .u64 x y = x + y := by
  subst hp
  exact bits_join .u64 64 (by decide) wraps_u64 i x y hx0 hx (by omega) hy0 hy (by omega)
theorem mul_lt (x y B : Int) (hx : 0 ≤ x ∧ x ≤ B) (hy : 0 ≤ y ∧ y ≤ B) : 0 ≤ x * y ∧ x * y ≤ B * B := ⟨Int.mul_nonneg hx.1 hy.1, Int.mul_le_mul hx.2 hy.2 hy.1 (by omega)⟩
/-! ### Sqrt, bit by bit -/
theorem sq_mono {x y : Int} (h0 : 0 ≤ x) (h : x ≤ y) : x * x ≤ y * y := Int.mul_le_mul h h h0 (Int.le_trans h0 h)
def b2 (k : Nat) : Int := ((2 ^ k : Nat) : Int)
theorem b2_pos (k : Nat) : 0 < b2 k := by unfold b2; have := Nat.two_pow_pos k; omega
theorem b2_succ (k : Nat) : b2 (k + 1) = 2 * b2 k := by unfold b2; rw [Nat.pow_succ]; omega
theorem b2_le {k m : Nat} (h : k ≤ m) : b2 k ≤ b2 m := by unfold b2; have := Nat.pow_le_pow_right (n := 2) (by decide) h; omega
/-- What stands ahead of bit k - 1: n is a multiple of 2^k, below 2^49; its square is not above A, that of n + 2^k is. -/
def SqR (A n : Int) (k : Nat) : Prop := 0 ≤ n ∧ n < 562949953421312 ∧ n % b2 k = 0 ∧ n * n ≤ A ∧ A < (n + b2 k) * (n + b2 k)
theorem sqr_start {A : Int} (h0 : 0 ≤ A) (h : A < 39614081257132168796771975168) : SqR A 0 49 := by
  refine ⟨by omega, by omega, by simp, by omega, ?_⟩
  rw [show b2 49 = 562949953421312 by rfl]
  omega
theorem sqr_mod {n : Int} {k : Nat} (hn : n % b2 (k + 1) = 0) : n % b2 k = 0 ∧ (n + b2 k) % b2 k = 0 := by
  have hb := b2_pos k
  rw [b2_succ] at hn
  have h1 : b2 k ∣ n := Int.dvd_trans (Int.dvd_mul_left (2 : Int) (b2 k)) (Int.dvd_of_emod_eq_zero hn)
  exact ⟨Int.emod_eq_zero_of_dvd h1, Int.emod_eq_zero_of_dvd (Int.dvd_add h1 (Int.dvd_refl _))⟩
theorem sqr_lt {n : Int} {k : Nat} (hk : k < 49) (h1 : n < 562949953421312) (hn : n % b2 (k + 1) = 0) : n + b2 k < 562949953421312 := by
  -- n is a multiple of 2^(k+1), as 2^49 is
  have hd : b2 (k + 1) ∣ n := Int.dvd_of_emod_eq_zero hn
  have hd2 : b2 (k + 1) ∣ (562949953421312 : Int) := by
    rw [show (562949953421312 : Int) = b2 49 by rfl]
    unfold b2
    exact Int.natCast_dvd_natCast.2 (Nat.pow_dvd_pow 2 (by omega))
  have hd3 : b2 (k + 1) ∣ 562949953421312 - n := Int.dvd_sub hd2 hd
  have hp := b2_pos k
  have hle : b2 (k + 1) ≤ 562949953421312 - n := Int.le_of_dvd (by omega) hd3
  rw [b2_succ] at hle
  omega
theorem sqr_up {A n : Int} {k : Nat} (hk : k < 49) (h : SqR A n (k + 1)) (hc : (n + b2 k) * (n + b2 k) ≤ A) : SqR A (n + b2 k) k := by
  obtain ⟨h0, h1, h2, h3, h4⟩ := h
  have hp := b2_pos k
  refine ⟨by omega, sqr_lt hk h1 h2, (sqr_mod h2).2, hc, ?_⟩
  rw [show n + b2 k + b2 k = n + b2 (k + 1) by rw [b2_succ]; omega]
  exact h4
theorem sqr_stay {A n : Int} {k : Nat} (h : SqR A n (k + 1)) (hc : ¬ (n + b2 k) * (n + b2 k) ≤ A) : SqR A n k := by
  obtain ⟨h0, h1, h2, h3, h4⟩ := h
  exact ⟨h0, h1, (sqr_mod h2).1, h3, by omega⟩
theorem sqr_end {a n : Int} (h : SqR (a * 4294967296) n 0) : Root a n := by
  obtain ⟨h0, h1, h2, h3, h4⟩ := h
  exact ⟨h0, h3, by rw [show b2 0 = 1 by rfl] at h4; exact h4⟩
theorem or_bit {n : Int} {k : Nat} (hk : k < 49) (h0 : 0 ≤ n) (h1 : n < 562949953421312) (h2 : n % b2 (k + 1) = 0) : bits .or .u64 n (b2 k) = n + b2 k := by
  have hp := b2_pos k
  have hlt := b2_le (show k ≤ 48 by omega)
  rw [show b2 48 = 281474976710656 by rfl] at hlt
  exact or_u64 (k + 1) n (b2 k) (b2 (k + 1)) (by unfold b2; exact Int.natCast_pow 2 (k + 1)) h0 h2 (by omega) (by omega) (by rw [b2_succ]; omega) (by omega)
theorem half_b2 (k : Nat) : b2 (k + 1) / 2 = b2 k := by rw [b2_succ]; omega

/-- The bit that stands next. -/
def bt : Nat → Int
  | 0 => 0
  | k + 1 => b2 k
end Go.Proofs.YtklkikndcieojaaDoor
