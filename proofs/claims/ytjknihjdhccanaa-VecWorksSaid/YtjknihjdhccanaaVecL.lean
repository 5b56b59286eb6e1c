/- Plain laws of a root that is found bit by bit. -/
import Derived.Test.YtjknihjdhccanaaVecA
import Derived.Laws.MathBits
namespace Go.Proofs.Ytjknihjdhccanaa
open Go.RowKit
set_option linter.unusedVariables false
set_option linter.unusedSimpArgs false

def hi64 (a b : Int) : Int := a * b / 18446744073709551616
def lo64 (a b : Int) : Int := a * b % 18446744073709551616
structure U64 (a : Int) : Prop where
  lo : 0 ≤ a
  hi : a < 18446744073709551616

def two (m : Nat) : Int := ((2 ^ m : Nat) : Int)
theorem two_succ (m : Nat) : two (m + 1) = 2 * two m := by unfold two; rw [Nat.pow_succ]; omega
theorem two_zero : two 0 = 1 := rfl
theorem two_pos (m : Nat) : 1 ≤ two m := by unfold two; have := Nat.two_pow_pos m; omega

/-- The bit that is tried next, with m to come. -/
def bitOf : Nat → Int
  | 0 => 0
  | m + 1 => two m
theorem bitOf_half (m : Nat) : bitOf (m + 1) / 2 = bitOf m := by
  cases m with
  | zero => rfl
  | succ k => simp only [bitOf, two_succ]; omega

/-- N is the root's beginning, m bits are still to come; e bits in all. -/
structure LRel (e : Nat) (S : Int) (m : Nat) (N : Int) : Prop where
  pos : 0 ≤ N
  mult : ∃ q, N = q * two m
  top : N + two m ≤ two e
  low : N * N ≤ S
  high : N + two m = two e ∨ S < (N + two m) * (N + two m)

theorem LRel.start {S : Int} (e : Nat) (h : 0 ≤ S) : LRel e S e 0 :=
  ⟨by omega, ⟨0, by omega⟩, by omega, by omega, Or.inl (by omega)⟩

theorem LRel.or {e : Nat} {S : Int} {k : Nat} {N : Int} (h : LRel e S (k + 1) N) (he : e ≤ 63) : Go.bits .or .u64 N (two k) = N + two k := by
  obtain ⟨q, hq⟩ := h.mult
  have hp := h.pos
  have ht := h.top
  have t1 := two_succ k
  have tp := two_pos k
  have hE : two e ≤ 9223372036854775808 := by
    have : two e ≤ two 63 := by unfold two; have := Nat.pow_le_pow_right (n := 2) (by omega) he; omega
    have h63 : two 63 = 9223372036854775808 := by decide
    omega
  have hq0 : 0 ≤ q := by
    rcases Int.lt_or_le q 0 with c | c
    · have : q * two (k + 1) ≤ -1 * two (k + 1) := Int.mul_le_mul_of_nonneg_right (by omega) (by omega)
      omega
    · exact c
  obtain ⟨Q, rfl⟩ := Int.eq_ofNat_of_zero_le hq0
  have e1 : N = ((2 ^ (k + 1) * Q : Nat) : Int) := by rw [hq]; unfold two; rw [Int.mul_comm]; simp
  have hn : N < 18446744073709551616 := by omega
  have hb2 : two k < 18446744073709551616 := by omega
  rw [e1] at hn
  have hk : (2 ^ k : Nat) < 18446744073709551616 := by unfold two at hb2; omega
  rw [e1]
  unfold two
  rw [u64_or_nat _ _ (by omega) hk]
  have h2 := Nat.two_pow_add_eq_or_of_lt (i := k + 1) (b := 2 ^ k) (Nat.pow_lt_pow_right (by omega) (by omega)) Q
  rw [← h2]
  simp

theorem LRel.take {e : Nat} {S : Int} {k : Nat} {N : Int} (h : LRel e S (k + 1) N) (hl : (N + two k) * (N + two k) ≤ S) : LRel e S k (N + two k) := by
  have t1 := two_succ k
  have tp := two_pos k
  obtain ⟨q, hq⟩ := h.mult
  have e1 : N + two k + two k = N + two (k + 1) := by omega
  refine ⟨by have := h.pos; omega, ⟨2 * q + 1, ?_⟩, by rw [e1]; exact h.top, hl, by rw [e1]; exact h.high⟩
  rw [hq, t1, Int.add_mul, Int.one_mul, Int.mul_assoc, Int.mul_left_comm]

theorem LRel.leave {e : Nat} {S : Int} {k : Nat} {N : Int} (h : LRel e S (k + 1) N) (hl : S < (N + two k) * (N + two k)) : LRel e S k N := by
  have t1 := two_succ k
  have tp := two_pos k
  obtain ⟨q, hq⟩ := h.mult
  have ht := h.top
  refine ⟨h.pos, ⟨2 * q, ?_⟩, by omega, h.low, Or.inr hl⟩
  rw [hq, t1, Int.mul_assoc, Int.mul_left_comm]

theorem LRel.bound {e : Nat} {S : Int} {m : Nat} {N : Int} (h : LRel e S m N) : 0 ≤ N ∧ N < two e := by
  have := two_pos m
  exact ⟨h.pos, by have := h.top; omega⟩

theorem sq_le_of_lt {V H L : Int} (hL : 0 ≤ L) (h : hi64 V V < H) : V * V ≤ H * 18446744073709551616 + L := by
  unfold hi64 at h; omega
theorem sq_le_of_eq {V H L : Int} (h : hi64 V V = H) (g : lo64 V V ≤ L) : V * V ≤ H * 18446744073709551616 + L := by
  unfold hi64 at h; unfold lo64 at g; omega
theorem sq_gt_of_gt {V H L : Int} (hL : L < 18446744073709551616) (h : H < hi64 V V) : H * 18446744073709551616 + L < V * V := by
  unfold hi64 at h; omega
theorem sq_gt_of_eq {V H L : Int} (h : hi64 V V = H) (g : L < lo64 V V) : H * 18446744073709551616 + L < V * V := by
  unfold hi64 at h; unfold lo64 at g; omega
end Go.Proofs.Ytjknihjdhccanaa
