/- Plain laws of means, nearness and clamps. -/
import Derived.Test.YtjknihjdhccanaaVecH
namespace Go.Proofs.Ytjknihjdhccanaa
open Go.RowKit Go.Proofs.YtjknihjdhccanaaW.PrintWords Go.Proofs.YtjknihjdhccanaaW.PrintLast Go.Proofs.YtjknihjdhccanaaW.PrintMore
set_option linter.unusedVariables false
set_option linter.unusedSimpArgs false

theorem nat_add_xor (x : Nat) : ∀ y : Nat, x + y = (x ^^^ y) + 2 * (x &&& y) := by
  induction x using Nat.strongRecOn with
  | _ x ih =>
    intro y
    by_cases hx : x = 0
    · subst hx; simp
    · have h := ih (x / 2) (by omega) (y / 2)
      have e1 : (x ^^^ y) / 2 = (x / 2) ^^^ (y / 2) := Nat.xor_div_two
      have e2 : (x &&& y) / 2 = (x / 2) &&& (y / 2) := Nat.and_div_two
      have e3 : (x ^^^ y) % 2 = (x % 2 + y % 2) % 2 := by
        have := Nat.xor_mod_two_pow (a := x) (b := y) (n := 1)
        simp at this
        rcases Nat.mod_two_eq_zero_or_one x with a | a <;> rcases Nat.mod_two_eq_zero_or_one y with b | b <;> simp [a, b] at this ⊢ <;> omega
      have e4 : (x &&& y) % 2 = (x % 2) * (y % 2) := by
        have := Nat.and_mod_two_pow (a := x) (b := y) (n := 1)
        simp at this
        rcases Nat.mod_two_eq_zero_or_one x with a | a <;> rcases Nat.mod_two_eq_zero_or_one y with b | b <;> simp [a, b] at this ⊢ <;> omega
      rw [← e1, ← e2] at h
      rcases Nat.mod_two_eq_zero_or_one x with a | a <;> rcases Nat.mod_two_eq_zero_or_one y with b | b <;> rw [a, b] at e3 e4 <;> omega
theorem wrap_i64' (n : Int) : IntKind.i64.wrap n = (n + 9223372036854775808) % 18446744073709551616 - 9223372036854775808 := IntKind.wrap_i64 n
theorem and_i64 (a b : Int) : bits .and .i64 a b = IntKind.i64.wrap (((a % 18446744073709551616).toNat &&& (b % 18446744073709551616).toNat : Nat) : Int) := by
  show IntKind.i64.wrap ((BitVec.ofInt 64 a &&& BitVec.ofInt 64 b).toNat : Int) = _
  rw [BitVec.toNat_and, BitVec.toNat_ofInt, BitVec.toNat_ofInt]; rfl
theorem xor_i64 (a b : Int) : bits .xor .i64 a b = IntKind.i64.wrap (((a % 18446744073709551616).toNat ^^^ (b % 18446744073709551616).toNat : Nat) : Int) := by
  show IntKind.i64.wrap ((BitVec.ofInt 64 a ^^^ BitVec.ofInt 64 b).toNat : Int) = _
  rw [BitVec.toNat_xor, BitVec.toNat_ofInt, BitVec.toNat_ofInt]; rfl
theorem wrap_lo {n : Int} (h0 : 0 ≤ n) (h1 : n < 9223372036854775808) : (n + 9223372036854775808) % 18446744073709551616 - 9223372036854775808 = n := by omega
theorem wrap_hi {n : Int} (h0 : 9223372036854775808 ≤ n) (h1 : n < 18446744073709551616) : (n + 9223372036854775808) % 18446744073709551616 - 9223372036854775808 = n - 18446744073709551616 := by omega
theorem half_wrap {X Y s : Int} (h : s = Y + 2 * X) (l : -18446744073709551616 ≤ s) (r : s ≤ 18446744073709551614) : wrap64 (X + Y / 2) = s / 2 := by
  unfold wrap64
  have e : X + Y / 2 = s / 2 := by omega
  rw [e]
  omega
theorem lo_of {n : Nat} (h : n / 2 ^ 63 = 0) : (n : Int) < 9223372036854775808 := by omega
theorem hi_of {n : Nat} (h : n / 2 ^ 63 = 1) : (9223372036854775808 : Int) ≤ n ∧ (n : Int) < 18446744073709551616 := by omega
theorem emod_pos {a : Int} (h : 0 ≤ a) (g : a ≤ 9223372036854775807) : ((a % 18446744073709551616).toNat : Int) = a := by omega
theorem emod_neg {a : Int} (h : a < 0) (g : -9223372036854775808 ≤ a) : ((a % 18446744073709551616).toNat : Int) = a + 18446744073709551616 := by omega
theorem midI_eq (a b : Int) (ha0 : -9223372036854775808 ≤ a) (ha1 : a ≤ 9223372036854775807) (hb0 : -9223372036854775808 ≤ b) (hb1 : b ≤ 9223372036854775807) : midI a b = (a + b) / 2 := by
  unfold midI
  rw [and_i64, xor_i64]
  have hA0 := @emod_pos a; have hA1 := @emod_neg a
  have hB0 := @emod_pos b; have hB1 := @emod_neg b
  generalize (a % 18446744073709551616).toNat = A at *
  generalize (b % 18446744073709551616).toNat = B at *
  have h1 := nat_add_xor A B
  have d1 : (A &&& B) / 2 ^ 63 = (A / 2 ^ 63) &&& (B / 2 ^ 63) := Nat.and_div_two_pow
  have d2 : (A ^^^ B) / 2 ^ 63 = (A / 2 ^ 63) ^^^ (B / 2 ^ 63) := Nat.xor_div_two_pow
  rw [wrap_i64', wrap_i64']
  generalize A &&& B = X at *
  generalize A ^^^ B = Y at *
  rcases Int.lt_or_le a 0 with ca | ca <;> rcases Int.lt_or_le b 0 with cb | cb
  · have eA := hA1 ca ha0; have eB := hB1 cb hb0
    have qA : A / 2 ^ 63 = 1 := by omega
    have qB : B / 2 ^ 63 = 1 := by omega
    rw [qA, qB] at d1 d2
    have gX := hi_of (n := X) d1; have gY := lo_of (n := Y) d2
    rw [wrap_hi gX.1 gX.2, wrap_lo (by omega) gY]
    exact half_wrap (by omega) (by omega) (by omega)
  · have eA := hA1 ca ha0; have eB := hB0 cb hb1
    have qA : A / 2 ^ 63 = 1 := by omega
    have qB : B / 2 ^ 63 = 0 := by omega
    rw [qA, qB] at d1 d2
    have gX := lo_of (n := X) d1; have gY := hi_of (n := Y) d2
    rw [wrap_lo (by omega) gX, wrap_hi gY.1 gY.2]
    exact half_wrap (by omega) (by omega) (by omega)
  · have eA := hA0 ca ha1; have eB := hB1 cb hb0
    have qA : A / 2 ^ 63 = 0 := by omega
    have qB : B / 2 ^ 63 = 1 := by omega
    rw [qA, qB] at d1 d2
    have gX := lo_of (n := X) d1; have gY := hi_of (n := Y) d2
    rw [wrap_lo (by omega) gX, wrap_hi gY.1 gY.2]
    exact half_wrap (by omega) (by omega) (by omega)
  · have eA := hA0 ca ha1; have eB := hB0 cb hb1
    have qA : A / 2 ^ 63 = 0 := by omega
    have qB : B / 2 ^ 63 = 0 := by omega
    rw [qA, qB] at d1 d2
    have gX := lo_of (n := X) d1; have gY := lo_of (n := Y) d2
    rw [wrap_lo (by omega) gX, wrap_lo (by omega) gY]
    exact half_wrap (by omega) (by omega) (by omega)

theorem mid_eq {a b : Int} (ha : I64 a) (hb : I64 b) : midI a b = (a + b) / 2 := midI_eq a b ha.1 ha.2 hb.1 hb.2
theorem mid_comm {a b : Int} (ha : I64 a) (hb : I64 b) : midI b a = midI a b := by rw [mid_eq ha hb, mid_eq hb ha, Int.add_comm]
theorem mid_ge {a b : Int} (ha : I64 a) (hb : I64 b) : mn a b ≤ midI a b := by rw [mid_eq ha hb]; unfold mn; split <;> omega
theorem mid_le {a b : Int} (ha : I64 a) (hb : I64 b) : midI a b ≤ mx a b := by rw [mid_eq ha hb]; unfold mx; split <;> omega
theorem dist_comm (a b : Int) : distI b a = distI a b := by unfold distI; omega
theorem near_comm (a b c d r : Int) : nearB c d a b r = nearB a b c d r := by unfold nearB; rw [dist_comm a c, dist_comm b d]
theorem near_wide {a b c d r s : Int} (h : nearB a b c d r = true) (hs : r ≤ s) : nearB a b c d s = true := by
  unfold nearB at *
  simp only [Bool.and_eq_true, decide_eq_true_eq] at *
  omega
theorem near_self (a b r : Int) (h : 0 ≤ r) : nearB a b a b r = true := by
  unfold nearB distI
  simp only [Bool.and_eq_true, decide_eq_true_eq]
  omega
theorem near_neg (a b c d r : Int) (h : r < 0) : nearB a b c d r = false := by
  unfold nearB
  simp [decide_eq_false (show ¬ (0 ≤ r) by omega)]
theorem clamp_clamp (a m : Int) (h : 0 ≤ m) : clampI (clampI a m) m = clampI a m := by
  unfold clampI max2 min2
  (repeat' split) <;> omega
theorem clamp_near (a b m : Int) (h : 0 ≤ m) : nearB (clampI a m) (clampI b m) 0 0 m = true := by
  have key : ∀ x : Int, distI (clampI x m) 0 ≤ m := by
    intro x
    unfold distI clampI max2 min2
    (repeat' split) <;> omega
  unfold nearB
  simp only [Bool.and_eq_true, decide_eq_true_eq]
  exact ⟨h, key a, key b⟩
theorem clamp_I64 {a m : Int} (ha : I64 a) (h : 0 ≤ m) (g : m ≤ 9223372036854775807) : I64 (clampI a m) := by
  obtain ⟨a1, a2⟩ := ha
  constructor <;> (unfold clampI max2 min2; (repeat' split) <;> omega)
theorem le_mx (a b : Int) : a ≤ mx a b := by unfold mx; split <;> omega
theorem le_mx' (a b : Int) : b ≤ mx a b := by unfold mx; split <;> omega
theorem mx_I64 {a b : Int} (ha : I64 a) (hb : I64 b) : I64 (mx a b) := by unfold mx; split <;> assumption
theorem max_mx (ats : Array TypeId) (ty : TypeId) (k k' : IntKind) (x y : Int) : Builtin.max_ ats ty #[.int k x, .int k' y] = pure (.int k (mx x y)) := by rw [max_two, max2_int]; rfl
theorem min_mn (ats : Array TypeId) (ty : TypeId) (k k' : IntKind) (x y : Int) : Builtin.min_ ats ty #[.int k x, .int k' y] = pure (.int k (mn x y)) := by rw [min_two, min2_int]; rfl
end Go.Proofs.Ytjknihjdhccanaa
