/- Mul, Sqrt. -/
import Derived.Test.YtcnibfancjofhaaDoorFixB
import Derived.Test.YtcnibfancjofhaaDoorShA
namespace Go.Proofs.YtcnibfancjofhaaDoor
open Go.RowKit Go.Proofs.YtcnibfancjofhaaDoorW.PrintWords Go.Proofs.YtcnibfancjofhaaDoorW.PrintLast Go.Proofs.YtcnibfancjofhaaDoorW.PrintMore
set_option linter.unusedVariables false
set_option linter.unusedSimpArgs false

theorem Mul64_calls (x y : Int) (w : World) (hx : 0 ≤ x ∧ x < 18446744073709551616) (hy : 0 ≤ y ∧ y < 18446744073709551616) :
    Calls Tryd.prog 42 #[.int .u64 x, .int .u64 y] w fun e w' => e = .returned (.tuple #[.int .u64 (x * y / 18446744073709551616), .int .u64 (x * y % 18446744073709551616)]) ∧ w' = w := by
  obtain ⟨x, rfl⟩ : ∃ n : Nat, x = (n : Int) := ⟨x.toNat, by omega⟩
  obtain ⟨y, rfl⟩ : ∃ n : Nat, y = (n : Int) := ⟨y.toNat, by omega⟩
  have h := Tryd.bits_Mul64 x y (by omega) (by omega) w
  rw [Int.natCast_ediv, Int.natCast_emod, Int.natCast_mul] at h
  exact h
theorem wraps_u64 (n : Int) (h₀ : 0 ≤ n) (h₁ : n < 2 ^ 64) : IntKind.u64.wrap n = n := by rw [wrap_u64]; omega
theorem or_u64 (i : Nat) (x y : Int) (p : Int) (hp : p = (2 : Int) ^ i) (hx0 : 0 ≤ x) (hx : x % p = 0) (hx1 : x < 18446744073709551616) (hy0 : 0 ≤ y) (hy : y < p) (hy1 : y < 18446744073709551616) : bits .or .u64 x y = x + y := by
  subst hp
  exact bits_join .u64 64 (by decide) wraps_u64 i x y hx0 hx (by omega) hy0 hy (by omega)
theorem mul_lt (x y B : Int) (hx : 0 ≤ x ∧ x ≤ B) (hy : 0 ≤ y ∧ y ≤ B) : 0 ≤ x * y ∧ x * y ≤ B * B := ⟨Int.mul_nonneg hx.1 hy.1, Int.mul_le_mul hx.2 hy.2 hy.1 (by omega)⟩
set_option maxHeartbeats 2000000 in
theorem Mul_calls (a b : Int) (w : World) (ha : In64 a) (hb : In64 b) : Calls Tryd.prog 17 #[.int .i64 a, .int .i64 b] w fun e w' => e = .returned (.int .i64 (mulF a b)) ∧ w' = w := by
  have hn := ab_nonneg a
  have hl := ab_le ha
  have hn2 := ab_nonneg b
  have hl2 := ab_le hb
  have HA := Aside0.mk ha; have HB := Aside0.mk hb
  have hp := mul_lt (ab a) (ab b) 9223372036854775808 ⟨hn, hl⟩ ⟨hn2, hl2⟩
  have hv : satS (word2 (ab a * ab b / 18446744073709551616 / 4294967296) (ab a * ab b / 18446744073709551616 * 4294967296 % 18446744073709551616 + ab a * ab b % 18446744073709551616 / 4294967296)) (!(decide (a < 0) == decide (b < 0))) = mulF a b := by
    unfold mulF word2 ng
    rw [show (!(decide (a < 0) == decide (b < 0))) = (decide (a < 0) != decide (b < 0)) from rfl]
    congr 1
    generalize ab a * ab b = z at *
    omega
  have HV := Aside0.mk hv
  clear hv ha hb
  go_enter Tryd.func17, Tryd.ntmps17
  go_wp2_with fail
  ((with_reducible refine (size_calls _ _ HA.out).mono ?_); rintro e_ W1 ⟨rfl, rfl⟩)
  go_wp2_with fail
  ((with_reducible refine (size_calls _ _ HB.out).mono ?_); rintro e_ W2 ⟨rfl, rfl⟩)
  generalize hx : ab a = x at hn hl hp HV ⊢
  generalize hy : ab b = y at hn2 hl2 hp HV ⊢
  clear hx hy
  go_wp2_with fail
  ((with_reducible refine (Mul64_calls _ _ _ (by omega) (by omega)).mono ?_); rintro e_ W3 ⟨rfl, rfl⟩)
  generalize x * y = z at hp HV ⊢
  have hor := or_u64 32 (z / 18446744073709551616 * 4294967296 % 18446744073709551616) (z % 18446744073709551616 / 4294967296) 4294967296 rfl (by omega) (by omega) (by omega) (by omega) (by omega) (by omega)
  rw [← wrap_u64 (z / 18446744073709551616 * 4294967296)] at hor
  have hz : 0 ≤ z / 18446744073709551616 ∧ z / 18446744073709551616 < 18446744073709551616 := by omega
  have hz2 : 0 ≤ z % 18446744073709551616 ∧ z % 18446744073709551616 < 18446744073709551616 := by omega
  go_wp2_with fail
  rw [wrap_u64]
  ((with_reducible refine (signed_calls _ _ _ _ (by omega) (by omega)).mono ?_); rintro e_ W4 ⟨rfl, rfl⟩)
  rw [HV.out]
  go_wp2
  go_ret
  exact ⟨rfl, rfl⟩

/-! ### Sqrt, bit by bit -/
theorem sq_mono {x y : Int} (h0 : 0 ≤ x) (h : x ≤ y) : x * x ≤ y * y := Int.mul_le_mul h h h0 (Int.le_trans h0 h)
def b2 (k : Nat) : Int := ((2 ^ k : Nat) : Int)
theorem b2_pos (k : Nat) : 0 < b2 k := by unfold b2; have := Nat.two_pow_pos k; omega
theorem b2_succ (k : Nat) : b2 (k + 1) = 2 * b2 k := by unfold b2; rw [Nat.pow_succ]; omega
theorem b2_le {k m : Nat} (h : k ≤ m) : b2 k ≤ b2 m := by unfold b2; have := Nat.pow_le_pow_right (n := 2) (by decide) h; omega
/-- What stands ahead of bit k - 1: n is a multiple of 2^k, below 2^49; its square is not above A, that of n + 2^k is. -/
def SqR (A n : Int) (k : Nat) : Prop := 0 ≤ n ∧ n < 562949953421312 ∧ n % b2 k = 0 ∧ n * n ≤ A ∧ A < (n + b2 k) * (n + b2 k)
theorem sqr_start {A : Int} (h0 : 0 ≤ A) (h : A < 39614081257132168796771975168) : SqR A 0 49 := by
  refine ⟨by omega, by omega, by simp, by omega, ?_⟩
  rw [show b2 49 = 562949953421312 by rfl]
  omega
theorem sqr_mod {n : Int} {k : Nat} (hn : n % b2 (k + 1) = 0) : n % b2 k = 0 ∧ (n + b2 k) % b2 k = 0 := by
  have hb := b2_pos k
  rw [b2_succ] at hn
  have h1 : b2 k ∣ n := Int.dvd_trans (Int.dvd_mul_left (2 : Int) (b2 k)) (Int.dvd_of_emod_eq_zero hn)
  exact ⟨Int.emod_eq_zero_of_dvd h1, Int.emod_eq_zero_of_dvd (Int.dvd_add h1 (Int.dvd_refl _))⟩
theorem sqr_lt {n : Int} {k : Nat} (hk : k < 49) (h1 : n < 562949953421312) (hn : n % b2 (k + 1) = 0) : n + b2 k < 562949953421312 := by
  -- n is a multiple of 2^(k+1), as 2^49 is
  have hd : b2 (k + 1) ∣ n := Int.dvd_of_emod_eq_zero hn
  have hd2 : b2 (k + 1) ∣ (562949953421312 : Int) := by
    rw [show (562949953421312 : Int) = b2 49 by rfl]
    unfold b2
    exact Int.natCast_dvd_natCast.2 (Nat.pow_dvd_pow 2 (by omega))
  have hd3 : b2 (k + 1) ∣ 562949953421312 - n := Int.dvd_sub hd2 hd
  have hp := b2_pos k
  have hle : b2 (k + 1) ≤ 562949953421312 - n := Int.le_of_dvd (by omega) hd3
  rw [b2_succ] at hle
  omega
theorem sqr_up {A n : Int} {k : Nat} (hk : k < 49) (h : SqR A n (k + 1)) (hc : (n + b2 k) * (n + b2 k) ≤ A) : SqR A (n + b2 k) k := by
  obtain ⟨h0, h1, h2, h3, h4⟩ := h
  have hp := b2_pos k
  refine ⟨by omega, sqr_lt hk h1 h2, (sqr_mod h2).2, hc, ?_⟩
  rw [show n + b2 k + b2 k = n + b2 (k + 1) by rw [b2_succ]; omega]
  exact h4
theorem sqr_stay {A n : Int} {k : Nat} (h : SqR A n (k + 1)) (hc : ¬ (n + b2 k) * (n + b2 k) ≤ A) : SqR A n k := by
  obtain ⟨h0, h1, h2, h3, h4⟩ := h
  exact ⟨h0, h1, (sqr_mod h2).1, h3, by omega⟩
theorem sqr_end {a n : Int} (h : SqR (a * 4294967296) n 0) : Root a n := by
  obtain ⟨h0, h1, h2, h3, h4⟩ := h
  exact ⟨h0, h3, by rw [show b2 0 = 1 by rfl] at h4; exact h4⟩
theorem or_bit {n : Int} {k : Nat} (hk : k < 49) (h0 : 0 ≤ n) (h1 : n < 562949953421312) (h2 : n % b2 (k + 1) = 0) : bits .or .u64 n (b2 k) = n + b2 k := by
  have hp := b2_pos k
  have hlt := b2_le (show k ≤ 48 by omega)
  rw [show b2 48 = 281474976710656 by rfl] at hlt
  exact or_u64 (k + 1) n (b2 k) (b2 (k + 1)) (by unfold b2; exact Int.natCast_pow 2 (k + 1)) h0 h2 (by omega) (by omega) (by rw [b2_succ]; omega) (by omega)
theorem half_b2 (k : Nat) : b2 (k + 1) / 2 = b2 k := by rw [b2_succ]; omega

/-- The bit that stands next. -/
def bt : Nat → Int
  | 0 => 0
  | k + 1 => b2 k
set_option maxHeartbeats 4000000 in
theorem Sqrt_neg (a : Int) (w : World) (h : a < 0) : Calls Tryd.prog 16 #[.int .i64 a] w fun e w' => e = .returned (.tuple #[.int .i64 0, .int .i64 1]) ∧ w' = w := by
  have da : decide (a < 0) = true := decide_eq_true h
  clear h
  go_enter Tryd.func16, Tryd.ntmps16
  go_wp2
  go_ret2
  exact ⟨rfl, rfl⟩
set_option maxHeartbeats 4000000 in
theorem Sqrt_calls (a : Int) (w : World) (h0 : 0 ≤ a) (h1 : a ≤ 9223372036854775807) : Calls Tryd.prog 16 #[.int .i64 a] w fun e w' => ∃ n, e = .returned (.tuple #[.int .i64 n, .int .i64 0]) ∧ w' = w ∧ Root a n := by
  have da : decide (a < 0) = false := decide_eq_false (by omega)
  have hst : SqR (a * 4294967296) 0 49 := sqr_start (by omega) (by omega)
  have HST := Aside0.mk hst
  clear hst
  go_enter Tryd.func16, Tryd.ntmps16
  go_wp2
  rw [wrap_u64]
  obtain ⟨hi, hhi⟩ : ∃ hi, hi = a / 4294967296 := ⟨_, rfl⟩
  obtain ⟨lo, hlo⟩ : ∃ lo, lo = a * 4294967296 % 18446744073709551616 := ⟨_, rfl⟩
  rw [← hhi, ← hlo]
  have hA : Aside0 (a * 4294967296 = hi * 18446744073709551616 + lo) := ⟨by omega⟩
  have hlor : 0 ≤ lo ∧ lo < 18446744073709551616 := by omega
  have hhir : 0 ≤ hi ∧ hi < 18446744073709551616 := by omega
  clear hhi hlo
  go_loop [6, 7] (fun vn vb => ∃ (k : Nat) (n : Int), vn = .int .u64 n ∧ vb = .int .u64 (bt k) ∧ k ≤ 49 ∧ Aside0 (SqR (a * 4294967296) n k)) (fun _ vb => (intOf vb).toNat)
  case atStart => exact ⟨49, 0, rfl, rfl, by omega, HST⟩
  case round =>
    obtain ⟨k, n, rfl, rfl, hk, HS⟩ := hrel
    have hn0 := HS.out.1
    have hn1 := HS.out.2.1
    cases k with
    | zero =>
      have hr : bt 0 = 0 := rfl
      rw [hr]
      clear hr
      have HR := Aside0.mk (sqr_end HS.out)
      have hlt := root_lt h1 HR.out
      go_wp2
      go_ret2
      exact ⟨n, by first | rfl | (rw [wrap_i64]; congr 3; omega), rfl, HR.out⟩
    | succ k =>
      have hk49 : k < 49 := by omega
      have hp := b2_pos k
      have hp2 := b2_le (show k ≤ 48 by omega)
      rw [show b2 48 = 281474976710656 by rfl] at hp2
      have hor := or_bit hk49 hn0 hn1 HS.out.2.2.1
      have hlt := sqr_lt hk49 hn1 HS.out.2.2.1
      have hup := fun hc => sqr_up hk49 HS.out hc
      have hst := fun hc => sqr_stay HS.out hc
      have hbt : bt (k + 1) = b2 k := rfl
      rw [hbt]
      have hhf : b2 k / 2 = bt k := by
        cases k with
        | zero => rfl
        | succ k => exact half_b2 k
      have hhl : bt k < b2 k := by rw [← hhf]; omega
      have hb0 : 0 ≤ bt k := by rw [← hhf]; omega
      have HUP := Aside0.mk hup; have HSTY := Aside0.mk hst
      clear hup hst hbt
      obtain ⟨bk, hbk⟩ : ∃ bk, bk = b2 k := ⟨_, rfl⟩
      rw [← hbk] at hp hp2 hor hlt hhf hhl HUP HSTY ⊢
      clear hbk
      obtain ⟨m, hm⟩ : ∃ m, m = n + bk := ⟨_, rfl⟩
      rw [← hm] at hor hlt HUP HSTY
      have hm0 : 0 ≤ m := by omega
      have HMM := Aside0.mk hm
      clear hm
      have hz := mul_lt m m 562949953421312 ⟨hm0, by omega⟩ ⟨hm0, by omega⟩
      go_wp2_with fail
      ((with_reducible refine (Mul64_calls _ _ _ (by omega) (by omega)).mono ?_); rintro e_ W3 ⟨rfl, rfl⟩)
      generalize m * m = z at hz HUP HSTY ⊢
      have hzh : 0 ≤ z / 18446744073709551616 ∧ z / 18446744073709551616 < 18446744073709551616 := by omega
      have hzl : 0 ≤ z % 18446744073709551616 ∧ z % 18446744073709551616 < 18446744073709551616 := by omega
      obtain ⟨h, hh⟩ : ∃ h, h = z / 18446744073709551616 := ⟨_, rfl⟩
      obtain ⟨l, hl⟩ : ∃ l, l = z % 18446744073709551616 := ⟨_, rfl⟩
      rw [← hh] at hzh ⊢
      rw [← hl] at hzl ⊢
      have hzz : Aside0 (z = h * 18446744073709551616 + l) := ⟨by omega⟩
      clear hh hl hz
      by_cases c1 : h < hi
      · have d1 : decide (h < hi) = true := decide_eq_true c1
        have hle := HUP.out (by have := hA.out; have := hzz.out; omega)
        have HLE := Aside0.mk hle
        clear hle
        go_wp2
        exact ⟨⟨k, m, rfl, rfl, by omega, HLE⟩, by simp only [intOf]; omega⟩
      · have d1 : decide (h < hi) = false := decide_eq_false c1
        by_cases c2 : h = hi
        · subst c2
          by_cases c3 : l ≤ lo
          · have d3 : decide (l ≤ lo) = true := decide_eq_true c3
            have hle := HUP.out (by have := hA.out; have := hzz.out; omega)
            have HLE := Aside0.mk hle
            clear hle
            go_wp2
            exact ⟨⟨k, m, rfl, rfl, by omega, HLE⟩, by simp only [intOf]; omega⟩
          · have d3 : decide (l ≤ lo) = false := decide_eq_false c3
            have hle := HSTY.out (by have := hA.out; have := hzz.out; omega)
            have HLE := Aside0.mk hle
            clear hle
            go_wp2
            exact ⟨⟨k, n, rfl, rfl, by omega, HLE⟩, by simp only [intOf]; omega⟩
        · have d2 : (h == hi) = false := by simpa using c2
          have hle := HSTY.out (by have := hA.out; have := hzz.out; omega)
          have HLE := Aside0.mk hle
          clear hle
          go_wp2
          exact ⟨⟨k, n, rfl, rfl, by omega, HLE⟩, by simp only [intOf]; omega⟩
end Go.Proofs.YtcnibfancjofhaaDoor
