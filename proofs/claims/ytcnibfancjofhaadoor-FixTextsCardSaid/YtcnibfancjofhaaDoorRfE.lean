/- The reference's great numbers: plain laws of less, double, Over. -/
import Derived.Test.YtcnibfancjofhaaDoorRfA
namespace Go.Proofs.YtcnibfancjofhaaDoor
set_option linter.unusedVariables false
set_option linter.unusedSimpArgs false

/-- Doubled, k digits of it. -/
structure DbR (a : Nat → Int) (m : Int) (k : Nat) (o : Int) (D : Nat → Int) : Prop where
  k8 : k ≤ 8
  o0 : 0 ≤ o
  o1 : o ≤ 1
  dig : Digits D
  rest : ∀ j, k ≤ j → j < 8 → D j = a j
  eq : psum D k + o * pw k = 2 * psum a k + m
theorem DbR.start {a : Nat → Int} {m : Int} (h : Digits a) (h0 : 0 ≤ m) (h1 : m ≤ 1) : DbR a m 0 m a := ⟨by omega, h0, h1, h, fun _ _ _ => rfl, by simp [psum, pw]⟩
theorem DbR.step {a D : Nat → Int} {m : Int} {k : Nat} {o s : Int} (h : DbR a m k o D) (hk : k < 8) (hs : s = 2 * D k + o) : DbR a m (k + 1) (s / 65536) (upd D k (s % 65536)) := by
  have hd := h.dig k hk
  have ho := h.o0; have ho1 := h.o1
  have hr := h.rest k (by omega) hk
  refine ⟨by omega, by omega, by omega, ?_, ?_, ?_⟩
  · intro j hj
    by_cases e : j = k
    · subst e; rw [upd_same]; omega
    · rw [upd_ne _ _ _ _ e]; exact h.dig j hj
  · intro j h1 h2
    rw [upd_ne _ _ _ _ (by omega)]; exact h.rest j (by omega) h2
  · rw [psum_succ, psum_succ, upd_same, pw_succ, psum_upd, if_neg (by omega)]
    have e := h.eq
    have q : s % 65536 + s / 65536 * 65536 = s := by omega
    have q2 : s % 65536 * pw k + s / 65536 * (65536 * pw k) = s * pw k := by
      rw [← Int.mul_assoc, ← Int.add_mul, q]
    have q3 : s * pw k = 2 * (a k * pw k) + o * pw k := by rw [hs, hr, Int.add_mul, Int.mul_assoc]
    omega
theorem DbR.done {a D : Nat → Int} {m o V : Int} (h : DbR a m 8 o D) (ha : Rep a V) (hV : 2 * V + m < 340282366920938463463374607431768211456) : Rep D (2 * V + m) := by
  refine ⟨h.dig, ?_⟩
  have e := h.eq
  rw [ha.val, pw8] at e
  have hb := (psum_bound h.dig 8 (by omega)).1
  have := h.o0; have := h.o1
  have : o = 0 := by omega
  subst this
  omega

/-- Less, k digits of it. -/
structure LsR (a b : Nat → Int) (k : Nat) (o : Int) (D : Nat → Int) : Prop where
  k8 : k ≤ 8
  o0 : 0 ≤ o
  o1 : o ≤ 1
  dig : Digits D
  rest : ∀ j, k ≤ j → j < 8 → D j = a j
  eq : psum D k - o * pw k = psum a k - psum b k
theorem LsR.start {a b : Nat → Int} (h : Digits a) : LsR a b 0 0 a := ⟨by omega, by omega, by omega, h, fun _ _ _ => rfl, by simp [psum, pw]⟩
theorem LsR.stay {a b D : Nat → Int} {k : Nat} {o s : Int} (h : LsR a b k o D) (hb : Digits b) (hk : k < 8) (hs : s = D k - b k - o) (h0 : 0 ≤ s) : LsR a b (k + 1) 0 (upd D k s) := by
  have hd := h.dig k hk; have hbk := hb k hk
  have ho := h.o0; have ho1 := h.o1
  have hr := h.rest k (by omega) hk
  refine ⟨by omega, by omega, by omega, ?_, ?_, ?_⟩
  · intro j hj
    by_cases e : j = k
    · subst e; rw [upd_same]; omega
    · rw [upd_ne _ _ _ _ e]; exact h.dig j hj
  · intro j h1 h2
    rw [upd_ne _ _ _ _ (by omega)]; exact h.rest j (by omega) h2
  · rw [psum_succ, psum_succ, psum_succ, upd_same, psum_upd, if_neg (by omega)]
    have e := h.eq
    have q3 : s * pw k = a k * pw k - b k * pw k - o * pw k := by rw [hs, hr, Int.sub_mul, Int.sub_mul]
    omega
theorem LsR.borrow {a b D : Nat → Int} {k : Nat} {o s : Int} (h : LsR a b k o D) (hb : Digits b) (hk : k < 8) (hs : s = D k - b k - o) (h0 : s < 0) : LsR a b (k + 1) 1 (upd D k (s + 65536)) := by
  have hd := h.dig k hk; have hbk := hb k hk
  have ho := h.o0; have ho1 := h.o1
  have hr := h.rest k (by omega) hk
  refine ⟨by omega, by omega, by omega, ?_, ?_, ?_⟩
  · intro j hj
    by_cases e : j = k
    · subst e; rw [upd_same]; omega
    · rw [upd_ne _ _ _ _ e]; exact h.dig j hj
  · intro j h1 h2
    rw [upd_ne _ _ _ _ (by omega)]; exact h.rest j (by omega) h2
  · rw [psum_succ, psum_succ, psum_succ, upd_same, psum_upd, if_neg (by omega), pw_succ]
    have e := h.eq
    have q3 : s * pw k = a k * pw k - b k * pw k - o * pw k := by rw [hs, hr, Int.sub_mul, Int.sub_mul]
    have q4 : (s + 65536) * pw k = s * pw k + 65536 * pw k := Int.add_mul _ _ _
    omega
theorem LsR.done {a b D : Nat → Int} {o A B : Int} (h : LsR a b 8 o D) (ha : Rep a A) (hb : Rep b B) (hAB : B ≤ A) : Rep D (A - B) := by
  refine ⟨h.dig, ?_⟩
  have e := h.eq
  rw [ha.val, hb.val, pw8] at e
  have hb2 := (psum_bound h.dig 8 (by omega)).2
  rw [pw8] at hb2
  have := h.o0; have := h.o1
  have : o = 0 := by omega
  subst this
  omega

/-- Divided, j bits are left. -/
structure OvR (A B : Int) (j : Nat) (q r : Int) : Prop where
  q0 : 0 ≤ q
  r0 : 0 ≤ r
  rB : r < B
  eq : A / 2 ^ j = q * B + r
theorem OvR.start {A B : Int} (hA : 0 ≤ A) (h : A < 340282366920938463463374607431768211456) (hB : 0 < B) : OvR A B 128 0 0 :=
  ⟨by omega, by omega, hB, by rw [Int.ediv_eq_zero_of_lt hA (by rw [show (2 : Int) ^ 128 = 340282366920938463463374607431768211456 by decide]; exact h)]; omega⟩
theorem bit_split (A : Int) (j : Nat) : A / 2 ^ j = 2 * (A / 2 ^ (j + 1)) + A / 2 ^ j % 2 := by
  have e : A / 2 ^ (j + 1) = A / 2 ^ j / 2 := by rw [Int.ediv_ediv_of_nonneg (Int.le_of_lt (Int.pow_pos (by decide))), Int.pow_succ]
  rw [e]; omega
theorem OvR.up {A B q r : Int} {j : Nat} (h : OvR A B (j + 1) q r) (hc : B ≤ 2 * r + A / 2 ^ j % 2) : OvR A B j (2 * q + 1) (2 * r + A / 2 ^ j % 2 - B) := by
  have e := h.eq; have s := bit_split A j
  have := h.q0; have := h.r0; have := h.rB
  refine ⟨by omega, by omega, by omega, ?_⟩
  rw [s, e]
  have : (2 * q + 1) * B = 2 * (q * B) + B := by rw [Int.add_mul, Int.mul_assoc, Int.one_mul]
  omega
theorem OvR.stay {A B q r : Int} {j : Nat} (h : OvR A B (j + 1) q r) (hc : 2 * r + A / 2 ^ j % 2 < B) : OvR A B j (2 * q + 0) (2 * r + A / 2 ^ j % 2) := by
  have e := h.eq; have s := bit_split A j
  have := h.q0; have := h.r0; have := h.rB
  refine ⟨by omega, by omega, by omega, ?_⟩
  rw [s, e]
  have : (2 * q + 0) * B = 2 * (q * B) := by rw [Int.add_zero, Int.mul_assoc]
  omega
theorem OvR.qA {A B q r : Int} {j : Nat} (h : OvR A B j q r) (hA : 0 ≤ A) : q ≤ A / 2 ^ j := by
  have e := h.eq
  have := h.r0; have := h.rB
  have h1 : q * 1 ≤ q * B := Int.mul_le_mul_of_nonneg_left (by omega) h.q0
  omega
theorem div_pow_le {A : Int} (hA : 0 ≤ A) (j : Nat) : A / 2 ^ j ≤ A := Int.ediv_le_self _ hA
theorem OvR.fin {A B q r : Int} (h : OvR A B 0 q r) : q = A / B := by
  have e := h.eq
  rw [Int.pow_zero, Int.ediv_one] at e
  have hB : 0 < B := by have := h.r0; have := h.rB; omega
  rw [e, Int.add_comm, Int.add_mul_ediv_right _ _ (by omega), Int.ediv_eq_zero_of_lt h.r0 h.rB]; omega
theorem pw_two (k : Nat) : pw k = 2 ^ (16 * k) := by
  induction k with
  | zero => rfl
  | succ k ih => rw [pw_succ, ih, show 16 * (k + 1) = 16 * k + 16 by omega, Int.pow_add, Int.mul_comm]; rfl
/-- A bit of a number, out of its digits. -/
theorem bit_of (A : Int) (j : Nat) : cdig A (j / 16) / 2 ^ (j % 16) % 2 = A / 2 ^ j % 2 := by
  unfold cdig
  rw [pw_two]
  obtain ⟨k, hk⟩ : ∃ k, k = j / 16 := ⟨_, rfl⟩
  obtain ⟨m, hm⟩ : ∃ m, m = j % 16 := ⟨_, rfl⟩
  have hj : j = 16 * k + m := by omega
  have hm16 : m < 16 := by omega
  rw [← hk, ← hm, hj, Int.pow_add, ← Int.ediv_ediv_of_nonneg (Int.le_of_lt (Int.pow_pos (by decide)))]
  generalize A / 2 ^ (16 * k) = X
  have hs : (65536 : Int) = 2 ^ m * 2 ^ (16 - m) := by rw [← Int.pow_add, show m + (16 - m) = 16 by omega]; rfl
  have h2 : (2 : Int) ^ (16 - m) = 2 * 2 ^ (15 - m) := by rw [show 16 - m = (15 - m) + 1 by omega, Int.pow_succ, Int.mul_comm]
  have hp : (0 : Int) < 2 ^ m := Int.pow_pos (by decide)
  have e1 : X % 65536 / 2 ^ m = X / 2 ^ m % 2 ^ (16 - m) := by
    rw [Int.emod_def, Int.emod_def, hs]
    have : X - 2 ^ m * 2 ^ (16 - m) * (X / (2 ^ m * 2 ^ (16 - m))) = X + 2 ^ m * (-(2 ^ (16 - m) * (X / (2 ^ m * 2 ^ (16 - m))))) := by
      rw [Int.mul_neg, Int.mul_assoc, Int.sub_eq_add_neg]
    rw [this, Int.add_mul_ediv_left _ _ (by omega), Int.ediv_ediv_of_nonneg (by omega), Int.sub_eq_add_neg]
  rw [e1, h2]
  rw [Int.emod_emod_of_dvd _ ⟨_, rfl⟩]
end Go.Proofs.YtcnibfancjofhaaDoor
