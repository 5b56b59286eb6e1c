/- Plain laws of numbers of eight digits: products, shifts, sums, order. -/
import Derived.Test.YtjknihjdhccanaaBig
namespace Go.Proofs.Ytjknihjdhccanaa
open Go.RowKit Go.Proofs.YtjknihjdhccanaaW.PrintWords Go.Proofs.YtjknihjdhccanaaW.PrintLast Go.Proofs.YtjknihjdhccanaaW.PrintMore
set_option linter.unusedVariables false
set_option linter.unusedSimpArgs false

theorem psum_succ (D : Nat → Int) (k : Nat) : psum D (k + 1) = psum D k + D k * pw k := rfl
theorem pw_succ (k : Nat) : pw (k + 1) = 65536 * pw k := rfl
/-! ### Times -/
structure TO (a b : Nat → Int) (i : Nat) (D : Nat → Int) : Prop where
  i4 : i ≤ 4
  dig : Digits D
  zero : ∀ j, i + 4 ≤ j → j < 8 → D j = 0
  eq : psum D 8 = psum a i * psum b 4
structure TI (a b : Nat → Int) (i k : Nat) (o : Int) (D : Nat → Int) : Prop where
  k4 : k ≤ 4
  o0 : 0 ≤ o
  o1 : o < 65536
  dig : Digits D
  zero : ∀ j, i + 4 ≤ j → j < 8 → D j = 0
  eq : psum D 8 + o * pw (i + k) = psum a i * psum b 4 + a i * pw i * psum b k
theorem TO.start (a b : Nat → Int) : TO a b 0 (fun _ => 0) := ⟨by omega, fun _ _ => ⟨by omega, by omega⟩, fun _ _ _ => rfl, by simp [psum]⟩
theorem TO.enter {a b D : Nat → Int} {i : Nat} (h : TO a b i D) : TI a b i 0 0 D := ⟨by omega, by omega, by omega, h.dig, h.zero, by rw [h.eq, Int.zero_mul]; show _ = _ + _ * 0; rw [Int.mul_zero]⟩
theorem prod_digits {x y : Int} (hx : 0 ≤ x ∧ x < 65536) (hy : 0 ≤ y ∧ y < 65536) : 0 ≤ x * y ∧ x * y ≤ 4294836225 := by
  refine ⟨Int.mul_nonneg hx.1 hy.1, ?_⟩
  have := Int.mul_le_mul (show x ≤ 65535 by omega) (show y ≤ 65535 by omega) hy.1 (by omega)
  omega
theorem TI.step {a b D : Nat → Int} {i k : Nat} {o s : Int} (h : TI a b i k o D) (ha : Digits a) (hb : Digits b) (hi : i < 4) (hk : k < 4) (hs : s = D (i + k) + a i * b k + o) :
    TI a b i (k + 1) (s / 65536) (upd D (i + k) (s % 65536)) := by
  have hp := prod_digits (ha i (by omega)) (hb k (by omega))
  have hd := h.dig (i + k) (by omega)
  have o0 := h.o0; have o1 := h.o1
  have he := h.eq
  refine ⟨by omega, by omega, by omega, ?_, ?_, ?_⟩
  · intro j hj
    by_cases e : j = i + k
    · subst e; rw [upd_same]; omega
    · rw [upd_ne _ _ _ _ e]; exact h.dig j hj
  · intro j h1 h2
    rw [upd_ne _ _ _ _ (by omega)]; exact h.zero j h1 h2
  · rw [psum_upd, if_pos (by omega), ← Nat.add_assoc, psum_succ b k, pw_succ]
    have e1 : (s % 65536 - D (i + k)) * pw (i + k) + s / 65536 * (65536 * pw (i + k)) = (a i * b k + o) * pw (i + k) := by
      rw [← Int.mul_assoc, ← Int.add_mul]; congr 1; omega
    have e2 : a i * pw i * (psum b k + b k * pw k) = a i * pw i * psum b k + a i * b k * pw (i + k) := by rw [pw_add]; grind
    have e3 : (a i * b k + o) * pw (i + k) = a i * b k * pw (i + k) + o * pw (i + k) := Int.add_mul _ _ _
    rw [e2]
    omega
theorem TI.leave {a b D : Nat → Int} {i : Nat} {o : Int} (h : TI a b i 4 o D) (hi : i < 4) : TO a b (i + 1) (upd D (i + 4) (D (i + 4) + o)) := by
  have hz := h.zero (i + 4) (by omega) (by omega)
  refine ⟨by omega, ?_, ?_, ?_⟩
  · intro j hj
    by_cases e : j = i + 4
    · subst e; rw [upd_same, hz]; have := h.o0; have := h.o1; omega
    · rw [upd_ne _ _ _ _ e]; exact h.dig j hj
  · intro j h1 h2
    rw [upd_ne _ _ _ _ (by omega)]; exact h.zero j (by omega) h2
  · rw [psum_upd, if_pos (by omega), show D (i + 4) + o - D (i + 4) = o from by omega]
    have := h.eq
    rw [psum_succ a i, Int.add_mul]
    exact this
theorem TO.done {a b D : Nat → Int} {A B : Int} (h : TO a b 4 D) (ha : Rep a A) (hb : Rep b B) (hA : A < 18446744073709551616) (hB : B < 18446744073709551616) : Rep D (A * B) := by
  refine ⟨h.dig, ?_⟩
  rw [h.eq, (ha.high (m := 4) (by omega) (by rw [pw4]; exact hA)).2, (hb.high (m := 4) (by omega) (by rw [pw4]; exact hB)).2]

/-! ### Shift -/
theorem shift_down {a D : Nat → Int} {V : Int} (h : Rep a V) (h0 : ∀ j, j < 6 → D j = a (j + 2)) (h6 : D 6 = 0) (h7 : D 7 = 0) : Rep D (V / 4294967296) := by
  have hd := h.dig
  have hv := h.val
  refine ⟨?_, ?_⟩
  · intro j hj
    rcases Nat.lt_or_ge j 6 with c | c
    · rw [h0 j c]; exact hd (j + 2) (by omega)
    · have : j = 6 ∨ j = 7 := by omega
      rcases this with rfl | rfl
      · rw [h6]; omega
      · rw [h7]; omega
  · have d0 := hd 0 (by omega); have d1 := hd 1 (by omega)
    simp only [psum, pw, show D 0 = a 2 from h0 0 (by omega), show D 1 = a 3 from h0 1 (by omega), show D 2 = a 4 from h0 2 (by omega), show D 3 = a 5 from h0 3 (by omega), show D 4 = a 6 from h0 4 (by omega), show D 5 = a 7 from h0 5 (by omega), h6, h7] at *
    omega
theorem shift_up {a D : Nat → Int} {V : Int} (h : Rep a V) (hV : V < 79228162514264337593543950336) (h0 : D 0 = 0) (h1 : D 1 = 0) (h2 : ∀ j, j < 6 → D (j + 2) = a j) : Rep D (V * 4294967296) := by
  have hd := h.dig
  have hv := (h.high (m := 6) (by omega) (by rw [pw6]; exact hV)).2
  refine ⟨?_, ?_⟩
  · intro j hj
    match j, hj with
    | 0, _ => rw [h0]; omega
    | 1, _ => rw [h1]; omega
    | j + 2, hj => rw [h2 j (by omega)]; exact hd j (by omega)
  · simp only [psum, pw, h0, h1, show D 2 = a 0 from h2 0 (by omega), show D 3 = a 1 from h2 1 (by omega), show D 4 = a 2 from h2 2 (by omega), show D 5 = a 3 from h2 3 (by omega), show D 6 = a 4 from h2 4 (by omega), show D 7 = a 5 from h2 5 (by omega)] at *
    omega
/-- i digits are done. -/
structure SR (a : Nat → Int) (f : Nat → Int) (i : Nat) (D : Nat → Int) : Prop where
  i8 : i ≤ 8
  done : ∀ j, j < i → D j = f j
  rest : ∀ j, i ≤ j → j < 8 → D j = 0
theorem SR.start (a f : Nat → Int) : SR a f 0 (fun _ => 0) := ⟨by omega, fun _ h => by omega, fun _ _ _ => rfl⟩
theorem SR.set {a f D : Nat → Int} {i : Nat} (h : SR a f i D) (hi : i < 8) : SR a f (i + 1) (upd D i (f i)) := by
  refine ⟨by omega, fun j hj => ?_, fun j h1 h2 => ?_⟩
  · by_cases e : j = i
    · subst e; rw [upd_same]
    · rw [upd_ne _ _ _ _ e]; exact h.done j (by omega)
  · rw [upd_ne _ _ _ _ (by omega)]; exact h.rest j (by omega) h2
theorem SR.skip {a f D : Nat → Int} {i : Nat} (h : SR a f i D) (hi : i < 8) (hf : f i = 0) : SR a f (i + 1) D := by
  refine ⟨by omega, fun j hj => ?_, fun j h1 h2 => h.rest j (by omega) h2⟩
  by_cases e : j = i
  · subst e; rw [hf]; exact h.rest j (by omega) hi
  · exact h.done j (by omega)
/-- What a shift by k digits has at place j. -/
def shf (a : Nat → Int) (k : Int) (j : Nat) : Int := if 0 ≤ (j : Int) - k ∧ (j : Int) - k < 8 then a ((j : Int) - k).toNat else 0

theorem shf_m2 (a : Nat → Int) {j : Nat} (h : j < 6) : shf a (-2) j = a (j + 2) := by
  unfold shf
  rw [if_pos (by omega), show ((j : Int) - (-2)).toNat = j + 2 from by omega]
theorem shf_m2' (a : Nat → Int) {j : Nat} (h : 6 ≤ j) : shf a (-2) j = 0 := by unfold shf; rw [if_neg (by omega)]
theorem shf_p2 (a : Nat → Int) {j : Nat} (h : 2 ≤ j) (g : j < 8) : shf a 2 j = a (j - 2) := by
  unfold shf
  rw [if_pos (by omega), show ((j : Int) - 2).toNat = j - 2 from by omega]
theorem shf_p2' (a : Nat → Int) {j : Nat} (h : j < 2) : shf a 2 j = 0 := by unfold shf; rw [if_neg (by omega)]
/-! ### Stop -/
def ustep (a : Nat → Int) : Nat → Int
  | 0 => 0
  | m + 1 => ustep a m * 65536 + a (3 - m)
theorem ustep4 (a : Nat → Int) : ustep a 4 = psum a 4 := by simp only [ustep, psum, pw, Nat.reduceSub, Nat.sub_zero, Nat.sub_self]; omega
theorem ustep_bound {a : Nat → Int} (h : Digits a) : ∀ m, m ≤ 4 → 0 ≤ ustep a m ∧ ustep a m < pw m := by
  intro m
  induction m with
  | zero => intro _; exact ⟨by simp [ustep], by simp [ustep, pw]⟩
  | succ m ih =>
    intro hm
    have i := ih (by omega)
    have d := h (3 - m) (by omega)
    simp only [ustep, pw]
    omega
theorem pw_le3 : ∀ m, m ≤ 3 → pw m ≤ 281474976710656 := by
  intro m hm
  have : m = 0 ∨ m = 1 ∨ m = 2 ∨ m = 3 := by omega
  rcases this with rfl | rfl | rfl | rfl <;> decide
/-- Is it too great for a number of 63 bits? -/
theorem great_iff {a : Nat → Int} {V : Int} (h : Rep a V) : (a 4 + a 5 + a 6 + a 7 > 0 ∨ a 3 ≥ 32768) ↔ V > 9223372036854775807 := by
  have hd := h.dig
  have hv := h.val
  have d0 := hd 0 (by omega); have d1 := hd 1 (by omega); have d2 := hd 2 (by omega); have d3 := hd 3 (by omega)
  have d4 := hd 4 (by omega); have d5 := hd 5 (by omega); have d6 := hd 6 (by omega); have d7 := hd 7 (by omega)
  simp only [psum, pw] at hv
  omega

/-! ### Compare -/
theorem cmp_lt {a b : Nat → Int} (ha : Digits a) (hb : Digits b) {j : Nat} (hj : j < 8) (hlt : a j < b j) (heq : ∀ i, j < i → i < 8 → a i = b i) : psum a 8 < psum b 8 := by
  have key : ∀ n, j < n → n ≤ 8 → psum a n < psum b n := by
    intro n
    induction n with
    | zero => intro h; omega
    | succ n ih =>
      intro h1 h2
      have p := pw_pos n
      by_cases e : j = n
      · subst e
        have x := psum_bound ha j (by omega)
        have y := psum_bound hb j (by omega)
        simp only [psum]
        have : (a j + 1) * pw j ≤ b j * pw j := Int.mul_le_mul_of_nonneg_right (by omega) (by omega)
        rw [Int.add_mul] at this
        omega
      · have := ih (by omega) (by omega)
        simp only [psum]
        rw [heq n (by omega) (by omega)]
        omega
  exact key 8 (by omega) (by omega)
def cmpI (a b : Int) : Int := if a < b then -1 else if b < a then 1 else 0
/-- The digits from j on are alike. -/
def Alike8 (a b : Nat → Int) (j : Nat) : Prop := ∀ i, j ≤ i → i < 8 → a i = b i
theorem Alike8.eq {a b : Nat → Int} (h : Alike8 a b 0) : psum a 8 = psum b 8 := psum_congr fun j hj => h j (by omega) hj

theorem Alike8.step {a b : Nat → Int} {j : Nat} (h : Alike8 a b (j + 1)) (e : a j = b j) : Alike8 a b j := by
  intro i h1 h2
  by_cases c : i = j
  · subst c; exact e
  · exact h i (by omega) h2
/-! ### plus -/
structure PR (a b : Nat → Int) (k : Nat) (o : Int) (D : Nat → Int) : Prop where
  k8 : k ≤ 8
  o0 : 0 ≤ o
  o1 : o ≤ 1
  dig : Digits D
  zero : ∀ j, k ≤ j → j < 8 → D j = 0
  eq : psum D k + o * pw k = psum a k + psum b k
theorem PR.start (a b : Nat → Int) : PR a b 0 0 (fun _ => 0) := ⟨by omega, by omega, by omega, fun _ _ => ⟨by omega, by omega⟩, fun _ _ _ => rfl, by simp [psum]⟩
theorem PR.step {a b D : Nat → Int} {k : Nat} {o s : Int} (h : PR a b k o D) (ha : Digits a) (hb : Digits b) (hk : k < 8) (hs : s = a k + b k + o) : PR a b (k + 1) (s / 65536) (upd D k (s % 65536)) := by
  have da := ha k hk; have db := hb k hk
  have o0 := h.o0; have o1 := h.o1
  refine ⟨by omega, by omega, by omega, ?_, ?_, ?_⟩
  · intro j hj
    by_cases e : j = k
    · subst e; rw [upd_same]; omega
    · rw [upd_ne _ _ _ _ e]; exact h.dig j hj
  · intro j h1 h2
    rw [upd_ne _ _ _ _ (by omega)]; exact h.zero j (by omega) h2
  · simp only [psum, pw]
    rw [psum_upd, if_neg (by omega), upd_same]
    have e := h.eq
    have : s % 65536 * pw k + s / 65536 * (65536 * pw k) = s * pw k := by rw [← Int.mul_assoc, ← Int.add_mul]; congr 1; omega
    rw [hs, Int.add_mul, Int.add_mul, ← hs] at this
    omega
theorem PR.done {a b D : Nat → Int} {o A B : Int} (h : PR a b 8 o D) (ha : Rep a A) (hb : Rep b B) (hAB : A + B < 340282366920938463463374607431768211456) : Rep D (A + B) := by
  refine ⟨h.dig, ?_⟩
  have e := h.eq
  rw [ha.val, hb.val, pw8] at e
  have b8 := psum_bound h.dig 8 (by omega)
  have := h.o0
  have : o = 0 := by omega
  rw [this] at e; omega

/-! ### The digits by their number -/
def cdig (V : Int) (j : Nat) : Int := V / pw j % 65536
theorem Rep.digit {D : Nat → Int} {V : Int} (h : Rep D V) : ∀ j, j < 8 → D j = cdig V j := by
  have hd := h.dig
  have hv := h.val
  have d0 := hd 0 (by omega); have d1 := hd 1 (by omega); have d2 := hd 2 (by omega); have d3 := hd 3 (by omega)
  have d4 := hd 4 (by omega); have d5 := hd 5 (by omega); have d6 := hd 6 (by omega); have d7 := hd 7 (by omega)
  simp only [psum, pw] at hv
  intro j hj
  have : j = 0 ∨ j = 1 ∨ j = 2 ∨ j = 3 ∨ j = 4 ∨ j = 5 ∨ j = 6 ∨ j = 7 := by omega
  unfold cdig
  rcases this with rfl | rfl | rfl | rfl | rfl | rfl | rfl | rfl <;> simp only [pw] <;> omega
theorem Rep.cells {D : Nat → Int} {V : Int} (h : Rep D V) (m : Bool) : bigA m D = bigA m (cdig V) := bigA_congr h.digit
theorem Rep.canon {D : Nat → Int} {V : Int} (h : Rep D V) : Rep (cdig V) V := by
  refine ⟨fun j hj => by rw [← h.digit j hj]; exact h.dig j hj, ?_⟩
  exact (psum_congr (fun j hj => (h.digit j hj).symm)).trans h.val
theorem rep_cdig {V : Int} (h0 : 0 ≤ V) (h1 : V < 340282366920938463463374607431768211456) : Rep (cdig V) V := by
  refine ⟨fun j hj => by unfold cdig; omega, ?_⟩
  simp only [psum, cdig, pw]
  omega
end Go.Proofs.Ytjknihjdhccanaa
