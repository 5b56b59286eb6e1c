/- Fixed numbers in plain Lean: what is reckoned, and its laws. -/
import Derived.Test.YtklkikndcieojaaDoorKit
namespace Go.Proofs.YtklkikndcieojaaDoor
open Go.RowKit
set_option linter.unusedVariables false
set_option linter.unusedSimpArgs false

def MX : Int := 9223372036854775807
def MN : Int := -9223372036854775808
def ONE : Int := 4294967296
/-- A number that fits. -/
def In64 (a : Int) : Prop := -9223372036854775808 ≤ a ∧ a ≤ 9223372036854775807
def sat (z : Int) : Int := if 9223372036854775807 < z then 9223372036854775807 else if z < -9223372036854775808 then -9223372036854775808 else z
/-- A size and a sign, stopped. -/
def satS (n : Int) (m : Bool) : Int := if 9223372036854775807 < n then (if m then -9223372036854775808 else 9223372036854775807) else if m then -n else n
def ab (a : Int) : Int := if a < 0 then -a else a
def ng (a b : Int) : Bool := (decide (a < 0)) != (decide (b < 0))
def addF (a b : Int) : Int := sat (a + b)
def subF (a b : Int) : Int := sat (a - b)
def mulF (a b : Int) : Int := satS (ab a * ab b / 4294967296) (ng a b)
def divF (a b : Int) : Int := satS (ab a * 4294967296 / ab b) (ng a b)
def fromF (a : Int) : Int := satS (ab a * 4294967296) (decide (a < 0))
def toF (a : Int) : Int := satS (ab a / 4294967296) (decide (a < 0))
/-- The root. -/
def Root (a n : Int) : Prop := 0 ≤ n ∧ n * n ≤ a * 4294967296 ∧ a * 4294967296 < (n + 1) * (n + 1)

theorem ab_nonneg (a : Int) : 0 ≤ ab a := by unfold ab; split <;> omega
theorem ab_le {a : Int} (h : In64 a) : ab a ≤ 9223372036854775808 := by unfold ab In64 at *; split <;> omega
theorem sat_in (z : Int) : In64 (sat z) := by unfold sat In64; split <;> (try split) <;> omega
theorem satS_in {n : Int} (m : Bool) (h : 0 ≤ n) : In64 (satS n m) := by
  unfold satS In64
  cases m <;> simp only [Bool.false_eq_true, if_true, if_false] <;> split <;> omega
theorem sat_mono {x y : Int} (h : x ≤ y) : sat x ≤ sat y := by unfold sat; (repeat' split) <;> omega
theorem satS_true_nonpos {n : Int} (h : 0 ≤ n) : satS n true ≤ 0 := by unfold satS; simp only [if_true]; split <;> omega
theorem satS_false_nonneg {n : Int} (h : 0 ≤ n) : 0 ≤ satS n false := by unfold satS; simp only [Bool.false_eq_true, if_false]; split <;> omega
theorem satS_false_mono {n m : Int} (h : n ≤ m) : satS n false ≤ satS m false := by
  unfold satS; simp only [Bool.false_eq_true, if_false]; split <;> split <;> omega
theorem satS_true_mono {n m : Int} (h : n ≤ m) : satS m true ≤ satS n true := by
  unfold satS; simp only [if_true]; split <;> split <;> omega
theorem ab_neg {a : Int} (h : a < 0) : ab a = -a := by unfold ab; rw [if_pos h]
theorem ab_pos {a : Int} (h : 0 ≤ a) : ab a = a := by unfold ab; rw [if_neg (by omega)]
theorem ng_comm (a b : Int) : ng a b = ng b a := by unfold ng; cases decide (a < 0) <;> cases decide (b < 0) <;> rfl
theorem mulF_comm (a b : Int) : mulF a b = mulF b a := by unfold mulF; rw [ng_comm, Int.mul_comm]
theorem div_mono {x y : Int} (h : x ≤ y) : x / 4294967296 ≤ y / 4294967296 := by omega
theorem div_nonneg' {x : Int} (h : 0 ≤ x) : 0 ≤ x / 4294967296 := by omega
theorem ab_mul_nonneg (a b : Int) : 0 ≤ ab a * ab b / 4294967296 := div_nonneg' (Int.mul_nonneg (ab_nonneg a) (ab_nonneg b))
/-- Products keep the order. -/
theorem mulF_mono {a b c : Int} (h : a ≤ b) (hc : 0 ≤ c) : mulF a c ≤ mulF b c := by
  have hcn : decide (c < 0) = false := decide_eq_false (by omega)
  have n1 := ab_mul_nonneg a c
  have n2 := ab_mul_nonneg b c
  unfold mulF ng
  rw [hcn]
  by_cases ha : a < 0
  · by_cases hb : b < 0
    · rw [decide_eq_true ha, decide_eq_true hb]
      refine satS_true_mono (div_mono (Int.mul_le_mul_of_nonneg_right ?_ (ab_nonneg c)))
      rw [ab_neg ha, ab_neg hb]; omega
    · rw [decide_eq_true ha, decide_eq_false hb]
      exact Int.le_trans (satS_true_nonpos n1) (satS_false_nonneg n2)
  · rw [decide_eq_false ha, decide_eq_false (show ¬ b < 0 by omega)]
    refine satS_false_mono (div_mono (Int.mul_le_mul_of_nonneg_right ?_ (ab_nonneg c)))
    rw [ab_pos (by omega), ab_pos (by omega)]; exact h
theorem mulF_anti {a b c : Int} (h : a ≤ b) (hc : c < 0) : mulF b c ≤ mulF a c := by
  have hcn : decide (c < 0) = true := decide_eq_true hc
  have n1 := ab_mul_nonneg a c
  have n2 := ab_mul_nonneg b c
  unfold mulF ng
  rw [hcn]
  by_cases ha : a < 0
  · by_cases hb : b < 0
    · rw [decide_eq_true ha, decide_eq_true hb]
      refine satS_false_mono (div_mono (Int.mul_le_mul_of_nonneg_right ?_ (ab_nonneg c)))
      rw [ab_neg ha, ab_neg hb]; omega
    · rw [decide_eq_true ha, decide_eq_false hb]
      exact Int.le_trans (satS_true_nonpos n2) (satS_false_nonneg n1)
  · rw [decide_eq_false ha, decide_eq_false (show ¬ b < 0 by omega)]
    refine satS_true_mono (div_mono (Int.mul_le_mul_of_nonneg_right ?_ (ab_nonneg c)))
    rw [ab_pos (by omega), ab_pos (by omega)]; exact h
theorem satS_ab {a : Int} (h : In64 a) : satS (ab a) (decide (a < 0)) = a := by
  unfold In64 at h
  by_cases ha : a < 0
  · rw [decide_eq_true ha, ab_neg ha]; unfold satS; simp only [if_true]; split <;> omega
  · rw [decide_eq_false ha, ab_pos (by omega)]; unfold satS; simp only [Bool.false_eq_true, if_false]; split <;> omega
theorem mulF_one {a : Int} (h : In64 a) : mulF a 4294967296 = a := by
  unfold mulF ng
  rw [show ab 4294967296 = 4294967296 from rfl, Int.mul_ediv_cancel _ (by decide), show decide ((4294967296 : Int) < 0) = false by decide, Bool.bne_false]
  exact satS_ab h
theorem mulF_zero (a : Int) : mulF a 0 = 0 := by
  unfold mulF
  rw [show ab 0 = 0 from rfl, Int.mul_zero]
  unfold satS
  cases ng a 0 <;> rfl
theorem divF_one {a : Int} (h : In64 a) : divF a 4294967296 = a := by
  unfold divF ng
  rw [show ab 4294967296 = 4294967296 from rfl, Int.mul_ediv_cancel _ (by decide), show decide ((4294967296 : Int) < 0) = false by decide, Bool.bne_false]
  exact satS_ab h
theorem addF_zero {a : Int} (h : In64 a) : addF a 0 = a := by unfold addF sat In64 at *; split <;> (try split) <;> omega
theorem subF_zero {a : Int} (h : In64 a) : subF a 0 = a := by unfold subF sat In64 at *; split <;> (try split) <;> omega
theorem add_back {a b : Int} (ha : In64 a) (hb : In64 b) : addF a b = 9223372036854775807 ∨ addF a b = -9223372036854775808 ∨ subF (addF a b) b = a := by
  unfold addF subF sat In64 at *
  by_cases h1 : 9223372036854775807 < a + b
  · exact .inl (by rw [if_pos h1])
  · rw [if_neg h1]
    by_cases h2 : a + b < -9223372036854775808
    · exact .inr (.inl (by rw [if_pos h2]))
    · rw [if_neg h2]
      refine .inr (.inr ?_)
      split <;> (try split) <;> omega
/-- Signs. -/
theorem satS_turn {n : Int} (m : Bool) (h : 0 ≤ n) (h1 : satS n m ≠ 9223372036854775807) (h2 : satS n m ≠ -9223372036854775808) : satS n (!m) = -satS n m := by
  unfold satS at *
  cases m <;> simp only [Bool.false_eq_true, if_true, if_false, Bool.not_true, Bool.not_false] at * <;> split <;> (try rename_i hh) <;> (try (rw [if_pos hh] at h1 h2)) <;> (try (rw [if_neg hh] at h1 h2)) <;> first | omega | simp_all
theorem ab_minus (a : Int) : ab (-a) = ab a := by unfold ab; split <;> split <;> omega
theorem ng_minus {a b : Int} (ha : a ≠ 0) : ng (-a) b = !ng a b := by
  unfold ng
  by_cases h : a < 0
  · rw [decide_eq_true h, decide_eq_false (show ¬ -a < 0 by omega)]; cases decide (b < 0) <;> rfl
  · rw [decide_eq_false h, decide_eq_true (show -a < 0 by omega)]; cases decide (b < 0) <;> rfl
theorem mulF_turn {a b : Int} (h1 : mulF a b ≠ 9223372036854775807) (h2 : mulF a b ≠ -9223372036854775808) : mulF (-a) b = -mulF a b := by
  by_cases ha : a = 0
  · subst ha
    have h0 : mulF 0 b = 0 := by rw [mulF_comm, mulF_zero]
    rw [show (-0 : Int) = 0 from rfl, h0]; rfl
  · have h := satS_turn (ng a b) (ab_mul_nonneg a b) h1 h2
    unfold mulF
    rw [ab_minus, ng_minus ha]
    exact h
theorem satS_zero (m : Bool) : satS 0 m = 0 := by unfold satS; cases m <;> rfl
theorem divF_nonneg (a b : Int) : 0 ≤ ab a * 4294967296 / ab b := Int.ediv_nonneg (Int.mul_nonneg (ab_nonneg a) (by decide)) (ab_nonneg b)
theorem divF_turn {a b : Int} (h1 : divF a b ≠ 9223372036854775807) (h2 : divF a b ≠ -9223372036854775808) : divF (-a) b = -divF a b := by
  by_cases ha : a = 0
  · subst ha
    unfold divF
    rw [show (-0 : Int) = 0 from rfl, show ab 0 = 0 from rfl, Int.zero_mul, Int.zero_ediv, satS_zero]; rfl
  · have h := satS_turn (ng a b) (divF_nonneg a b) h1 h2
    unfold divF
    rw [ab_minus, ng_minus ha]
    exact h
theorem divF_turn2 {a b : Int} (hb : b ≠ 0) (h1 : divF a b ≠ 9223372036854775807) (h2 : divF a b ≠ -9223372036854775808) : divF a (-b) = -divF a b := by
  by_cases ha : a = 0
  · subst ha
    unfold divF
    rw [show ab 0 = 0 from rfl, Int.zero_mul, Int.zero_ediv, Int.zero_ediv, satS_zero, satS_zero]; rfl
  · have h := satS_turn (ng a b) (divF_nonneg a b) h1 h2
    unfold divF
    rw [ab_minus, ng_comm, ng_minus hb, ng_comm]
    exact h
theorem sub_add {a b : Int} : subF a b = addF a (-b) := by unfold subF addF; rw [Int.sub_eq_add_neg]
/-- Roots. -/
theorem root_low {a n : Int} (ha : 0 ≤ a ∧ a ≤ 9223372036854775807) (h : Root a n) : mulF n n ≤ a := by
  obtain ⟨h0, h1, h2⟩ := h
  unfold mulF ng
  rw [ab_pos h0, show (decide (n < 0) != decide (n < 0)) = false by simp]
  generalize n * n = q at h1
  unfold satS
  simp only [Bool.false_eq_true, if_false]
  split <;> omega
theorem root_high {a n : Int} (ha : 0 ≤ a ∧ a ≤ 9223372036854775807) (h : Root a n) : a ≤ mulF (n + 1) (n + 1) := by
  obtain ⟨h0, h1, h2⟩ := h
  unfold mulF ng
  rw [ab_pos (by omega), show (decide (n + 1 < 0) != decide (n + 1 < 0)) = false by simp]
  generalize (n + 1) * (n + 1) = q at h2
  unfold satS
  simp only [Bool.false_eq_true, if_false]
  split <;> omega
theorem root_lt {a n : Int} (ha : a ≤ 9223372036854775807) (h : Root a n) : n < 281474976710656 := by
  obtain ⟨h0, h1, h2⟩ := h
  refine Int.lt_of_not_ge (fun hn => ?_)
  have : 281474976710656 * 281474976710656 ≤ n * n := Int.mul_le_mul hn hn (by decide) h0
  omega
/-- Quotients. -/
theorem quo_facts {a b : Int} (ha : 0 ≤ a ∧ a ≤ 9223372036854775807) (hb : 4294967296 ≤ b) (hq : divF a b ≠ 9223372036854775807) :
    0 ≤ divF a b ∧ divF a b ≤ a ∧ mulF (divF a b) b ≤ a ∧ a ≤ mulF (divF a b + 1) b := by
  have hN : divF a b = a * 4294967296 / b := by
    unfold divF ng at *
    rw [ab_pos ha.1, ab_pos (show 0 ≤ b by omega), decide_eq_false (show ¬ a < 0 by omega), decide_eq_false (show ¬ b < 0 by omega)] at *
    rw [show (false != false) = false from rfl] at *
    unfold satS at *
    simp only [Bool.false_eq_true, if_false] at *
    split
    · rename_i h; rw [if_pos h] at hq; exact absurd rfl hq
    · rfl
  have hq0 : 0 ≤ a * 4294967296 / b := Int.ediv_nonneg (by omega) (by omega)
  have hmul : b * (a * 4294967296 / b) ≤ a * 4294967296 := Int.mul_ediv_self_le (by omega)
  have hlt : a * 4294967296 < b * (a * 4294967296 / b) + b := Int.lt_mul_ediv_self_add (by omega)
  rw [hN]
  generalize a * 4294967296 / b = q at *
  have hle : q ≤ a := by
    have h1 : 4294967296 * q ≤ b * q := Int.mul_le_mul_of_nonneg_right hb hq0
    omega
  refine ⟨hq0, hle, ?_, ?_⟩
  · unfold mulF ng
    rw [ab_pos hq0, ab_pos (show 0 ≤ b by omega), decide_eq_false (show ¬ q < 0 by omega), decide_eq_false (show ¬ b < 0 by omega), Int.mul_comm q b]
    rw [show (false != false) = false from rfl]
    generalize b * q = z at *
    unfold satS
    simp only [Bool.false_eq_true, if_false]
    split <;> omega
  · unfold mulF ng
    rw [ab_pos (show 0 ≤ q + 1 by omega), ab_pos (show 0 ≤ b by omega), decide_eq_false (show ¬ q + 1 < 0 by omega), decide_eq_false (show ¬ b < 0 by omega)]
    rw [show (false != false) = false from rfl]
    have e : (q + 1) * b = b * q + b := by rw [Int.add_mul, Int.one_mul, Int.mul_comm]
    rw [e]
    generalize b * q = z at *
    unfold satS
    simp only [Bool.false_eq_true, if_false]
    split <;> omega
/-- Whole numbers. -/
theorem whole_back {n : Int} (h : -2147483648 ≤ n ∧ n ≤ 2147483647) : toF (fromF n) = n := by
  unfold fromF
  by_cases hn : n < 0
  · rw [decide_eq_true hn, ab_neg hn]
    have e : satS (-n * 4294967296) true = n * 4294967296 := by unfold satS; simp only [if_true]; split <;> omega
    rw [e]
    unfold toF
    rw [ab_neg (by omega), decide_eq_true (by omega)]
    unfold satS; simp only [if_true]; split <;> omega
  · rw [decide_eq_false hn, ab_pos (by omega)]
    have e : satS (n * 4294967296) false = n * 4294967296 := by unfold satS; simp only [Bool.false_eq_true, if_false]; split <;> omega
    rw [e]
    unfold toF
    rw [ab_pos (by omega), decide_eq_false (by omega)]
    unfold satS; simp only [Bool.false_eq_true, if_false]; split <;> omega
theorem whole_near {a : Int} (h : In64 a) : subF a (fromF (toF a)) < 4294967296 ∧ -4294967296 < subF a (fromF (toF a)) ∧ (0 ≤ subF a (fromF (toF a)) ∨ a < 0) ∧ (subF a (fromF (toF a)) ≤ 0 ∨ 0 < a) := by
  unfold In64 at h
  have key : (0 ≤ a → fromF (toF a) = a / 4294967296 * 4294967296) ∧ (a < 0 → fromF (toF a) = -(-a / 4294967296 * 4294967296)) := by
    constructor
    · intro ha
      have e : toF a = a / 4294967296 := by
        unfold toF
        rw [ab_pos ha, decide_eq_false (by omega)]
        unfold satS; simp only [Bool.false_eq_true, if_false]; split <;> omega
      rw [e]
      unfold fromF
      rw [ab_pos (by omega), decide_eq_false (by omega)]
      unfold satS; simp only [Bool.false_eq_true, if_false]; split <;> omega
    · intro ha
      have e : toF a = -(-a / 4294967296) := by
        unfold toF
        rw [ab_neg ha, decide_eq_true ha]
        unfold satS; simp only [if_true]; split <;> omega
      rw [e]
      unfold fromF
      by_cases h0 : -(-a / 4294967296) < 0
      · rw [ab_neg h0, decide_eq_true h0]
        unfold satS; simp only [if_true]; split <;> omega
      · rw [ab_pos (by omega), decide_eq_false h0]
        unfold satS; simp only [Bool.false_eq_true, if_false]; split <;> omega
  by_cases ha : 0 ≤ a
  · rw [key.1 ha]
    unfold subF sat
    split <;> (try split) <;> omega
  · rw [key.2 (by omega)]
    unfold subF sat
    split <;> (try split) <;> omega
end Go.Proofs.YtklkikndcieojaaDoor
