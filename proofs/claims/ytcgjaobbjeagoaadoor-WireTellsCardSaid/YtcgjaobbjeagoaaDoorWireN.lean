/- The document's reading of a number: the plain laws. -/
import Derived.Test.YtcgjaobbjeagoaaDoorWireK
namespace Go.Proofs.YtcgjaobbjeagoaaDoor
open Go.RowKit Go.Proofs.YtcgjaobbjeagoaaDoorW.PrintWords Go.Proofs.YtcgjaobbjeagoaaDoorW.PrintLast Go.Proofs.YtcgjaobbjeagoaaDoorW.PrintMore
set_option linter.unusedVariables false
set_option linter.unusedSimpArgs false

/-- Bytes as a number, the first one lowest. -/
def val : List Int → Int
  | [] => 0
  | c :: cs => c % 128 + 128 * val cs
theorem val_nonneg : ∀ l, 0 ≤ val l
  | [] => Int.le_refl 0
  | c :: cs => by have := val_nonneg cs; rw [val]; omega
theorem val_snoc (c : Int) : ∀ a : List Int, val (a ++ [c]) = val a + c % 128 * (128 ^ a.length : Nat)
  | [] => by simp [val]
  | x :: xs => by
    rw [List.cons_append, val, val_snoc c xs, val, List.length_cons, Nat.pow_succ, Int.natCast_mul, Int.mul_add, Int.add_assoc]
    congr 1
    congr 1
    rw [← Int.mul_assoc, ← Int.mul_assoc, Int.mul_comm 128 (c % 128), Int.mul_assoc, Int.mul_assoc, Int.mul_comm (128 : Int)]
    rfl
theorem rd_get {l : List Int} {i : Nat} (h : i < l.length) : rd l (i : Int) = l[i] := by
  simp [rd, List.getD_eq_getElem?_getD, List.getElem?_eq_getElem h]
theorem val_take (R : List Int) (n : Nat) (h : n < R.length) : val (R.take (n + 1)) = val (R.take n) + rd R (n : Int) % 128 * (128 ^ n : Nat) := by
  rw [List.take_succ_eq_append_getElem h, val_snoc, rd_get h, List.length_take, Nat.min_eq_left (by omega)]
theorem val_drop (L : List Int) (i : Nat) (h : i < L.length) : val (L.drop i) = rd L (i : Int) % 128 + 128 * val (L.drop (i + 1)) := by
  rw [List.drop_eq_getElem_cons h, val, rd_get h]
theorem val_drop_le (L : List Int) : ∀ i, val (L.drop i) ≤ val L
  | 0 => by simp
  | i + 1 => by
    have h1 := val_drop_le L i
    by_cases h : i < L.length
    · have h2 := val_drop L i h
      have h3 := val_nonneg (L.drop (i + 1))
      omega
    · rw [List.drop_eq_nil_of_le (by omega)]
      exact val_nonneg L

theorem rdw_run (most : Int) (R : List Int) (hb : ∀ x ∈ R, 0 ≤ x ∧ x < 256) : ∀ n : Nat, (n : Int) ≤ most → n ≤ R.length → n ≤ 9 → (∀ j : Nat, j < n → 128 ≤ rd R (j : Int)) →
    rdw most R 0 0 = rdw most (R.drop n) n (val (R.take n))
  | 0, _, _, _, _ => by simp [val]
  | n + 1, hm, hl, h9, hc => by
    have ih := rdw_run most R hb n (by omega) (by omega) (by omega) (fun j hj => hc j (by omega))
    have hcn := hc n (by omega)
    have hcb := rd_mem hb (i := (n : Int)) (by omega) (by omega)
    have hat := rdw_at most R (n : Int) (val (R.take n)) (by omega) (by omega)
    rw [Int.toNat_natCast, if_neg (by omega), if_neg (by omega)] at hat
    rw [ih, hat, val_take R n (by omega), show ((n : Int) + 1).toNat = n + 1 by omega, show rd R (n : Int) - 128 = rd R (n : Int) % 128 by omega]
    rfl
/-- So many bytes of 128 and more: none of at most so many. -/
theorem rdw_long (most : Int) (hm : most = 9 ∨ most = 10) (R : List Int) (hb : ∀ x ∈ R, 0 ≤ x ∧ x < 256) (n : Nat) (hn : (n : Int) = most) (hl : n ≤ R.length) (hc : ∀ j : Nat, j < n → 128 ≤ rd R (j : Int)) :
    rdw most R 0 0 = (0, 0, 20) := by
  rcases hm with rfl | rfl
  · have h9 : n = 9 := by omega
    subst h9
    rw [rdw_run 9 R hb 9 (by omega) hl (by omega) hc]
    cases hd : R.drop 9 with
    | nil => rw [rdw, if_pos (by decide)]
    | cons c cs => rw [rdw, if_pos (.inl rfl)]
  · have h10 : n = 10 := by omega
    subst h10
    have hat := rdw_at 10 R 9 (val (R.take 9)) (by omega) (by omega)
    have := hc 9 (by omega)
    rw [rdw_run 10 R hb 9 (by omega) (by omega) (by omega) (fun j hj => hc j (by omega))]
    rw [show ((9 : Nat) : Int) = 9 from rfl] at this ⊢
    rw [show (9 : Int).toNat = 9 from rfl] at hat
    rw [hat, if_pos (.inr ⟨rfl, by omega⟩)]
theorem rdw_end (most : Int) (R : List Int) (hb : ∀ x ∈ R, 0 ≤ x ∧ x < 256) (hm : most ≤ 10) (hn : (R.length : Int) < most) (hc : ∀ j : Nat, j < R.length → 128 ≤ rd R (j : Int)) :
    rdw most R 0 0 = (0, 0, 3) := by
  rw [rdw_run most R hb R.length (by omega) (Nat.le_refl _) (by omega) hc, List.drop_length, rdw, if_neg (by omega)]
theorem rdw_num (most : Int) (R : List Int) (hb : ∀ x ∈ R, 0 ≤ x ∧ x < 256) (hm : most ≤ 10) (n : Nat) (hn : (n : Int) < most) (hl : n < R.length) (hc : ∀ j : Nat, j < n → 128 ≤ rd R (j : Int)) (hlow : rd R (n : Int) < 128) :
    rdw most R 0 0 = if (rd R (n : Int) = 0 ∧ 0 < (n : Int)) ∨ ((n : Int) = 9 ∧ 1 < rd R (n : Int)) then (0, 0, 20) else (val (R.take (n + 1)), (n : Int) + 1, 0) := by
  have hcb := rd_mem hb (i := (n : Int)) (by omega) (by omega)
  have hat := rdw_at most R (n : Int) (val (R.take n)) (by omega) (by omega)
  rw [Int.toNat_natCast] at hat
  rw [rdw_run most R hb n (by omega) (by omega) (by omega) hc, hat]
  by_cases h1 : (n : Int) = 9 ∧ 1 < rd R (n : Int)
  · rw [if_pos (.inr h1), if_pos (.inr h1)]
  · rw [if_neg (by omega), if_pos hlow]
    by_cases h2 : rd R (n : Int) = 0 ∧ 0 < (n : Int)
    · rw [if_pos h2, if_pos (.inl h2)]
    · rw [if_neg h2, if_neg (by omega), val_take R n hl, show rd R (n : Int) % 128 = rd R (n : Int) by omega]
end Go.Proofs.YtcgjaobbjeagoaaDoor
