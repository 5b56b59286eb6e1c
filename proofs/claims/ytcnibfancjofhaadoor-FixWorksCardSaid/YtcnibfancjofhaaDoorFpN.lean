/- The document's reading of a number: the plain laws. -/
import Derived.Test.YtcnibfancjofhaaDoorFpC

namespace Go.Proofs.YtcnibfancjofhaaDoor
open Go.RowKit Go.Proofs.YtcnibfancjofhaaDoorW.PrintWords Go.Proofs.YtcnibfancjofhaaDoorW.PrintLast Go.Proofs.YtcnibfancjofhaaDoorW.PrintMore
set_option linter.unusedVariables false
set_option linter.unusedSimpArgs false

/-- Bytes as a number, the first one lowest. -/
def val : List Int → Int
  | [] => 0
  | c :: cs => c % 128 + 128 * val cs
theorem val_nonneg : ∀ l, 0 ≤ val l
  | [] => Int.le_refl 0
  | c :: cs => by have := val_nonneg cs; rw [val]; omega
theorem val_snoc (c : Int) : ∀ a : List Int, val (a ++ [c]) = val a + c % 128 * (128 ^ a.length : Nat)
  | [] => by simp [val]
  | x :: xs => by
    rw [List.cons_append, val, val_snoc c xs, val, List.length_cons, Nat.pow_succ, Int.natCast_mul, Int.mul_add, Int.add_assoc]
    congr 1
    congr 1
    rw [← Int.mul_assoc, ← Int.mul_assoc, Int.mul_comm 128 (c % 128), Int.mul_assoc, Int.mul_assoc, Int.mul_comm (128 : Int)]
    rfl
theorem rd_get {l : List Int} {i : Nat} (h : i < l.length) : rd l (i : Int) = l[i] := by
  simp [rd, List.getD_eq_getElem?_getD, List.getElem?_eq_getElem h]
theorem val_take (R : List Int) (n : Nat) (h : n < R.length) : val (R.take (n + 1)) = val (R.take n) + rd R (n : Int) % 128 * (128 ^ n : Nat) := by
  rw [List.take_succ_eq_append_getElem h, val_snoc, rd_get h, List.length_take, Nat.min_eq_left (by omega)]
theorem val_drop (L : List Int) (i : Nat) (h : i < L.length) : val (L.drop i) = rd L (i : Int) % 128 + 128 * val (L.drop (i + 1)) := by
  rw [List.drop_eq_getElem_cons h, val, rd_get h]
theorem val_drop_le (L : List Int) : ∀ i, val (L.drop i) ≤ val L
  | 0 => by simp
  | i + 1 => by
    have h1 := val_drop_le L i
    by_cases h : i < L.length
    · have h2 := val_drop L i h
      have h3 := val_nonneg (L.drop (i + 1))
      omega
    · rw [List.drop_eq_nil_of_le (by omega)]
      exact val_nonneg L

end Go.Proofs.YtcnibfancjofhaaDoor
