/- There and back: the plain laws. -/
import Derived.Test.YtcgjaobbjeagoaaDoorWireJ
import Derived.Test.YtcgjaobbjeagoaaDoorWireH
namespace Go.Proofs.YtcgjaobbjeagoaaDoor
open Go.RowKit Go.Proofs.YtcgjaobbjeagoaaDoorW.PrintWords Go.Proofs.YtcgjaobbjeagoaaDoorW.PrintLast Go.Proofs.YtcgjaobbjeagoaaDoorW.PrintMore
set_option linter.unusedVariables false
set_option linter.unusedSimpArgs false

theorem rdw_venc (most : Int) : ∀ (k z : Nat), z < k → ∀ (rest : List Int) (i : Nat) (acc : Int), (i : Int) + vl z ≤ most → most ≤ 10 → (i ≤ 9 → z * 128 ^ i < 18446744073709551616) → (0 < i → 0 < z) →
    rdw most (venc z ++ rest) i acc = (acc + (z : Int) * (128 ^ i : Nat), (i : Int) + (vl z : Int), (0 : Int))
  | 0, z, h, _, _, _, _, _, _, _ => by omega
  | k + 1, z, h, rest, i, acc, hm, hm2, hb, hp => by
    have hvp : 0 < vl z := venc_pos z
    have hi9 : i ≤ 9 := by omega
    have hb := hb hi9
    by_cases hz : z < 128
    · rw [vl_lt hz] at hm ⊢
      rw [venc_lt hz, List.singleton_append, rdw]
      have h9 : ¬ ((i : Int) = most ∨ ((i : Int) = 9 ∧ (1 : Int) < (z : Int))) := by
        rintro (h1 | ⟨h1, h2⟩)
        · omega
        · have : i = 9 := by omega
          subst this
          rw [show 128 ^ 9 = 9223372036854775808 by decide] at hb
          omega
      rw [if_neg h9, if_pos (by omega), if_neg (by omega), Int.toNat_natCast]
      rfl
    · rw [vl_ge hz] at hm ⊢
      rw [venc_ge hz, List.cons_append, rdw]
      have hvp2 : 0 < vl (z / 128) := venc_pos _
      have hi8 : i ≤ 8 := by omega
      have h9 : ¬ ((i : Int) = most ∨ ((i : Int) = 9 ∧ (1 : Int) < ((z % 128 + 128 : Nat) : Int))) := by omega
      rw [if_neg h9, if_neg (by omega), Int.toNat_natCast]
      have ih := rdw_venc most k (z / 128) (by omega) rest (i + 1) (acc + (((z % 128 + 128 : Nat) : Int) - 128) * (128 ^ i : Nat)) (by omega) hm2 (by
        intro _
        rw [Nat.pow_succ]
        have h1 : z / 128 * (128 ^ i * 128) = z / 128 * 128 * 128 ^ i := by rw [Nat.mul_comm (128 ^ i), Nat.mul_assoc]
        have h2 : z / 128 * 128 * 128 ^ i ≤ z * 128 ^ i := Nat.mul_le_mul_right _ (by omega)
        omega) (by omega)
      rw [show ((i : Int) + 1) = ((i + 1 : Nat) : Int) by omega, ih]
      congr 1
      · rw [Nat.pow_succ]
        have h3 : (z : Int) = (z % 128 : Nat) + 128 * ((z / 128 : Nat) : Int) := by omega
        have h4 : (z : Int) * ((128 ^ i : Nat) : Int) = ((z % 128 : Nat) : Int) * ((128 ^ i : Nat) : Int) + 128 * ((z / 128 : Nat) : Int) * ((128 ^ i : Nat) : Int) := by
          conv => lhs; rw [h3]
          rw [Int.add_mul]
        rw [h4, show (((z % 128 + 128 : Nat) : Int) - 128) = ((z % 128 : Nat) : Int) by omega, Int.natCast_mul, Int.mul_comm ((128 ^ i : Nat) : Int), ← Int.mul_assoc, Int.mul_comm ((z / 128 : Nat) : Int), Int.add_assoc]
        rfl
      · rw [show ((i : Int) + ((1 + vl (z / 128) : Nat) : Int)) = ((i + 1 : Nat) : Int) + (vl (z / 128) : Int) by omega]

/-- What was written is read. -/
theorem tk_venc (a r : List Int) (z : Nat) (most : Int) (h10 : most ≤ 10) (hv : (vl z : Int) ≤ most) (hz : z < 18446744073709551616) :
    tk (a ++ venc z ++ r) a.length most = ((z : Int), (a.length : Int) + (vl z : Int), (0 : Int)) := by
  have hl : ((a ++ venc z ++ r).length : Int) = a.length + (venc z).length + r.length := by simp; omega
  have hd : (a ++ venc z ++ r).drop (a.length : Int).toNat = venc z ++ r := by
    rw [Int.toNat_natCast, List.append_assoc, List.drop_left]
  have h := rdw_venc most (z + 1) z (by omega) r 0 0 (by omega) h10 (by intro _; simpa using hz) (by omega)
  rw [show ((0 : Nat) : Int) = 0 from rfl] at h
  rw [tk, if_neg (by omega), hd, h]
  simp
theorem vl9 {z : Nat} (h : z < 9223372036854775808) : vl z ≤ 9 := venc_len 8 _ (by omega)
theorem vl10 {z : Nat} (h : z < 18446744073709551616) : vl z ≤ 10 := venc_len 9 _ (by omega)
theorem uz_zz (n : Int) : uz (zz n) = n := by
  unfold zz uz; split <;> split <;> omega
theorem zz_uz (z : Int) (h : 0 ≤ z) : zz (uz z) = z := by
  unfold zz uz; split <;> split <;> omega

/-- What is read was written just so. -/
theorem rdw_back (most : Int) : ∀ (l : List Int) (i : Nat) (acc : Int), (∀ x ∈ l, 0 ≤ x ∧ x < 256) → (rdw most l i acc).2.2 = 0 →
    ∃ z : Nat, (rdw most l i acc).1 = acc + z * (128 ^ i : Nat) ∧ (rdw most l i acc).2.1 = i + vl z ∧ l.take (vl z) = venc z ∧ (0 < i → 0 < z) ∧ vl z ≤ l.length
  | [], i, acc, _, h => by
    rw [rdw] at h; split at h <;> simp at h
  | c :: cs, i, acc, hb, h => by
    have hc := hb c List.mem_cons_self
    rw [rdw] at h ⊢
    by_cases e1 : (i : Int) = most ∨ ((i : Int) = 9 ∧ 1 < c)
    · rw [if_pos e1] at h; simp at h
    · rw [if_neg e1] at h ⊢
      by_cases e2 : c < 128
      · rw [if_pos e2] at h ⊢
        by_cases e3 : c = 0 ∧ 0 < (i : Int)
        · rw [if_pos e3] at h; simp at h
        · rw [if_neg e3]
          refine ⟨c.toNat, ?_, ?_, ?_, by omega, ?_⟩
          · rw [Int.toNat_natCast, Int.toNat_of_nonneg hc.1]
          · rw [vl_lt (by omega)]; rfl
          · rw [vl_lt (by omega), venc_lt (by omega)]; simp; omega
          · rw [vl_lt (by omega)]; simp
      · rw [if_neg e2] at h ⊢
        have hcast : ((i : Int) + 1) = ((i + 1 : Nat) : Int) := by omega
        rw [hcast] at h ⊢
        obtain ⟨z, h1, h2, h3, h4, h5⟩ := rdw_back most cs (i + 1) _ (fun x hx => hb x (List.mem_cons_of_mem _ hx)) h
        have hz0 := h4 (by omega)
        have hge : ¬ (128 * z + (c - 128).toNat) < 128 := by omega
        have hdiv : (128 * z + (c - 128).toNat) / 128 = z := by omega
        have hmod : (128 * z + (c - 128).toNat) % 128 = (c - 128).toNat := by omega
        refine ⟨128 * z + (c - 128).toNat, ?_, ?_, ?_, by omega, ?_⟩
        · rw [h1, Int.toNat_natCast, Nat.pow_succ]
          rw [show ((128 * z + (c - 128).toNat : Nat) : Int) = 128 * (z : Int) + (c - 128) by omega, Int.add_mul, Int.natCast_mul, Int.mul_comm ((128 ^ i : Nat) : Int), ← Int.mul_assoc, Int.mul_comm (z : Int)]
          rw [Int.add_assoc, Int.add_comm ((c - 128) * _)]
          rfl
        · rw [h2, vl_ge hge, hdiv]; omega
        · rw [vl_ge hge, hdiv, venc_ge hge, hdiv, hmod, Nat.add_comm 1, List.take_succ_cons, h3]
          congr 1
          omega
        · rw [vl_ge hge, hdiv, List.length_cons]; omega
theorem tk_back (l : List Int) (at_ most : Int) (hb : ∀ x ∈ l, 0 ≤ x ∧ x < 256) (h : (tk l at_ most).2.2 = 0) :
    0 ≤ at_ ∧ at_ ≤ (tk l at_ most).2.1 ∧ (tk l at_ most).2.1 ≤ l.length ∧ (l.take (tk l at_ most).2.1.toNat).drop at_.toNat = venc (tk l at_ most).1.toNat := by
  rw [tk] at h ⊢
  by_cases e1 : at_ < 0 ∨ (l.length : Int) < at_
  · rw [if_pos e1] at h; simp at h
  · rw [if_neg e1] at h ⊢
    by_cases e2 : (rdw most (l.drop at_.toNat) 0 0).2.2 = 0
    · rw [if_pos e2]
      obtain ⟨z, h1, h2, h3, _, h5⟩ := rdw_back most (l.drop at_.toNat) 0 0 (fun x hx => hb x (List.mem_of_mem_drop hx)) e2
      rw [show ((0 : Nat) : Int) = 0 from rfl] at h1 h2
      have hl : (l.drop at_.toNat).length = l.length - at_.toNat := List.length_drop
      have hz : (rdw most (l.drop at_.toNat) 0 0).1 = (z : Int) := by rw [h1]; simp
      rw [hz, h2]
      simp only []
      refine ⟨by omega, by omega, by omega, ?_⟩
      simp only [Int.toNat_natCast]
      rw [← h3, List.drop_take]
      congr 1
      omega
    · rw [if_neg e2] at h
      exact absurd h e2
theorem tk_fail (l : List Int) (at_ most : Int) (h : (tk l at_ most).2.2 ≠ 0) : (tk l at_ most).1 = 0 ∧ (tk l at_ most).2.1 = 0 := by
  rw [tk] at h ⊢
  by_cases e1 : at_ < 0 ∨ (l.length : Int) < at_
  · rw [if_pos e1]; exact ⟨rfl, rfl⟩
  · rw [if_neg e1] at h ⊢
    by_cases e2 : (rdw most (l.drop at_.toNat) 0 0).2.2 = 0
    · rw [if_pos e2] at h; exact absurd rfl h
    · rw [if_neg e2]; exact ⟨rfl, rfl⟩
/-- A text's bytes are the text. -/
theorem str_bytes (s : ByteArray) : strOfNums (bytesOf s) = s := by
  obtain ⟨⟨l⟩⟩ := s
  unfold strOfNums bytesOf
  simp only [List.map_map]
  have : (l.map ((fun n : Int => UInt8.ofNat n.toNat) ∘ fun b : UInt8 => (b.toNat : Int))) = l := by
    conv => rhs; rw [← List.map_id l]
    apply List.map_congr_left
    intro b _
    simp
  rw [this]
theorem rt_back (a r : List Int) (s : ByteArray) (h : ¬ (65536 : Int) < (s.size : Int)) :
    rtF (a ++ venc s.size ++ bytesOf s ++ r) a.length = (s, (a.length : Int) + (vl s.size : Int) + (s.size : Int), (0 : Int)) := by
  have ht : tk (a ++ venc s.size ++ bytesOf s ++ r) a.length 9 = ((s.size : Int), (a.length : Int) + (vl s.size : Int), (0 : Int)) := by
    rw [List.append_assoc (a ++ venc s.size)]
    exact tk_venc a _ s.size 9 (by decide) (by have := vl9 (z := s.size) (by omega); omega) (by omega)
  have hbl := bytesOf_length s
  have hvl : (venc s.size).length = vl s.size := rfl
  have hl : (a ++ venc s.size ++ bytesOf s ++ r).length = a.length + vl s.size + s.size + r.length := by simp [hbl, hvl]; omega
  have htk : ((a ++ venc s.size ++ bytesOf s ++ r).take (a.length + vl s.size + s.size)).drop (a.length + vl s.size) = bytesOf s := by
    have e1 : a.length + vl s.size + s.size = (a ++ venc s.size ++ bytesOf s).length := by simp [hbl, hvl]; omega
    have e2 : a.length + vl s.size = (a ++ venc s.size).length := by simp [hvl]
    rw [e1, List.take_left, e2, List.drop_left]
  rw [rtF, ht]
  simp only []
  rw [if_neg (by simp), if_neg h, if_neg (by omega)]
  rw [show ((a.length : Int) + (vl s.size : Int) + (s.size : Int)).toNat = a.length + vl s.size + s.size by omega, show ((a.length : Int) + (vl s.size : Int)).toNat = a.length + vl s.size by omega, htk, str_bytes]
end Go.Proofs.YtcgjaobbjeagoaaDoor
