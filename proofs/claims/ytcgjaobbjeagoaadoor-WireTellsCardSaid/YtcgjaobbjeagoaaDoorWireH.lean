/- WireShort. -/
import Derived.Test.YtcgjaobbjeagoaaDoorWireG
namespace Go.Proofs.YtcgjaobbjeagoaaDoor
open Go.RowKit Go.Proofs.YtcgjaobbjeagoaaDoorW.PrintWords Go.Proofs.YtcgjaobbjeagoaaDoorW.PrintLast Go.Proofs.YtcgjaobbjeagoaaDoorW.PrintMore
set_option linter.unusedVariables false
set_option linter.unusedSimpArgs false

def vl (z : Nat) : Nat := (venc z).length
theorem vl_lt {z : Nat} (h : z < 128) : vl z = 1 := by rw [vl, venc_lt h]; rfl
theorem vl_ge {z : Nat} (h : ¬ z < 128) : vl z = 1 + vl (z / 128) := by rw [vl, venc_ge h, List.length_cons, ← vl]; omega
theorem vl_two : ∀ (k z y : Nat), z < k → (y = 2 * z ∨ y = 2 * z + 1) → vl z ≤ vl y ∧ vl y ≤ vl z + 1
  | 0, z, y, h, _ => by omega
  | k + 1, z, y, h, hy => by
    by_cases hz : z < 128
    · rw [vl_lt hz]
      by_cases h2 : y < 128
      · rw [vl_lt h2]; omega
      · rw [vl_ge h2, vl_lt (by omega)]; omega
    · rw [vl_ge hz, vl_ge (z := y) (by omega)]
      have := vl_two k (z / 128) (y / 128) (by omega) (by omega)
      omega

/-- What is still to count. -/
def vrest (r : Int) : Int := if 0 < r then (vl r.toNat : Int) else 0
theorem vrest_step (r : Int) (h : 0 < r) : vrest r = 1 + vrest (r / 128) := by
  rw [vrest, if_pos h, vrest]
  by_cases h1 : r < 128
  · rw [vl_lt (by omega), if_neg (by omega)]; rfl
  · rw [vl_ge (by omega), if_pos (by omega), show (r / 128).toNat = r.toNat / 128 by omega]; omega
theorem vrest_start (n : Int) (h : 0 ≤ n) : (vl n.toNat : Int) = 1 + vrest (n / 128) := by
  by_cases h0 : n = 0
  · subst h0; rw [show (0 : Int).toNat = 0 by rfl, vl_lt (by decide), vrest, if_neg (by decide)]; rfl
  · have := vrest_step n (by omega)
    rw [vrest, if_pos (by omega)] at this
    exact this

set_option maxHeartbeats 4000000 in
set_option maxRecDepth 100000 in
theorem WireShort_calls (n : Int) (w : World) (hT : Tab w) (hn0 : -9223372036854775808 ≤ n) (hn1 : n ≤ 9223372036854775807) :
    Calls Tryd.prog 3 #[.int .i64 n] w fun e w' => e = .returned (.bool true) ∧ Below w.heap.size w w' := by
  have HT := Aside0.mk hT
  clear hT
  by_cases hn : n < 0
  · have dn : decide (n < 0) = true := decide_eq_true hn
    have hf : numF [] n = ([], 1) := if_pos hn
    have hc := fun w => Num_calls none 0 [] n w (Kd.C_nil _ _) (by simp) hn0 hn1
    rw [hf] at hc
    replace hc : ∀ w, Calls Tryd.prog 11 #[.slice none 0 0, .int .i64 n] w fun e w' => ∃ v, e = .returned (.tuple #[v, .int .i64 1]) ∧ Kd.R (Kd.int .u8) 5 w' w.heap.size (fun _ => True) v [] ∧ Below w.heap.size w w' := hc
    clear hn hf
    go_enter Tryd.func3, Tryd.ntmps3
    go_wp2_with fail
    ((with_reducible refine (awake_calls _ HT.out).mono ?_); rintro e_ W1 ⟨rfl, hb_⟩)
    have HB := Aside0.mk hb_; clear hb_
    go_wp2_with fail
    ((with_reducible refine (hc _).mono ?_); rintro e_ W2 ⟨v2, rfl, ho_, hb_⟩)
    have HBn := Aside0.mk (below_step HB.out hb_); clear HB hb_; have HB := HBn; clear HBn
    obtain ⟨A2, c2, e2, _, _⟩ := Kd.R_reads ho_
    replace e2 : v2 = .slice A2 0 c2 := e2
    subst e2
    clear ho_ hc
    go_wp2
    go_ret
    exact ⟨rfl, HB.out⟩
  · have hz : (zz n).toNat = 2 * n.toNat := by rw [zz, if_neg hn]; omega
    have hf : numF [] n = (venc n.toNat, 0) := if_neg hn
    have hc := fun w => Num_calls none 0 [] n w (Kd.C_nil _ _) (by simp) hn0 hn1
    have hd := fun w => Int_calls none 0 [] n w (Kd.C_nil _ _) (by simp) hn0 hn1
    rw [hf] at hc
    rw [hz] at hd
    have h2 := vl_two (n.toNat + 1) n.toNat (2 * n.toNat) (by omega) (.inl rfl)
    have hl := venc_len64 (z := 2 * n) (by omega)
    rw [show (2 * n).toNat = 2 * n.toNat by omega] at hl
    change vl (2 * n.toNat) ≤ 10 at hl
    obtain ⟨k1, hk1⟩ : ∃ k, k = vl n.toNat := ⟨_, rfl⟩
    obtain ⟨k2, hk2⟩ : ∃ k, k = vl (2 * n.toNat) := ⟨_, rfl⟩
    rw [← hk1, ← hk2] at h2
    rw [← hk2] at hl
    replace hc : ∀ w, Calls Tryd.prog 11 #[.slice none 0 0, .int .i64 n] w fun e w' => ∃ A c, e = .returned (.tuple #[.slice A k1 c, .int .i64 0]) ∧ Below w.heap.size w w' :=
      fun w => (hc w).mono (fun e w' ⟨v, h1, h2, h3⟩ => by
        obtain ⟨A, c, e2, _⟩ := Kd.R_reads h2
        subst e2
        rw [h1, hk1]
        exact ⟨A, c, rfl, h3⟩)
    replace hd : ∀ w, Calls Tryd.prog 12 #[.slice none 0 0, .int .i64 n] w fun e w' => ∃ A c, e = .returned (.slice A k2 c) ∧ Below w.heap.size w w' :=
      fun w => (hd w).mono (fun e w' ⟨v, h1, h2, h3⟩ => by
        obtain ⟨A, c, e2, _⟩ := Kd.R_reads h2
        subst e2
        rw [h1, hk2]
        exact ⟨A, c, rfl, h3⟩)
    have HS := Aside0.mk (vrest_start n (by omega))
    have hnn : 0 ≤ n := by omega
    rw [← hk1] at HS
    clear hn hf hz hk1 hk2
    go_enter Tryd.func3, Tryd.ntmps3
    go_wp2_with fail
    ((with_reducible refine (awake_calls _ HT.out).mono ?_); rintro e_ W1 ⟨rfl, hb_⟩)
    have HB := Aside0.mk hb_; clear hb_
    go_wp2_with fail
    ((with_reducible refine (hc _).mono ?_); rintro e_ W2 ⟨A2, c2, rfl, hb_⟩)
    have HBn := Aside0.mk (below_step HB.out hb_); clear HB hb_; have HB := HBn; clear HBn
    clear hc
    go_wp2
    go_loop [6, 7] (fun vk vr => ∃ (k r : Int), vk = .int .i64 k ∧ vr = .int .i64 r ∧ 0 ≤ r ∧ 1 ≤ k ∧ k + vrest r = k1) (fun _ vr => (intOf vr).toNat)
    case atStart => exact ⟨_, _, rfl, rfl, by omega, by omega, HS.out.symm⟩
    case round =>
      obtain ⟨k, r, rfl, rfl, hr0, hk0, hr⟩ := hrel
      have HR := Aside0.mk hr; clear hr
      by_cases hp : 0 < r
      · have dp : decide (0 < r) = true := decide_eq_true hp
        have hk9 : k ≤ 10 := by
          have := HR.out
          rw [vrest, if_pos hp] at this
          omega
        go_wp2
        refine ⟨⟨_, _, rfl, rfl, by omega, by omega, ?_⟩, by simp only [intOf]; omega⟩
        have := HR.out
        rw [vrest_step r hp] at this
        omega
      · have dp : decide (0 < r) = false := decide_eq_false hp
        have hk : k = k1 := by
          have := HR.out
          rw [vrest, if_neg hp] at this
          omega
        subst hk
        have d1 : decide (k1 ≤ k2) = true := decide_eq_true h2.1
        go_wp2_with fail
        ((with_reducible refine (hd _).mono ?_); rintro e_ W3 ⟨A3, c3, rfl, hb_⟩)
        have HBn := Aside0.mk (below_step HB.out hb_); clear HB hb_; have HB := HBn; clear HBn
        have d2 : decide ((k2 : Int) ≤ (k1 : Int) + 1) = true := decide_eq_true (by omega)
        go_wp2
        go_ret
        exact ⟨rfl, HB.out⟩

end Go.Proofs.YtcgjaobbjeagoaaDoor
