/- Num, Int, ReadNum, ReadInt, Text. -/
import Derived.Test.YtcgjaobbjeagoaaDoorWireD
import Derived.Laws.DeepNot64
namespace Go.Proofs.YtcgjaobbjeagoaaDoor
open Go.RowKit Go.Proofs.YtcgjaobbjeagoaaDoorW.PrintWords Go.Proofs.YtcgjaobbjeagoaaDoorW.PrintLast Go.Proofs.YtcgjaobbjeagoaaDoorW.PrintMore
set_option linter.unusedVariables false
set_option linter.unusedSimpArgs false

def numF (l : List Int) (n : Int) : List Int × Int := if n < 0 then ([], 1) else (l ++ venc n.toNat, 0)
def zz (n : Int) : Int := if n < 0 then -2 * n - 1 else 2 * n
def uz (z : Int) : Int := if z % 2 = 1 then -(z / 2) - 1 else z / 2

set_option maxHeartbeats 4000000 in
set_option maxRecDepth 100000 in
theorem Num_calls (A0 : Option Addr) (c0 : Nat) (l0 : List Int) (n : Int) (w : World)
    (hr0 : Kd.C (Kd.int .u8) w A0 l0.length l0) (hl : l0.length ≤ 140737488355318) (hn0 : -9223372036854775808 ≤ n) (hn1 : n ≤ 9223372036854775807) :
    Calls Tryd.prog 11 #[.slice A0 l0.length c0, .int .i64 n] w
      fun e w' => ∃ v, e = .returned (.tuple #[v, .int .i64 (numF l0 n).2]) ∧ Kd.R (Kd.int .u8) 5 w' w.heap.size (fun _ => True) v (numF l0 n).1 ∧ Below w.heap.size w w' := by
  by_cases hn : n < 0
  · have hd : decide (n < 0) = true := decide_eq_true hn
    have hf : numF l0 n = ([], 1) := if_pos hn
    rw [hf]
    clear hn hf
    go_enter Tryd.func11, Tryd.ntmps11
    go_wp2
    go_ret2
    exact ⟨_, rfl, Kd.R_nil _ _ _ _ _, Below.refl _ _⟩
  · have hd : decide (n < 0) = false := decide_eq_false hn
    have hf : numF l0 n = (l0 ++ venc n.toNat, 0) := if_neg hn
    rw [hf]
    have hw : IntKind.u64.wrap n = n := w64id n (by omega) (by omega)
    have HR := Aside0.mk hr0
    have HN := Aside0.mk hn
    clear hn hf hr0
    go_enter Tryd.func11, Tryd.ntmps11
    go_wp2_with fail
    try rw [hw]
    ((with_reducible refine (put_calls A0 c0 l0 n _ HR.out hl (by have := HN.out; omega) (by omega)).mono ?_); rintro e_ W1 ⟨v0, rfl, ho_, hb_⟩)
    go_wp2
    go_ret2
    exact ⟨_, rfl, ho_, hb_⟩

theorem xor_ones (a : Nat) (h : a < 18446744073709551616) : a ^^^ 18446744073709551615 = 18446744073709551615 - a := by
  have e1 : (18446744073709551615 : Nat) = 2 ^ 64 - 1 := by decide
  have e2 : 18446744073709551615 - a = 2 ^ 64 - (a + 1) := by omega
  rw [e2, e1]
  apply Nat.eq_of_testBit_eq
  intro i
  rw [Nat.testBit_xor, Nat.testBit_two_pow_sub_one, Nat.testBit_two_pow_sub_succ (by omega)]
  by_cases hi : i < 64
  · simp [hi]
  · have : a.testBit i = false := Nat.testBit_lt_two_pow (Nat.lt_of_lt_of_le h (by rw [show (18446744073709551616 : Nat) = 2 ^ 64 by decide]; exact Nat.pow_le_pow_right (by decide) (by omega)))
    simp [hi, this]
theorem zz_bits (n : Int) (h0 : -9223372036854775808 ≤ n) (h1 : n ≤ 9223372036854775807) :
    bits .xor .u64 (IntKind.u64.wrap (IntKind.u64.wrap n * 2)) (IntKind.u64.wrap (n / 9223372036854775808)) = zz n := by
  by_cases h : n < 0
  · rw [show n / 9223372036854775808 = -1 by omega, zz, if_pos h]
    show bits .xor .u64 (n % 18446744073709551616 * 2 % 18446744073709551616) 18446744073709551615 = _
    obtain ⟨a, ha⟩ : ∃ a : Nat, n % 18446744073709551616 * 2 % 18446744073709551616 = (a : Int) := ⟨_, (Int.toNat_of_nonneg (by omega)).symm⟩
    rw [ha]
    have := Go.bits_xor_u64_nat a 18446744073709551615 (by omega) (by omega)
    rw [show ((18446744073709551615 : Nat) : Int) = 18446744073709551615 from rfl] at this
    rw [this, xor_ones a (by omega)]
    omega
  · rw [show n / 9223372036854775808 = 0 by omega, zz, if_neg h]
    show bits .xor .u64 (n % 18446744073709551616 * 2 % 18446744073709551616) 0 = _
    obtain ⟨a, ha⟩ : ∃ a : Nat, n % 18446744073709551616 * 2 % 18446744073709551616 = (a : Int) := ⟨_, (Int.toNat_of_nonneg (by omega)).symm⟩
    rw [ha]
    have := Go.bits_xor_u64_nat a 0 (by omega) (by omega)
    rw [show ((0 : Nat) : Int) = 0 from rfl] at this
    rw [this, Nat.xor_zero]
    omega
theorem zz_range (n : Int) (h0 : -9223372036854775808 ≤ n) (h1 : n ≤ 9223372036854775807) : 0 ≤ zz n ∧ zz n < 18446744073709551616 := by
  unfold zz; split <;> omega

set_option maxHeartbeats 4000000 in
set_option maxRecDepth 100000 in
theorem Int_calls (A0 : Option Addr) (c0 : Nat) (l0 : List Int) (n : Int) (w : World)
    (hr0 : Kd.C (Kd.int .u8) w A0 l0.length l0) (hl : l0.length ≤ 140737488355318) (hn0 : -9223372036854775808 ≤ n) (hn1 : n ≤ 9223372036854775807) :
    Calls Tryd.prog 12 #[.slice A0 l0.length c0, .int .i64 n] w
      fun e w' => ∃ v, e = .returned v ∧ Kd.R (Kd.int .u8) 5 w' w.heap.size (fun _ => True) v (l0 ++ venc (zz n).toNat) ∧ Below w.heap.size w w' := by
  have HR := Aside0.mk hr0
  have hz := zz_bits n hn0 hn1
  have HZ := Aside0.mk hz
  clear hr0 hz
  go_enter Tryd.func12, Tryd.ntmps12
  go_wp2_with fail
  rw [HZ.out]
  ((with_reducible refine (put_calls A0 c0 l0 (zz n) _ HR.out hl (zz_range n hn0 hn1).1 (zz_range n hn0 hn1).2).mono ?_); rintro e_ W1 ⟨v0, rfl, ho_, hb_⟩)
  go_wp2
  go_ret
  exact ⟨_, rfl, ho_, hb_⟩

/-- What one of at most so many bytes can say. -/
theorem rdw_range (most : Int) (hm : 0 ≤ most) (hm2 : most ≤ 10) : ∀ (R : List Int) (i z : Int), 0 ≤ i → i ≤ most → (∀ x ∈ R, 0 ≤ x ∧ x < 256) → 0 ≤ z → z < (128 ^ i.toNat : Nat) →
    0 ≤ (rdw most R i z).1 ∧ (rdw most R i z).1 < (128 ^ most.toNat : Nat) ∧ (rdw most R i z).1 < 18446744073709551616 ∧ 0 ≤ (rdw most R i z).2.1 ∧ (rdw most R i z).2.1 ≤ i + R.length
  | [], i, z, hi, him, hR, h0, h1 => by
    have hp : (0 : Int) < (128 ^ most.toNat : Nat) := by exact_mod_cast Nat.pow_pos (by decide)
    rw [rdw]; split <;> exact ⟨by decide, hp, by decide, by decide, by simp; omega⟩
  | c :: cs, i, z, hi, him, hR, h0, h1 => by
    have hp : (0 : Int) < (128 ^ most.toNat : Nat) := by exact_mod_cast Nat.pow_pos (by decide)
    have hc := hR c List.mem_cons_self
    have hl : ((c :: cs).length : Int) = cs.length + 1 := by simp
    rw [rdw]
    by_cases e1 : i = most ∨ (i = 9 ∧ 1 < c)
    · rw [if_pos e1]
      exact ⟨by decide, hp, by decide, by decide, by simp only; omega⟩
    · rw [if_neg e1]
      have hst := pow_step i.toNat z c h0 h1 hc.1
      have hle : 128 ^ (i.toNat + 1) ≤ 128 ^ most.toNat := Nat.pow_le_pow_right (by decide) (by omega)
      by_cases e2 : c < 128
      · rw [if_pos e2]
        rw [show c % 128 = c by omega] at hst
        by_cases e3 : c = 0 ∧ 0 < i
        · rw [if_pos e3]; exact ⟨by decide, hp, by decide, by decide, by simp only; omega⟩
        · rw [if_neg e3]
          refine ⟨hst.1, Int.lt_of_lt_of_le hst.2 (by exact_mod_cast hle), ?_, by simp only; omega, by simp only; omega⟩
          show z + c * (128 ^ i.toNat : Nat) < 18446744073709551616
          by_cases e9 : i = 9
          · subst e9
            have : c ≤ 1 := by omega
            have h2 : c * ((128 ^ (9 : Int).toNat : Nat) : Int) ≤ 9223372036854775808 := by
              rw [show ((128 ^ (9 : Int).toNat : Nat) : Int) = 9223372036854775808 by decide]; omega
            rw [show ((128 ^ (9 : Int).toNat : Nat) : Int) = 9223372036854775808 by decide] at h1 h2 ⊢
            omega
          · have hle2 : 128 ^ (i.toNat + 1) ≤ 128 ^ 9 := Nat.pow_le_pow_right (by decide) (by omega)
            rw [show (128 : Nat) ^ 9 = 9223372036854775808 by decide] at hle2
            omega
      · rw [if_neg e2]
        rw [show c % 128 = c - 128 by omega] at hst
        have := rdw_range most hm hm2 cs (i + 1) (z + (c - 128) * (128 ^ i.toNat : Nat)) (by omega) (by omega) (fun x hx => hR x (List.mem_cons_of_mem _ hx)) hst.1 (by rw [show (i + 1).toNat = i.toNat + 1 by omega]; exact hst.2)
        refine ⟨this.1, this.2.1, this.2.2.1, this.2.2.2.1, by omega⟩
theorem tk_range (l : List Int) (at_ most : Int) (hm : 0 ≤ most) (hm2 : most ≤ 10) (hb : ∀ x ∈ l, 0 ≤ x ∧ x < 256) :
    0 ≤ (tk l at_ most).1 ∧ (tk l at_ most).1 < (128 ^ most.toNat : Nat) ∧ (tk l at_ most).1 < 18446744073709551616 ∧ 0 ≤ (tk l at_ most).2.1 ∧ (tk l at_ most).2.1 ≤ l.length := by
  have hp : (0 : Int) < (128 ^ most.toNat : Nat) := by exact_mod_cast Nat.pow_pos (by decide)
  by_cases e1 : at_ < 0 ∨ (l.length : Int) < at_
  · rw [tk, if_pos e1]; exact ⟨by decide, hp, by decide, by decide, by simp only; omega⟩
  · have h := rdw_range most hm hm2 (l.drop at_.toNat) 0 0 (by omega) hm (fun x hx => hb x (List.mem_of_mem_drop hx)) (by omega) (by simp)
    have hl : (l.drop at_.toNat).length = l.length - at_.toNat := List.length_drop
    rw [tk, if_neg e1]
    split
    · exact ⟨h.1, h.2.1, h.2.2.1, by have := h.2.2.2.1; simp only; omega, by have := h.2.2.2.2; simp only; omega⟩
    · exact ⟨Int.le_refl 0, hp, by show (0 : Int) < _; decide, Int.le_refl 0, by simp only; omega⟩

set_option maxHeartbeats 4000000 in
set_option maxRecDepth 100000 in
theorem ReadNum_calls (A0 : Option Addr) (c0 : Nat) (l0 : List Int) (at_ : Int) (w : World)
    (hr0 : Kd.C (Kd.int .u8) w A0 l0.length l0) (hc0 : l0.length ≤ c0) (hb : ∀ x ∈ l0, 0 ≤ x ∧ x < 256) (hl : l0.length ≤ 140737488355318) (ha1 : -9223372036854775808 ≤ at_) (ha2 : at_ ≤ 9223372036854775807) :
    Calls Tryd.prog 16 #[.slice A0 l0.length c0, .int .i64 at_] w
      fun e w' => e = .returned (.tuple #[.int .i64 (tk l0 at_ 9).1, .int .i64 (tk l0 at_ 9).2.1, .int .i64 (tk l0 at_ 9).2.2]) ∧ w' = w := by
  have hc := take_calls A0 c0 l0 at_ 9 w hr0 hc0 hb hl ha1 ha2 (.inl rfl)
  have hr := tk_range l0 at_ 9 (by decide) (by decide) hb
  rw [show ((128 ^ (9 : Int).toNat : Nat) : Int) = 9223372036854775808 by decide] at hr
  generalize tk l0 at_ 9 = t at hc hr ⊢
  have hw : wrap64 t.1 = t.1 := by simp only [wrap64]; omega
  have HW := Aside0.mk hw
  clear hr0 hc0 hb hr hw
  go_enter Tryd.func16, Tryd.ntmps16
  go_wp2_with fail
  ((with_reducible refine hc.mono ?_); rintro e_ W1 ⟨rfl, rfl⟩)
  go_wp2
  go_ret3
  rw [HW.out]
  exact ⟨rfl, rfl⟩

theorem bits_comm_xor (x y : Int) : bits .xor .i64 x y = bits .xor .i64 y x := by
  show IntKind.i64.wrap ((BitVec.ofInt 64 x ^^^ BitVec.ofInt 64 y).toNat : Int) = IntKind.i64.wrap ((BitVec.ofInt 64 y ^^^ BitVec.ofInt 64 x).toNat : Int)
  rw [BitVec.xor_comm]
theorem uz_bits (z : Int) (h0 : 0 ≤ z) (h1 : z < 18446744073709551616) :
    bits .xor .i64 (wrap64 (z / 2)) (wrap64 (-(wrap64 (bits .and .u64 z 1)))) = uz z := by
  have h2 : bits .and .u64 z 1 = z % 2 := by go_bits2
  have h3 : wrap64 (z / 2) = z / 2 := by simp only [wrap64]; omega
  rw [h2, h3, uz]
  obtain ⟨a, rfl⟩ := Int.eq_ofNat_of_zero_le h0
  rw [show ((a : Int) / 2) = ((a / 2 : Nat) : Int) by omega]
  have ha : a / 2 < 9223372036854775808 := by omega
  by_cases h : (a : Int) % 2 = 1
  · rw [if_pos h, h]
    rw [show wrap64 (-wrap64 1) = -1 by simp [wrap64]]
    rw [bits_comm_xor, i64_not _ ha]
    omega
  · rw [if_neg h, show (a : Int) % 2 = 0 by omega]
    rw [show wrap64 (-wrap64 0) = 0 by simp [wrap64]]
    show IntKind.i64.wrap ((BitVec.ofInt 64 ((a / 2 : Nat) : Int) ^^^ BitVec.ofInt 64 0).toNat : Int) = _
    rw [show BitVec.ofInt 64 0 = 0#64 by decide, BitVec.xor_zero, ofInt_u64 (a / 2) (by omega)]
    simp [IntKind.wrap, IntKind.bits, IntKind.signed]
    omega
set_option maxHeartbeats 4000000 in
set_option maxRecDepth 100000 in
theorem ReadInt_calls (A0 : Option Addr) (c0 : Nat) (l0 : List Int) (at_ : Int) (w : World)
    (hr0 : Kd.C (Kd.int .u8) w A0 l0.length l0) (hc0 : l0.length ≤ c0) (hb : ∀ x ∈ l0, 0 ≤ x ∧ x < 256) (hl : l0.length ≤ 140737488355318) (ha1 : -9223372036854775808 ≤ at_) (ha2 : at_ ≤ 9223372036854775807) :
    Calls Tryd.prog 17 #[.slice A0 l0.length c0, .int .i64 at_] w
      fun e w' => e = .returned (.tuple #[.int .i64 (uz (tk l0 at_ 10).1), .int .i64 (tk l0 at_ 10).2.1, .int .i64 (tk l0 at_ 10).2.2]) ∧ w' = w := by
  have hc := take_calls A0 c0 l0 at_ 10 w hr0 hc0 hb hl ha1 ha2 (.inr rfl)
  have hr := tk_range l0 at_ 10 (by decide) (by decide) hb
  generalize tk l0 at_ 10 = t at hc hr ⊢
  have hw := uz_bits t.1 hr.1 hr.2.2.1
  have HW := Aside0.mk hw
  clear hr0 hc0 hb hr hw
  go_enter Tryd.func17, Tryd.ntmps17
  go_wp2_with fail
  ((with_reducible refine hc.mono ?_); rintro e_ W1 ⟨rfl, rfl⟩)
  go_wp2
  go_ret3
  rw [HW.out]
  exact ⟨rfl, rfl⟩

def textF (l : List Int) (t : ByteArray) : List Int × Int := if (65536 : Int) < (t.size : Int) then ([], 2) else (l ++ venc t.size ++ bytesOf t, 0)

set_option maxHeartbeats 4000000 in
set_option maxRecDepth 100000 in
theorem Text_calls (A0 : Option Addr) (c0 : Nat) (l0 : List Int) (t : ByteArray) (w : World)
    (hr0 : Kd.C (Kd.int .u8) w A0 l0.length l0) (hl : l0.length ≤ 140737488000000) (ht : t.size ≤ 9223372036854775807) :
    Calls Tryd.prog 23 #[.slice A0 l0.length c0, .string t] w
      fun e w' => ∃ v, e = .returned (.tuple #[v, .int .i64 (textF l0 t).2]) ∧ Kd.R (Kd.int .u8) 5 w' w.heap.size (fun _ => True) v (textF l0 t).1 ∧ Below w.heap.size w w' := by
  by_cases hn : (65536 : Int) < (t.size : Int)
  · have hd : decide ((65536 : Int) < (t.size : Int)) = true := decide_eq_true hn
    have hf : textF l0 t = ([], 2) := if_pos hn
    rw [hf]
    clear hn hf
    go_enter Tryd.func23, Tryd.ntmps23
    go_wp2
    go_ret2
    exact ⟨_, rfl, Kd.R_nil _ _ _ _ _, Below.refl _ _⟩
  · have hd : decide ((65536 : Int) < (t.size : Int)) = false := decide_eq_false hn
    have hf : textF l0 t = (l0 ++ venc t.size ++ bytesOf t, 0) := if_neg hn
    rw [hf]
    have hw : IntKind.u64.wrap (t.size : Int) = (t.size : Int) := w64id _ (by omega) (by omega)
    have HR := Aside0.mk hr0
    have HN := Aside0.mk hn
    have HV := Aside0.mk (venc_len64 (z := (t.size : Int)) (by omega))
    clear hn hf hr0
    go_enter Tryd.func23, Tryd.ntmps23
    go_wp2_with fail
    try rw [hw]
    ((with_reducible refine (put_calls A0 c0 l0 (t.size : Int) _ HR.out (by omega) (by omega) (by omega)).mono ?_); rintro e_ W1 ⟨v0, rfl, ho_, hb_⟩)
    rw [Int.toNat_natCast] at ho_ HV
    have HO := Aside0.mk ho_; have HB := Aside0.mk hb_; clear ho_ hb_
    go_wp2_with (first | ((with_reducible refine gate_builtin (b := .append) (xs := #[.tmp 13, .tmp 14]) rfl ?_); at_builtin; refine print_append_str (w0 := w) w.heap.size rfl (.tmp 13) _ 23 9 5 rfl Tryd.underlying23 Tryd.underlying9 infoB v0 (l0 ++ venc t.size) t rfl rfl ?aO ?aB ?aS ?aL ?_; (case aB => exact HB.out); (case aO => exact (Kd.own_of_R HO.out)); (case aS => exact (below_size HB.out)); (case aL => have := HN.out; have := HV.out; simp; omega); intro v1 w1 ho0 hb hg; have ho := Kd.R_of_own (h1 := fun _ => rfl) (ok := fun _ => True) ho0 (fun _ _ => trivial); have HO1 := Aside0.mk ho; have HB1 := Aside0.mk hb; clear ho hb hg ho0 HO HB))
    go_ret2
    exact ⟨_, rfl, HO1.out, HB1.out⟩
end Go.Proofs.YtcgjaobbjeagoaaDoor
