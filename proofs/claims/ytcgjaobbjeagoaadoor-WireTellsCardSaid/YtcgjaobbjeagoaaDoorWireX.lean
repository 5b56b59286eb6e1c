/- The document's numbers, texts and frames are the program's. -/
import Derived.Test.YtcgjaobbjeagoaaDoorWireW
namespace Go.Proofs.YtcgjaobbjeagoaaDoor
open Go.RowKit Go.Proofs.YtcgjaobbjeagoaaDoorW.PrintWords Go.Proofs.YtcgjaobbjeagoaaDoorW.PrintLast Go.Proofs.YtcgjaobbjeagoaaDoorW.PrintMore
set_option linter.unusedVariables false
set_option linter.unusedSimpArgs false

theorem rbytes_venc : ∀ (k z : Nat), z < 128 ^ (k + 1) → k ≤ 20 → z < 18446744073709551616 → PWireWrites.tiltyardref02_bytes.f (k + 1) (z : Int) = some (venc z)
  | 0, z, h, _, _ => by
    unfold PWireWrites.tiltyardref02_bytes.f
    rw [if_pos (by omega), venc_lt (by omega), show (z : Int) % 256 = (z : Int) by omega]
  | k + 1, z, h, hk, hz => by
    unfold PWireWrites.tiltyardref02_bytes.f
    by_cases hs : z < 128
    · rw [if_pos (by omega), venc_lt hs, show (z : Int) % 256 = (z : Int) by omega]
    · have h1 : Int.tmod (z : Int) 128 = ((z % 128 : Nat) : Int) := rfl
      have h2 : Int.tdiv (z : Int) 128 = ((z / 128 : Nat) : Int) := rfl
      have hd : z / 128 < 128 ^ (k + 1) := by
        rw [Nat.div_lt_iff_lt_mul (by decide), ← Nat.pow_succ]; exact h
      have ih := rbytes_venc k (z / 128) hd (by omega) (by omega)
      have hvl := venc_len k (z / 128) hd
      rw [if_neg (by omega), venc_ge hs, h1, h2, w64id _ (by omega) (by omega), w64id _ (by omega) (by omega), ih]
      show (if 1 + (venc (z / 128)).length < 140737488355328 then some ([(((z % 128 : Nat) : Int) + 128) % 256] ++ venc (z / 128)) else none) = _
      rw [if_pos (by omega), show (((z % 128 : Nat) : Int) + 128) % 256 = ((z % 128 + 128 : Nat) : Int) by omega]
      rfl
theorem rbytes_calls (z : Int) (w : World) (h0 : 0 ≤ z) (h1 : z < 18446744073709551616) :
    Calls Tryd.prog 38 #[.int .u64 z] w fun e w' => ∃ A c n, e = .returned (.slice A n c) ∧ (venc z.toNat).length = n ∧ n ≤ 10 ∧ Kd.C (Kd.int .u8) w' A n (venc z.toNat) ∧ Below w.heap.size w w' := by
  have hf : PWireWrites.tiltyardref02_bytes.f 11 z = some (venc z.toNat) := by
    have := rbytes_venc 10 z.toNat (by have : (128 : Nat) ^ (10 + 1) = 151115727451828646838272 := by decide
                                       omega) (by omega) (by omega)
    rwa [show ((z.toNat : Nat) : Int) = z by omega] at this
  refine (PWireWrites.tiltyardref02_bytes.calls 11 z _ w hf).mono ?_
  rintro e w' ⟨v, rfl, hR, hb⟩
  obtain ⟨A, c, rfl⟩ := Kd.R_slice hR
  exact ⟨A, c, _, rfl, rfl, venc_len64 h1, (Kd.R_reads' hR).2.2, hb⟩

set_option maxHeartbeats 4000000 in
set_option maxRecDepth 100000 in
theorem rNum_callsF (A0 : Option Addr) (c0 : Nat) (l0 : List Int) (n : Int) (w : World)
    (hr0 : Kd.C (Kd.int .u8) w A0 l0.length l0) (hl : l0.length ≤ 140737488355318) (hn0 : -9223372036854775808 ≤ n) (hn1 : n ≤ 9223372036854775807) :
    Calls Tryd.prog 26 #[.slice A0 l0.length c0, .int .i64 n] w
      fun e w' => ∃ v, e = .returned (.tuple #[v, .int .i64 (numF l0 n).2]) ∧ RS w.heap.size w' v (numF l0 n).1 ∧ Below w.heap.size w w' := by
  by_cases hn : n < 0
  · have hd : decide (n < 0) = true := decide_eq_true hn
    have hf : numF l0 n = ([], 1) := if_pos hn
    rw [hf]
    clear hn hf
    go_enter Tryd.func26, Tryd.ntmps26
    go_wp2
    go_ret2
    exact ⟨_, rfl, RS.nil _ _, Below.refl _ _⟩
  · have hd : decide (n < 0) = false := decide_eq_false hn
    have hf : numF l0 n = (l0 ++ venc n.toNat, 0) := if_neg hn
    rw [hf]
    have hw : IntKind.u64.wrap n = n := w64id n (by omega) (by omega)
    have HR := Aside0.mk hr0
    have HN := Aside0.mk hn
    clear hn hf hr0
    obtain ⟨m, hm⟩ : ∃ m, m = l0.length := ⟨_, rfl⟩
    rw [← hm] at hl ⊢
    have HM := Aside0.mk hm; clear hm
    go_enter Tryd.func26, Tryd.ntmps26
    go_wp2_with fail
    try rw [hw]
    ((with_reducible refine (rbytes_calls n _ (by have := HN.out; omega) (by omega)).mono ?_); rintro e_ W1 ⟨A1, c1, k, rfl, hk, hk2, hC, hb_⟩)
    have HB := Aside0.mk hb_; have HC := Aside0.mk hC; have HK := Aside0.mk hk
    clear hb_ hC hk
    go_wp2_with fail
    ((with_reducible refine (copied_callsF _ _ _ _ _ _ _ _ _ HM.out.symm HK.out (by rw [HM.out]; exact Kd.C_below HR.out HB.out) HC.out (by omega)).mono ?_); rintro e_ W2 ⟨v0, rfl, ho_, hb_⟩)
    go_wp2
    go_ret2
    exact ⟨_, rfl, ho_.lower (below_size HB.out), below_step HB.out hb_⟩

set_option maxHeartbeats 4000000 in
set_option maxRecDepth 100000 in
theorem rText_callsF (A0 : Option Addr) (c0 : Nat) (l0 : List Int) (t : ByteArray) (w : World)
    (hr0 : Kd.C (Kd.int .u8) w A0 l0.length l0) (hl : l0.length ≤ 140737488351232) (ht : t.size ≤ 9223372036854775807) :
    Calls Tryd.prog 27 #[.slice A0 l0.length c0, .string t] w
      fun e w' => ∃ v, e = .returned (.tuple #[v, .int .i64 (textF l0 t).2]) ∧ RS w.heap.size w' v (textF l0 t).1 ∧ Below w.heap.size w w' := by
  by_cases hn : (65536 : Int) < (t.size : Int)
  · have hd : decide ((65536 : Int) < (t.size : Int)) = true := decide_eq_true hn
    have hf : textF l0 t = ([], 2) := if_pos hn
    rw [hf]
    clear hn hf
    go_enter Tryd.func27, Tryd.ntmps27
    go_wp2
    go_ret2
    exact ⟨_, rfl, RS.nil _ _, Below.refl _ _⟩
  · have hd : decide ((65536 : Int) < (t.size : Int)) = false := decide_eq_false hn
    have hf : textF l0 t = (l0 ++ venc t.size ++ bytesOf t, 0) := if_neg hn
    rw [hf]
    have HR := Aside0.mk hr0
    have HN := Aside0.mk hn
    have hnf : numF l0 (t.size : Int) = (l0 ++ venc t.size, 0) := by
      unfold numF
      rw [if_neg (by omega), Int.toNat_natCast]
    have HV := Aside0.mk (venc_len64 (z := (t.size : Int)) (by omega))
    have hc := fun W (h : Kd.C (Kd.int .u8) W A0 l0.length l0) => rNum_callsF A0 c0 l0 (t.size : Int) W h (by omega) (by omega) (by omega)
    rw [hnf] at hc
    clear hn hf hr0 hnf
    go_enter Tryd.func27, Tryd.ntmps27
    go_wp2_with fail
    ((with_reducible refine (hc _ HR.out).mono ?_); rintro e_ W1 ⟨v0, rfl, ho_, hb_⟩)
    rw [Int.toNat_natCast] at HV
    have HO := Aside0.mk ho_; have HB := Aside0.mk hb_; clear ho_ hb_ hc
    go_wp2_with (first | ((with_reducible refine gate_builtin (b := .append) (xs := #[.tmp 18, .tmp 19]) rfl ?_); at_builtin; obtain ⟨sp0, ho_⟩ := HO.out; refine wp_rf_str (w0 := w) w.heap.size rfl (.tmp 18) (.tmp 19) rfl v0 (l0 ++ venc t.size) sp0 t rfl rfl ho_ HB.out (below_size HB.out) (by have := HN.out; have := HV.out; simp; omega) ?_; intro v1 w1 sp1 ho hb hg; have HO1 : Aside0 (RS w.heap.size w1 v1 _) := Aside0.mk ⟨sp1, ho⟩; have HB1 := Aside0.mk hb; clear ho hb hg ho_ HO HB))
    go_ret2
    exact ⟨_, rfl, HO1.out, HB1.out⟩

set_option maxHeartbeats 4000000 in
set_option maxRecDepth 100000 in
theorem rInt_callsF (A0 : Option Addr) (c0 : Nat) (l0 : List Int) (n : Int) (w : World)
    (hr0 : Kd.C (Kd.int .u8) w A0 l0.length l0) (hl : l0.length ≤ 140737488355318) (hn0 : -9223372036854775808 ≤ n) (hn1 : n ≤ 9223372036854775807) :
    Calls Tryd.prog 29 #[.slice A0 l0.length c0, .int .i64 n] w
      fun e w' => ∃ v, e = .returned v ∧ RS w.heap.size w' v (l0 ++ venc (zz n).toNat) ∧ Below w.heap.size w w' := by
  have HR := Aside0.mk hr0
  clear hr0
  obtain ⟨m, hm⟩ : ∃ m, m = l0.length := ⟨_, rfl⟩
  rw [← hm] at hl ⊢
  have HM := Aside0.mk hm; clear hm
  by_cases hn : n < 0
  · have hd : decide (n < 0) = true := decide_eq_true hn
    have hz : -(n + 1) * 2 + 1 = zz n := by unfold zz; rw [if_pos hn]; omega
    have hzr := zz_range n hn0 hn1
    have HZ := Aside0.mk hz; have HZR := Aside0.mk hzr
    clear hz hzr
    go_enter Tryd.func29, Tryd.ntmps29
    go_wp2_with fail
    ((with_reducible refine (rbytes_calls (-(n + 1) * 2 + 1) _ (by rw [HZ.out]; exact HZR.out.1) (by rw [HZ.out]; exact HZR.out.2)).mono ?_); rintro e_ W1 ⟨A1, c1, k, rfl, hk, hk2, hC, hb_⟩)
    rw [HZ.out] at hk hC
    have HB := Aside0.mk hb_; have HC := Aside0.mk hC; have HK := Aside0.mk hk
    clear hb_ hC hk
    go_wp2_with fail
    ((with_reducible refine (copied_callsF _ _ _ _ _ _ _ _ _ HM.out.symm HK.out (by rw [HM.out]; exact Kd.C_below HR.out HB.out) HC.out (by omega)).mono ?_); rintro e_ W2 ⟨v0, rfl, ho_, hb_⟩)
    go_wp2
    go_ret
    exact ⟨_, rfl, ho_.lower (below_size HB.out), below_step HB.out hb_⟩
  · have hd : decide (n < 0) = false := decide_eq_false hn
    have hz : n * 2 = zz n := by unfold zz; rw [if_neg hn]; omega
    have hzr := zz_range n hn0 hn1
    have HZ := Aside0.mk hz; have HZR := Aside0.mk hzr
    clear hz hzr
    go_enter Tryd.func29, Tryd.ntmps29
    go_wp2_with fail
    ((with_reducible refine (rbytes_calls (n * 2) _ (by rw [HZ.out]; exact HZR.out.1) (by rw [HZ.out]; exact HZR.out.2)).mono ?_); rintro e_ W1 ⟨A1, c1, k, rfl, hk, hk2, hC, hb_⟩)
    rw [HZ.out] at hk hC
    have HB := Aside0.mk hb_; have HC := Aside0.mk hC; have HK := Aside0.mk hk
    clear hb_ hC hk
    go_wp2_with fail
    ((with_reducible refine (copied_callsF _ _ _ _ _ _ _ _ _ HM.out.symm HK.out (by rw [HM.out]; exact Kd.C_below HR.out HB.out) HC.out (by omega)).mono ?_); rintro e_ W2 ⟨v0, rfl, ho_, hb_⟩)
    go_wp2
    go_ret
    exact ⟨_, rfl, ho_.lower (below_size HB.out), below_step HB.out hb_⟩

set_option maxHeartbeats 4000000 in
set_option maxRecDepth 100000 in
theorem rFrame_callsF (A0 : Option Addr) (c0 m : Nat) (l0 : List Int) (w : World) (hm : l0.length = m)
    (hr0 : Kd.C (Kd.int .u8) w A0 m l0) (hl : m ≤ 140737488355318) :
    Calls Tryd.prog 30 #[.slice A0 m c0] w
      fun e w' => ∃ v, e = .returned v ∧ RS w.heap.size w' v (frameF l0) ∧ Below w.heap.size w w' := by
  have HM := Aside0.mk hm
  have hc := rSum_calls A0 c0 l0 w (by rw [hm]; exact hr0) (by omega)
  rw [hm] at hc
  have HR := Aside0.mk hr0
  have hs := sumF_range l0
  have hff : frameF l0 = l0 ++ [sumF l0 % 256, sumF l0 / 256 % 256, sumF l0 / 65536 % 256, sumF l0 / 16777216] := rfl
  rw [hff]
  clear hr0 hff hm
  generalize sumF l0 = s at hs hc ⊢
  have t1 : Int.tdiv s 256 = s / 256 := Int.tdiv_eq_ediv_of_nonneg hs.1
  have t2 : Int.tdiv s 65536 = s / 65536 := Int.tdiv_eq_ediv_of_nonneg hs.1
  have t3 : Int.tdiv s 16777216 = s / 16777216 := Int.tdiv_eq_ediv_of_nonneg hs.1
  have t4 : s / 16777216 % 256 = s / 16777216 := by omega
  go_enter Tryd.func30, Tryd.ntmps30
  go_wp2_with fail
  ((with_reducible refine hc.mono ?_); rintro e_ W1 ⟨rfl, rfl⟩)
  clear hc
  go_wp2_with fail
  have hC : Kd.C (Kd.int .u8) (W1.alloc (Obj.cells #[.int .u8 (s % 256), .int .u8 (s / 256 % 256), .int .u8 (s / 65536 % 256), .int .u8 (s / 16777216)] 5)) (some ⟨W1.heap.size, 0, none⟩) 4 [s % 256, s / 256 % 256, s / 65536 % 256, s / 16777216] := C_pre W1 [s % 256, s / 256 % 256, s / 65536 % 256, s / 16777216] [] 5 (by simp) _ rfl
  ((with_reducible refine (copied_callsF A0 (some ⟨W1.heap.size, 0, none⟩) c0 4 m 4 l0 [s % 256, s / 256 % 256, s / 65536 % 256, s / 16777216] _ HM.out rfl (Kd.C_alloc HR.out _) hC (by omega)).mono ?_); rintro e_ W2 ⟨v0, rfl, ho_, hb_⟩)
  have hb1 := below_alloc (Below.refl W1.heap.size W1) (Obj.cells #[.int .u8 (s % 256), .int .u8 (s / 256 % 256), .int .u8 (s / 65536 % 256), .int .u8 (s / 16777216)] 5)
  have HO := Aside0.mk (ho_.lower (below_size hb1)); have HB := Aside0.mk (below_step hb1 hb_)
  clear hC hb1 ho_ hb_
  go_wp2
  go_ret
  exact ⟨_, rfl, HO.out, HB.out⟩

/-- What a frame opens to. -/
def opF (l : List Int) : List Int × Bool := if l.length < 4 then ([], false) else if frameF (l.take (l.length - 4)) = l then (l.take (l.length - 4), true) else ([], false)
theorem equal_l0 (x y : List Int) (hl : x.length = y.length) (hm : x.length ≤ 9223372036854775806) : ∀ (k i : Nat), i ≤ x.length → x.length < k + i → PWireWrites.slices_Equal_byte_byte.l0 k x y (x.length : Int) (i : Int) = some (decide (x.drop i = y.drop i))
  | 0, i, h, hk => by omega
  | k + 1, i, h, hk => by
    unfold PWireWrites.slices_Equal_byte_byte.l0
    by_cases hi : i < x.length
    · have hi2 : i < y.length := by omega
      rw [if_pos (by omega), if_pos (by omega), if_pos (by omega), if_pos (by omega), rd_get' hi, rd_get' hi2, show x.drop i = x[i] :: x.drop (i + 1) from List.drop_eq_getElem_cons hi, show y.drop i = y[i] :: y.drop (i + 1) from List.drop_eq_getElem_cons hi2]
      by_cases he : x[i] = y[i]
      · rw [if_pos he, show wrap64 ((i : Int) + 1) = ((i + 1 : Nat) : Int) by simp only [wrap64]; omega, equal_l0 x y hl hm k (i + 1) (by omega) (by omega)]
        refine congrArg some (decide_eq_decide.2 ⟨fun h => by rw [he, h], fun h => by injection h⟩)
      · rw [if_neg he]
        refine congrArg some (decide_eq_false fun h => he ?_).symm
        injection h
    · rw [if_neg (by omega), List.drop_of_length_le (by omega), List.drop_of_length_le (by omega)]
      simp
theorem equal_law (x y : List Int) (hm : x.length ≤ 9223372036854775806) : PWireWrites.slices_Equal_byte_byte.f (x.length + 1) x y = some (decide (x = y)) := by
  unfold PWireWrites.slices_Equal_byte_byte.f
  by_cases hl : x.length = y.length
  · rw [if_pos (by omega)]
    have := equal_l0 x y hl hm (x.length + 1) 0 (by omega) (by omega)
    simpa using this
  · rw [if_neg (by omega)]
    have : x ≠ y := fun e => hl (by rw [e])
    simp [this]
theorem Equal_calls (A0 A1 : Option Addr) (c0 c1 n0 n1 : Nat) (x y : List Int) (w : World) (hn0 : x.length = n0) (hn1 : y.length = n1)
    (hr0 : Kd.C (Kd.int .u8) w A0 n0 x) (hc0 : n0 ≤ c0) (hr1 : Kd.C (Kd.int .u8) w A1 n1 y) (hc1 : n1 ≤ c1) (hm : n0 ≤ 9223372036854775806) :
    Calls Tryd.prog 36 #[.slice A0 n0 c0, .slice A1 n1 c1] w fun e w' => e = .returned (.bool (decide (x = y))) ∧ Drawn0 w w' := by
  subst hn0 hn1
  exact PWireWrites.slices_Equal_byte_byte.calls (x.length + 1) A0 c0 x A1 c1 y _ w hr0 hc0 hr1 hc1 (equal_law x y hm)
theorem cutTo (A : Option Addr) (m c j : Nat) (hc : j ≤ c) (W : World) : (Instr.slice 23 (.slice A m c) none (some (.int .i64 (j : Int))) none).run Tryd.prog W = .ok (.slice A j c) W := by
  obtain ⟨i0, hi0, _, hsz0, _⟩ := info_parts infoB
  have ht := Tryd.underlying23
  have hel : Tryd.prog.elem 23 = 5 := by simp [Program.elem, ht]
  have hu : Tryd.prog.underlying 23 = some (.slice (Tryd.prog.elem 23)) := by rw [hel]; exact ht
  have ha : (A.map fun x => x.add 0) = A := by cases A <;> simp [Addr.add]
  rw [run_slice_h W 23 A m c hu .i64 (j : Int) (by omega) (by omega), hel]
  simp [sizeOf, typeInfo, hi0, hsz0, sliced, Result.andThen, ha]
theorem C_first {w : World} {A : Option Addr} {n : Nat} {xs : List Int} (h : Kd.C (Kd.int .u8) w A n xs) (j : Nat) (hj : j ≤ n) : Kd.C (Kd.int .u8) w A j (xs.take j) := by
  have hn : xs.length = n := h.1
  refine ⟨by rw [List.length_take]; omega, Nat.le_trans hj h.2.1, fun h0 => ?_⟩
  obtain ⟨ad, h1, h2⟩ := h.2.2 (by omega)
  exact ⟨ad, h1, fun i p hi => h2 i p (by
    rw [List.getElem?_take] at hi
    split at hi
    · exact hi
    · cases hi)⟩
end Go.Proofs.YtcgjaobbjeagoaaDoor
