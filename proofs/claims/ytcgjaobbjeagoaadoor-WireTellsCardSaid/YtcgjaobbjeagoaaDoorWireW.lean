/- The document's sum is the program's; its frame. -/
import Derived.Test.YtcgjaobbjeagoaaDoorWireV
import Derived.Test.YtcgjaobbjeagoaaDoorWireI
import Derived.Test.YtcgjaobbjeagoaaDoorPWireWritesx1
namespace Go.Proofs.YtcgjaobbjeagoaaDoor
open Go.RowKit Go.Proofs.YtcgjaobbjeagoaaDoorW.PrintWords Go.Proofs.YtcgjaobbjeagoaaDoorW.PrintLast Go.Proofs.YtcgjaobbjeagoaaDoorW.PrintMore
set_option linter.unusedVariables false
set_option linter.unusedSimpArgs false

def bN (s : Nat) : Nat := if s % 2 = 1 then s / 2 ^^^ 3988292384 else s / 2
theorem bN_high (h u : Nat) : bN (2 * h ^^^ u) = h ^^^ bN u := by
  have h1 : (2 * h ^^^ u) / 2 = h ^^^ u / 2 := by
    have := Nat.xor_div_two_pow (a := 2 * h) (b := u) (n := 1)
    rw [show (2 : Nat) ^ 1 = 2 by rfl, show 2 * h / 2 = h by omega] at this
    exact this
  have h2 : (2 * h ^^^ u) % 2 = u % 2 := by
    have := Nat.xor_mod_two_pow (a := 2 * h) (b := u) (n := 1)
    rw [show (2 : Nat) ^ 1 = 2 by rfl, show 2 * h % 2 = 0 by omega, Nat.zero_xor] at this
    exact this
  unfold bN
  rw [h1, h2]
  split
  · rw [Nat.xor_assoc]
  · rfl
theorem bN_four (s : Nat) : bN (bN (bN (bN s))) = nstepN s := by
  have hs := split16 s
  have hl : ∀ u : Fin 16, bN (bN (bN (bN u.val))) = nibN u.val := by decide +kernel
  have h1 := hl ⟨s % 16, by omega⟩
  have e : bN (bN (bN (bN s))) = s / 16 ^^^ bN (bN (bN (bN (s % 16)))) := by
    conv => lhs; rw [← hs]
    rw [show 16 * (s / 16) = 2 * (8 * (s / 16)) by omega, bN_high, show 8 * (s / 16) = 2 * (4 * (s / 16)) by omega, bN_high, show 4 * (s / 16) = 2 * (2 * (s / 16)) by omega, bN_high, bN_high]
  rw [e]
  unfold nstepN
  rw [← h1]
theorem bN_lt (s : Nat) (h : s < 4294967296) : bN s < 4294967296 := by
  unfold bN
  split
  · exact Nat.xor_lt_two_pow (n := 32) (by omega) (by omega)
  · omega
def bstep (s : Int) : Int := if s % 2 = 1 then bits .xor .u32 (s / 2) 3988292384 else s / 2
theorem bstep_cast (s : Nat) (h : s < 4294967296) : bstep (s : Int) = ((bN s : Nat) : Int) := by
  unfold bstep bN
  by_cases hs : s % 2 = 1
  · rw [if_pos hs, if_pos (by omega), show (s : Int) / 2 = ((s / 2 : Nat) : Int) by omega, show (3988292384 : Int) = ((3988292384 : Nat) : Int) by rfl, u32_xor_nat _ _ (by omega) (by omega)]
  · rw [if_neg hs, if_neg (by omega)]
    omega
def bIt : Nat → Int → Int
  | 0, s => s
  | k + 1, s => bstep (bIt k s)
theorem bIt_range (s : Int) (h0 : 0 ≤ s) (h1 : s < 4294967296) : ∀ k, 0 ≤ bIt k s ∧ bIt k s < 4294967296
  | 0 => ⟨h0, h1⟩
  | k + 1 => by
    have ih := bIt_range s h0 h1 k
    show 0 ≤ bstep (bIt k s) ∧ bstep (bIt k s) < 4294967296
    unfold bstep
    split
    · exact u32_range _ _
    · omega
theorem bIt_eight (s : Int) (h0 : 0 ≤ s) (h1 : s < 4294967296) : bIt 8 s = nstep (nstep s) := by
  obtain ⟨n, rfl⟩ : ∃ n : Nat, s = (n : Int) := ⟨s.toNat, by omega⟩
  have hn : n < 4294967296 := by omega
  have b1 := bN_lt n hn; have b2 := bN_lt _ b1; have b3 := bN_lt _ b2; have b4 := bN_lt _ b3; have b5 := bN_lt _ b4; have b6 := bN_lt _ b5; have b7 := bN_lt _ b6
  simp only [bIt]
  rw [bstep_cast n hn, bstep_cast _ b1, bstep_cast _ b2, bstep_cast _ b3, bstep_cast _ b4, bstep_cast _ b5, bstep_cast _ b6, bstep_cast _ b7, bN_four, bN_four, nstep_cast n hn, nstep_cast _ (nstepN_lt n hn)]
theorem u32_and1 (x : Int) (h0 : 0 ≤ x) (h1 : x < 4294967296) : bits .and .u32 x 1 = x % 2 := bits_mask .u32 32 (by decide) wraps_u32 1 (by decide) x h0 h1

set_option maxHeartbeats 4000000 in
set_option maxRecDepth 100000 in
theorem rSum_calls (A0 : Option Addr) (c0 : Nat) (l0 : List Int) (w : World)
    (hr0 : Kd.C (Kd.int .u8) w A0 l0.length l0) (hl : l0.length ≤ 140737488355328) :
    Calls Tryd.prog 31 #[.slice A0 l0.length c0] w
      fun e w' => e = .returned (.int .i64 (sumF l0)) ∧ w' = w := by
  have HR := Aside0.mk hr0
  clear hr0
  go_enter Tryd.func31, Tryd.ntmps31
  go_wp2
  go_loop [3, 4] (fun vs vi => ∃ (s i : Int), vs = .int .u32 s ∧ vi = .int .i64 i ∧ 0 ≤ i ∧ i ≤ l0.length ∧ 0 ≤ s ∧ s < 4294967296 ∧ Aside0 (s = (l0.take i.toNat).foldl sstep 4294967295)) (fun _ vi => (l0.length - intOf vi).toNat)
  case atStart => exact ⟨_, _, rfl, rfl, by omega, by omega, by omega, by omega, ⟨rfl⟩⟩
  case round =>
    obtain ⟨s, i, rfl, rfl, hi0, hi1, hs0, hs1, HS⟩ := hrel
    by_cases hx : i < l0.length
    · have dx : decide (i < (l0.length : Int)) = true := decide_eq_true hx
      obtain ⟨ad, e, hcell⟩ := Kd.at_int HR.out i hi0 hx
      cases e
      obtain ⟨c, hc⟩ : ∃ c, c = rd l0 i := ⟨_, rfl⟩
      rw [← hc] at hcell
      have HC := Aside0.mk hc; clear hc
      have hr := u32_range s (c % 4294967296)
      obtain ⟨t, ht⟩ : ∃ t, t = bits .xor .u32 s (c % 4294967296) := ⟨_, rfl⟩
      rw [← ht] at hr
      have HTT := Aside0.mk ht
      go_wp2
      rw [← ht]
      clear ht
      go_loop [3, 5] (fun vs vk => ∃ (s k : Int), vs = .int .u32 s ∧ vk = .int .i64 k ∧ 0 ≤ k ∧ k ≤ 8 ∧ Aside0 (s = bIt k.toNat t)) (fun _ vk => (8 - intOf vk).toNat)
      case atStart => exact ⟨_, _, rfl, rfl, by omega, by omega, ⟨rfl⟩⟩
      case round =>
        obtain ⟨u, k, rfl, rfl, hk0, hk1, HU⟩ := hrel
        by_cases hy : k < 8
        · have dy : decide (k < 8) = true := decide_eq_true hy
          have hur := bIt_range t hr.1 hr.2 k.toNat
          rw [← HU.out] at hur
          have h1 := u32_and1 u hur.1 hur.2
          have hst : bIt (k + 1).toNat t = bstep u := by
            rw [show (k + 1).toNat = k.toNat + 1 by omega, HU.out]; rfl
          have HST := Aside0.mk hst; clear hst
          by_cases ho : u % 2 = 1
          · have e1 : decide (bits .and .u32 u 1 = 1) = true := by rw [h1]; exact decide_eq_true ho
            have e2 : (bits .and .u32 u 1 == 1) = true := by rw [h1, ho]; rfl
            have e3 : bits .and .u32 u 1 = 1 := by rw [h1]; exact ho
            go_wp2
            refine ⟨⟨_, k + 1, rfl, rfl, by omega, by omega, ⟨?_⟩⟩, by simp only [intOf]; omega⟩
            rw [HST.out]
            unfold bstep
            rw [if_pos ho]
          · have e1 : decide (bits .and .u32 u 1 = 1) = false := by rw [h1]; exact decide_eq_false ho
            have e2 : (bits .and .u32 u 1 == 1) = false := by rw [h1]; simpa using ho
            have e3 : ¬ bits .and .u32 u 1 = 1 := by rw [h1]; exact ho
            go_wp2
            refine ⟨⟨_, k + 1, rfl, rfl, by omega, by omega, ⟨?_⟩⟩, by simp only [intOf]; omega⟩
            rw [HST.out]
            unfold bstep
            rw [if_neg ho]
        · have dy : decide (k < 8) = false := decide_eq_false hy
          have hu8 : u = sstep s c := by
            rw [HU.out, show k.toNat = 8 by omega, bIt_eight t hr.1 hr.2, HTT.out]
            rfl
          have hrg := sstep_range s c
          rw [← hu8] at hrg
          have HU8 := Aside0.mk hu8
          clear hu8
          go_wp2
          refine ⟨⟨_, _, rfl, rfl, by omega, by omega, hrg.1, hrg.2, ⟨?_⟩⟩, by simp only [intOf]; omega⟩
          rw [fold_take l0 i hi0 hx, ← HS.out, ← HC.out, HU8.out]
    · have dx : decide (i < (l0.length : Int)) = false := decide_eq_false hx
      go_wp2
      go_ret
      have hsf : sumF l0 = 4294967295 - s := by
        rw [HS.out, List.take_of_length_le (by omega)]; rfl
      rw [hsf]
      rw [← max_xor s hs0 hs1]
      have hx2 := u32_range IntKind.u32.max s
      have hx3 : wrap64 (bits .xor .u32 IntKind.u32.max s) = bits .xor .u32 IntKind.u32.max s := by simp only [wrap64]; omega
      rw [hx3]
      exact ⟨rfl, rfl⟩

set_option maxHeartbeats 4000000 in
set_option maxRecDepth 100000 in
/-- Bytes in other memory, and others behind them. -/
theorem copied_callsF (A0 A1 : Option Addr) (c0 c1 n0 n1 : Nat) (l0 l1 : List Int) (w : World) (hn0 : l0.length = n0) (hn1 : l1.length = n1)
    (hr0 : Kd.C (Kd.int .u8) w A0 n0 l0) (hr1 : Kd.C (Kd.int .u8) w A1 n1 l1) (hl : n0 + n1 ≤ 140737488355328) :
    Calls Tryd.prog 37 #[.slice A0 n0 c0, .slice A1 n1 c1] w
      fun e w' => ∃ v, e = .returned v ∧ RS w.heap.size w' v (l0 ++ l1) ∧ Below w.heap.size w w' := by
  have HR0 := Aside0.mk hr0; have HR1 := Aside0.mk hr1; have HN0 := Aside0.mk hn0; have HN1 := Aside0.mk hn1
  clear hr0 hr1 hn0 hn1
  have HB := Aside0.mk (below_alloc (Below.refl w.heap.size w) (.cells #[] 5))
  have HO0 : Aside0 (RF w.heap.size (w.alloc (.cells #[] 5)) (.slice (some ⟨w.heap.size, 0, none⟩) 0 0) [] []) := ⟨.inr ⟨w.heap.size, rfl, Nat.le_refl _, (MapKept.heap_alloc w _).1, by simp, by simp⟩⟩
  go_enter Tryd.func37, Tryd.ntmps37
  go_wp2_with (first | ((with_reducible refine gate_builtin (b := .append) (xs := #[.tmp 5, .tmp 6]) rfl ?_); at_builtin; refine wp_rf_rows (w0 := w) w.heap.size rfl (.tmp 5) (.tmp 6) rfl _ [] [] l0 _ _ _ rfl rfl HO0.out (Kd.C_below HR0.out HB.out) HB.out (below_size HB.out) (by simp; omega) ?_; intro v1 w1 sp1 ho hb hg; have HO1 := Aside0.mk ho; clear HB; have HB := Aside0.mk hb; clear ho hb hg) | ((with_reducible refine gate_builtin (b := .append) (xs := #[.tmp 7, .tmp 8]) rfl ?_); at_builtin; refine wp_rf_rows (w0 := w) w.heap.size rfl (.tmp 7) (.tmp 8) rfl _ l0 sp1 l1 _ _ _ rfl rfl HO1.out (Kd.C_below HR1.out HB.out) HB.out (below_size HB.out) (by have := HN0.out; omega) ?_; intro v2 w2 sp2 ho hb hg; have HO2 := Aside0.mk ho; clear HB; have HB := Aside0.mk hb; clear ho hb hg))
  go_ret
  exact ⟨_, rfl, ⟨sp2, HO2.out⟩, HB.out⟩
end Go.Proofs.YtcgjaobbjeagoaaDoor
