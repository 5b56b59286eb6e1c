/- The sum of a frame is one number: the plain law; WireRest. -/
import Derived.Test.YtcgjaobbjeagoaaDoorWireG
namespace Go.Proofs.YtcgjaobbjeagoaaDoor
open Go.RowKit Go.Proofs.YtcgjaobbjeagoaaDoorW.PrintWords Go.Proofs.YtcgjaobbjeagoaaDoorW.PrintLast Go.Proofs.YtcgjaobbjeagoaaDoorW.PrintMore
set_option linter.unusedVariables false
set_option linter.unusedSimpArgs false

def nibN (i : Nat) : Nat := (nib.getD i 0).toNat
def nstepN (s : Nat) : Nat := (s / 16) ^^^ nibN (s % 16)
def T8 (x : Nat) : Nat := nstepN (nstepN x)
def sstepN (s c : Nat) : Nat := T8 (s ^^^ c)

theorem nibN_lt (i : Nat) : nibN i < 4294967296 := by
  have := nib_range i
  unfold nibN; omega
theorem nibN_cast (i : Nat) : ((nibN i : Nat) : Int) = nib.getD i 0 := by
  have := nib_range i
  unfold nibN; omega
theorem nstepN_lt (s : Nat) (h : s < 4294967296) : nstepN s < 4294967296 := by
  have h1 := nibN_lt (s % 16)
  exact Nat.xor_lt_two_pow (n := 32) (by omega) (by omega)
theorem nstep_cast (s : Nat) (h : s < 4294967296) : nstep (s : Int) = ((nstepN s : Nat) : Int) := by
  have h15 := u32_and15 (s : Int) (by omega) (by omega)
  unfold nstep
  rw [h15, show ((s : Int) % 16).toNat = s % 16 by omega, ← nibN_cast, show (s : Int) / 16 = ((s / 16 : Nat) : Int) by omega, u32_xor_nat _ _ (by omega) (nibN_lt _)]
  rfl
theorem sstep_cast (s c : Nat) (h : s < 4294967296) (hc : c < 4294967296) : sstep (s : Int) (c : Int) = ((sstepN s c : Nat) : Int) := by
  have hx : s ^^^ c < 4294967296 := Nat.xor_lt_two_pow (n := 32) (by omega) (by omega)
  unfold sstep
  rw [show (c : Int) % 4294967296 = (c : Int) by omega, u32_xor_nat _ _ h hc, nstep_cast _ hx, nstep_cast _ (nstepN_lt _ hx)]
  rfl
theorem sstepN_lt (s c : Nat) (h : s < 4294967296) (hc : c < 4294967296) : sstepN s c < 4294967296 :=
  nstepN_lt _ (nstepN_lt _ (Nat.xor_lt_two_pow (n := 32) (by omega) (by omega)))

theorem xdiv16 (a b : Nat) : (a ^^^ b) / 16 = a / 16 ^^^ b / 16 := Nat.xor_div_two_pow (n := 4)
theorem xmod16 (a b : Nat) : (a ^^^ b) % 16 = a % 16 ^^^ b % 16 := Nat.xor_mod_two_pow (n := 4)
theorem xdiv256 (a b : Nat) : (a ^^^ b) / 256 = a / 256 ^^^ b / 256 := Nat.xor_div_two_pow (n := 8)
theorem xmod256 (a b : Nat) : (a ^^^ b) % 256 = a % 256 ^^^ b % 256 := Nat.xor_mod_two_pow (n := 8)
/-- A step is linear in what lies above the four bits. -/
theorem nstepN_high (h u : Nat) : nstepN (16 * h ^^^ u) = h ^^^ nstepN u := by
  unfold nstepN
  rw [xdiv16, xmod16, show 16 * h / 16 = h by omega, show 16 * h % 16 = 0 by omega, Nat.zero_xor, Nat.xor_assoc]
theorem split16 (y : Nat) : 16 * (y / 16) ^^^ y % 16 = y := by
  have := Nat.two_pow_add_eq_or_of_lt (i := 4) (b := y % 16) (by omega) (y / 16)
  rw [show 2 ^ 4 * (y / 16) + y % 16 = y by omega] at this
  have hx : 2 ^ 4 * (y / 16) ^^^ y % 16 = 2 ^ 4 * (y / 16) ||| y % 16 := by
    apply Nat.eq_of_testBit_eq
    intro i
    rw [Nat.testBit_xor, Nat.testBit_or, Nat.testBit_two_pow_mul, show (16 : Nat) = 2 ^ 4 by rfl, Nat.testBit_mod_two_pow]
    by_cases hi : i < 4
    · have hn : ¬ 4 ≤ i := by omega
      simp [hi, hn]
    · simp [hi]
  rw [show (16 : Nat) * (y / 16) = 2 ^ 4 * (y / 16) by rfl, hx, ← this]
theorem T8_split (y : Nat) : T8 y = y / 256 ^^^ T8 (y % 256) := by
  have h1 : y = 16 * (16 * (y / 256)) ^^^ y % 256 := by
    have := Nat.two_pow_add_eq_or_of_lt (i := 8) (b := y % 256) (by omega) (y / 256)
    rw [show 2 ^ 8 * (y / 256) + y % 256 = y by omega] at this
    have hx : 2 ^ 8 * (y / 256) ^^^ y % 256 = 2 ^ 8 * (y / 256) ||| y % 256 := by
      apply Nat.eq_of_testBit_eq
      intro i
      rw [Nat.testBit_xor, Nat.testBit_or, Nat.testBit_two_pow_mul, show (256 : Nat) = 2 ^ 8 by rfl, Nat.testBit_mod_two_pow]
      by_cases hi : i < 8
      · have hn : ¬ 8 ≤ i := by omega
        simp [hi, hn]
      · simp [hi]
    rw [show 16 * (16 * (y / 256)) = 2 ^ 8 * (y / 256) by omega, hx, ← this]
  show nstepN (nstepN y) = _
  have h2 : nstepN y = 16 * (y / 256) ^^^ nstepN (y % 256) := by
    conv => lhs; rw [h1]
    exact nstepN_high _ _
  rw [h2, nstepN_high]
  rfl
/-- One byte: the state S xor t, where S xor M is K. -/
theorem step_res (S M K t : Nat) (h : S ^^^ M = K) : sstepN (S ^^^ t) (M % 256) = S / 256 ^^^ (t / 256 ^^^ T8 ((K ^^^ t) % 256)) := by
  unfold sstepN
  rw [T8_split, xdiv256, xdiv256, xmod256, show M % 256 / 256 = 0 by omega, Nat.xor_zero, show M % 256 % 256 = M % 256 by omega, ← xmod256, Nat.xor_assoc, show S ^^^ t ^^^ M = K ^^^ t by rw [← h, Nat.xor_assoc, Nat.xor_comm t M, ← Nat.xor_assoc]]
theorem residue (s : Nat) (h : s < 4294967296) :
    sstepN (sstepN (sstepN (sstepN s ((4294967295 - s) % 256)) ((4294967295 - s) / 256 % 256)) ((4294967295 - s) / 65536 % 256)) ((4294967295 - s) / 16777216) = 3736805603 := by
  have hm := xor_ones32 s h
  have hx : s ^^^ (4294967295 - s) = 4294967295 := by
    rw [← hm, Nat.xor_comm 4294967295 s, ← Nat.xor_assoc, Nat.xor_self, Nat.zero_xor]
  generalize hM : 4294967295 - s = m at hx
  have hmlt : m < 4294967296 := by omega
  have e1 := step_res s m 4294967295 0 hx
  rw [Nat.xor_zero] at e1
  have hx1 : s / 256 ^^^ m / 256 = 16777215 := by rw [← xdiv256, hx]
  have hx2 : s / 65536 ^^^ m / 65536 = 65535 := by
    have := xdiv256 (s / 256) (m / 256)
    rw [hx1, Nat.div_div_eq_div_mul, Nat.div_div_eq_div_mul] at this
    exact this.symm
  have hx3 : s / 16777216 ^^^ m / 16777216 = 255 := by
    have := xdiv256 (s / 65536) (m / 65536)
    rw [hx2, Nat.div_div_eq_div_mul, Nat.div_div_eq_div_mul] at this
    exact this.symm
  have e2 := step_res (s / 256) (m / 256) 16777215 (0 / 256 ^^^ T8 ((4294967295 ^^^ 0) % 256)) hx1
  rw [Nat.div_div_eq_div_mul] at e2
  have e3 := step_res (s / 65536) (m / 65536) 65535 ((0 / 256 ^^^ T8 ((4294967295 ^^^ 0) % 256)) / 256 ^^^ T8 ((16777215 ^^^ (0 / 256 ^^^ T8 ((4294967295 ^^^ 0) % 256))) % 256)) hx2
  rw [Nat.div_div_eq_div_mul] at e3
  have e4 := step_res (s / 16777216) (m / 16777216) 255 (((0 / 256 ^^^ T8 ((4294967295 ^^^ 0) % 256)) / 256 ^^^ T8 ((16777215 ^^^ (0 / 256 ^^^ T8 ((4294967295 ^^^ 0) % 256))) % 256)) / 256 ^^^ T8 ((65535 ^^^ ((0 / 256 ^^^ T8 ((4294967295 ^^^ 0) % 256)) / 256 ^^^ T8 ((16777215 ^^^ (0 / 256 ^^^ T8 ((4294967295 ^^^ 0) % 256))) % 256))) % 256)) hx3
  rw [show m / 16777216 % 256 = m / 16777216 by omega] at e4
  rw [e1, e2, e3, e4, show s / 16777216 / 256 = 0 by omega, Nat.zero_xor]
  decide +kernel
theorem sum_frame (l : List Int) : sumF (frameF l) = 558161692 := by
  have hr := fold_range l 4294967295 (by decide) (by decide)
  have hs : sumF l = 4294967295 - l.foldl sstep 4294967295 := rfl
  have hq : sumF (frameF l) = 4294967295 - (frameF l).foldl sstep 4294967295 := rfl
  rw [hq, frameF, List.foldl_append, hs]
  obtain ⟨s, hsv⟩ := Int.eq_ofNat_of_zero_le hr.1
  rw [hsv]
  have hlt : s < 4294967296 := by omega
  have hm : (4294967295 : Int) - (s : Int) = ((4294967295 - s : Nat) : Int) := by omega
  rw [hm]
  have hres := residue s hlt
  generalize hM : 4294967295 - s = m at hres
  have hmlt : m < 4294967296 := by omega
  simp only [List.foldl_cons, List.foldl_nil]
  rw [show (m : Int) % 256 = ((m % 256 : Nat) : Int) by omega, show (m : Int) / 256 % 256 = ((m / 256 % 256 : Nat) : Int) by omega, show (m : Int) / 65536 % 256 = ((m / 65536 % 256 : Nat) : Int) by omega, show (m : Int) / 16777216 = ((m / 16777216 : Nat) : Int) by omega]
  have g1 := sstepN_lt s (m % 256) hlt (by omega)
  have g2 := sstepN_lt _ (m / 256 % 256) g1 (by omega)
  have g3 := sstepN_lt _ (m / 65536 % 256) g2 (by omega)
  rw [sstep_cast _ _ hlt (by omega), sstep_cast _ _ g1 (by omega), sstep_cast _ _ g2 (by omega), sstep_cast _ _ g3 (by omega), hres]
  rfl

set_option maxHeartbeats 4000000 in
set_option maxRecDepth 100000 in
theorem WireRest_calls (A0 : Option Addr) (c0 : Nat) (l0 : List Int) (w : World)
    (hr0 : Kd.C (Kd.int .u8) w A0 l0.length l0) (hl : l0.length ≤ 140737488355318) (hT : Tab w) :
    Calls Tryd.prog 4 #[.slice A0 l0.length c0] w fun e w' => e = .returned (.bool true) ∧ Below w.heap.size w w' := by
  have HT := Aside0.mk hT
  have HR := Aside0.mk hr0
  have hsf := sum_frame l0
  have hfl : (frameF l0).length = l0.length + 4 := by simp [frameF]
  have hc := fun w (h : Kd.C (Kd.int .u8) w A0 l0.length l0) (hT : Tab w) => Frame_calls A0 c0 l0 w h hl hT
  generalize frameF l0 = ff at hsf hfl hc
  have HFL := Aside0.mk hfl
  have HSF := Aside0.mk hsf
  clear hT hr0 hfl hsf
  go_enter Tryd.func4, Tryd.ntmps4
  go_wp2_with fail
  ((with_reducible refine (awake_calls _ HT.out).mono ?_); rintro e_ W1 ⟨rfl, hb_⟩)
  have HB := Aside0.mk hb_; clear hb_
  go_wp2_with fail
  ((with_reducible refine (hc _ (Kd.C_below HR.out HB.out) (HT.out.below HB.out)).mono ?_); rintro e_ W2 ⟨v2, rfl, ho_, hb_⟩)
  clear hc
  have HBn := Aside0.mk (below_step HB.out hb_); clear HB hb_; have HB := HBn; clear HBn
  obtain ⟨A2, c2, e2, _, hC2⟩ := Kd.R_reads ho_
  have hS := Sum_calls A2 c2 ff W2 hC2 (by have := HFL.out; omega) (HT.out.below HB.out)
  rw [HSF.out, HFL.out] at hS
  rw [HFL.out] at e2
  subst e2
  clear ho_ hC2
  have d1 : (((l0.length + 4 : Nat) : Int) == wrap64 ((l0.length : Int) + 4)) = true := beq_iff_eq.mpr (by simp only [wrap64]; omega)
  have d2 : (((l0.length + 4 : Nat) : Int) == (l0.length : Int) + 4) = true := beq_iff_eq.mpr (by omega)
  go_wp2_with fail
  ((with_reducible refine hS.mono ?_); rintro e_ W3 ⟨rfl, rfl⟩)
  go_wp2
  go_ret
  exact ⟨rfl, HB.out⟩
end Go.Proofs.YtcgjaobbjeagoaaDoor
