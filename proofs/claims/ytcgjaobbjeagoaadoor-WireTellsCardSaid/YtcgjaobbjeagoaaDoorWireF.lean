/- wire.Sum. -/
import Derived.Test.YtcgjaobbjeagoaaDoorWireE
namespace Go.Proofs.YtcgjaobbjeagoaaDoor
open Go.RowKit Go.Proofs.YtcgjaobbjeagoaaDoorW.PrintWords Go.Proofs.YtcgjaobbjeagoaaDoorW.PrintLast Go.Proofs.YtcgjaobbjeagoaaDoorW.PrintMore
set_option linter.unusedVariables false
set_option linter.unusedSimpArgs false

def nib : List Int := [0, 498536548, 997073096, 651767980, 1994146192, 1802195444, 1303535960, 1342533948, 3988292384, 4027552580, 3604390888, 3412177804, 2607071920, 2262029012, 2685067896, 3183342108]
/-- The table lies in its block. -/
def Tab (w : World) : Prop := ∀ i : Nat, i < 16 → w.cell? ⟨0, i, none⟩ = some (.int .u32 (nib.getD i 0))
theorem Tab.below {w w' : World} (h : Tab w) (hb : Below w.heap.size w w') : Tab w' := by
  intro i hi
  have hc := h i hi
  exact (hb.cell (World.block_lt_of_cell? w _ hc)).trans hc

def nstep (s : Int) : Int := bits .xor .u32 (s / 16) (nib.getD (bits .and .u32 s 15).toNat 0)
def sstep (s c : Int) : Int := nstep (nstep (bits .xor .u32 s (c % 4294967296)))
def sumF (l : List Int) : Int := 4294967295 - l.foldl sstep 4294967295

theorem u32_range (x y : Int) : 0 ≤ bits .xor .u32 x y ∧ bits .xor .u32 x y < 4294967296 := by
  show 0 ≤ IntKind.u32.wrap ((BitVec.ofInt 32 x ^^^ BitVec.ofInt 32 y).toNat : Int) ∧ IntKind.u32.wrap ((BitVec.ofInt 32 x ^^^ BitVec.ofInt 32 y).toNat : Int) < 4294967296
  rw [IntKind.wrap_u32]
  omega
theorem wraps_u32 (n : Int) (h₀ : 0 ≤ n) (h₁ : n < 2 ^ 32) : IntKind.u32.wrap n = n := by rw [IntKind.wrap_u32]; omega
theorem u32_and15 (x : Int) (h0 : 0 ≤ x) (h1 : x < 4294967296) : bits .and .u32 x 15 = x % 16 := bits_mask .u32 32 (by decide) wraps_u32 4 (by decide) x h0 h1
theorem nib_range (n : Nat) : 0 ≤ nib.getD n 0 ∧ nib.getD n 0 < 4294967296 := by
  by_cases h : n < 16
  · have : ∀ n, n < 16 → 0 ≤ nib.getD n 0 ∧ nib.getD n 0 < 4294967296 := by decide
    exact this n h
  · have h1 : nib.length = 16 := rfl
    have : nib.getD n 0 = 0 := by rw [List.getD_eq_getElem?_getD, List.getElem?_eq_none (by omega)]; rfl
    rw [this]; decide
theorem xor_ones32 (a : Nat) (h : a < 4294967296) : 4294967295 ^^^ a = 4294967295 - a := by
  have e1 : (4294967295 : Nat) = 2 ^ 32 - 1 := by decide
  have e2 : 4294967295 - a = 2 ^ 32 - (a + 1) := by omega
  rw [e2, e1]
  apply Nat.eq_of_testBit_eq
  intro i
  rw [Nat.testBit_xor, Nat.testBit_two_pow_sub_one, Nat.testBit_two_pow_sub_succ (by omega)]
  by_cases hi : i < 32
  · simp [hi]
  · have : a.testBit i = false := Nat.testBit_lt_two_pow (Nat.lt_of_lt_of_le h (by rw [show (4294967296 : Nat) = 2 ^ 32 by decide]; exact Nat.pow_le_pow_right (by decide) (by omega)))
    simp [hi, this]
theorem max_xor (s : Int) (h0 : 0 ≤ s) (h1 : s < 4294967296) : bits .xor .u32 IntKind.u32.max s = 4294967295 - s := by
  obtain ⟨a, rfl⟩ := Int.eq_ofNat_of_zero_le h0
  have := u32_xor_nat 4294967295 a (by omega) (by omega)
  rw [show IntKind.u32.max = ((4294967295 : Nat) : Int) by decide, this, xor_ones32 a (by omega)]
  omega
/-- One look into the table. -/
theorem look {w : World} (hT : Tab w) (x y : Int) : 0 ≤ bits .and .u32 (bits .xor .u32 x y) 15 ∧ bits .and .u32 (bits .xor .u32 x y) 15 < 16 ∧
    w.cell? ⟨0, (bits .and .u32 (bits .xor .u32 x y) 15).toNat, none⟩ = some (.int .u32 (nib.getD (bits .and .u32 (bits .xor .u32 x y) 15).toNat 0)) := by
  have hr := u32_range x y
  have h := u32_and15 _ hr.1 hr.2
  refine ⟨by omega, by omega, hT _ (by omega)⟩
theorem sstep_range (s c : Int) : 0 ≤ sstep s c ∧ sstep s c < 4294967296 := u32_range _ _
theorem fold_range : ∀ (l : List Int) (s : Int), 0 ≤ s → s < 4294967296 → 0 ≤ l.foldl sstep s ∧ l.foldl sstep s < 4294967296
  | [], s, h0, h1 => ⟨h0, h1⟩
  | c :: cs, s, h0, h1 => fold_range cs (sstep s c) (sstep_range s c).1 (sstep_range s c).2
theorem fold_take (l : List Int) (i : Int) (h0 : 0 ≤ i) (h1 : i < l.length) (s : Int) : (l.take (i + 1).toNat).foldl sstep s = sstep ((l.take i.toNat).foldl sstep s) (rd l i) := by
  have hl : i.toNat < l.length := by omega
  have hr : rd l i = l[i.toNat] := by simp [rd, List.getD_eq_getElem?_getD, List.getElem?_eq_getElem hl]
  rw [show (i + 1).toNat = i.toNat + 1 by omega, List.take_succ_eq_append_getElem hl, List.foldl_append, hr]
  rfl

set_option maxHeartbeats 4000000 in
set_option maxRecDepth 100000 in
theorem Sum_calls (A0 : Option Addr) (c0 : Nat) (l0 : List Int) (w : World)
    (hr0 : Kd.C (Kd.int .u8) w A0 l0.length l0) (hl : l0.length ≤ 140737488355328) (hT : Tab w) :
    Calls Tryd.prog 14 #[.slice A0 l0.length c0] w
      fun e w' => e = .returned (.int .i64 (sumF l0)) ∧ w' = w := by
  have HR := Aside0.mk hr0
  have HT := Aside0.mk hT
  clear hr0 hT
  go_enter Tryd.func14, Tryd.ntmps14
  go_wp2
  go_loop [3, 8] (fun vs vi => ∃ (s i : Int), vs = .int .u32 s ∧ vi = .int .i64 i ∧ 0 ≤ i ∧ i ≤ l0.length ∧ 0 ≤ s ∧ s < 4294967296 ∧ s = (l0.take i.toNat).foldl sstep 4294967295) (fun _ vi => (l0.length - intOf vi).toNat)
  case atStart => exact ⟨_, _, rfl, rfl, by omega, by omega, by omega, by omega, rfl⟩
  case round =>
    obtain ⟨s, i, rfl, rfl, hi0, hi1, hs0, hs1, hs⟩ := hrel
    have HS := Aside0.mk hs; clear hs
    by_cases hx : i < l0.length
    · have dx : decide (i < (l0.length : Int)) = true := decide_eq_true hx
      obtain ⟨ad, e, hcell⟩ := Kd.at_int HR.out i hi0 hx
      cases e
      obtain ⟨c, hc⟩ : ∃ c, c = rd l0 i := ⟨_, rfl⟩
      rw [← hc] at hcell
      have HC := Aside0.mk hc; clear hc
      obtain ⟨f0, f1, f2⟩ := look HT.out s (c % 4294967296)
      obtain ⟨T0, hT0⟩ : ∃ T0, T0 = nib.getD (bits .and .u32 (bits .xor .u32 s (c % 4294967296)) 15).toNat 0 := ⟨_, rfl⟩
      rw [← hT0] at f2
      obtain ⟨g0, g1, g2⟩ := look HT.out (bits .xor .u32 s (c % 4294967296) / 16) T0
      obtain ⟨T1, hT1⟩ : ∃ T1, T1 = nib.getD (bits .and .u32 (bits .xor .u32 (bits .xor .u32 s (c % 4294967296) / 16) T0) 15).toNat 0 := ⟨_, rfl⟩
      rw [← hT1] at g2
      have hst : sstep s c = bits .xor .u32 (bits .xor .u32 (bits .xor .u32 s (c % 4294967296) / 16) T0 / 16) T1 := by rw [hT1, hT0]; rfl
      have HST := Aside0.mk hst; clear hst hT0 hT1
      go_wp2
      rw [← HST.out]
      refine ⟨⟨_, _, rfl, rfl, by omega, by omega, (sstep_range s c).1, (sstep_range s c).2, ?_⟩, by simp only [intOf]; omega⟩
      rw [fold_take l0 i hi0 hx, ← HS.out, ← HC.out]
    · have dx : decide (i < (l0.length : Int)) = false := decide_eq_false hx
      go_wp2
      go_ret
      have hsf : sumF l0 = 4294967295 - s := by
        rw [HS.out, List.take_of_length_le (by omega)]; rfl
      rw [hsf]
      rw [← max_xor s hs0 hs1]
      have hx2 := u32_range IntKind.u32.max s
      have hx3 : wrap64 (bits .xor .u32 IntKind.u32.max s) = bits .xor .u32 IntKind.u32.max s := by simp only [wrap64]; omega
      rw [hx3]
      exact ⟨rfl, rfl⟩

theorem sumF_range (l : List Int) : 0 ≤ sumF l ∧ sumF l < 4294967296 := by
  have := fold_range l 4294967295 (by decide) (by decide)
  unfold sumF; omega
def frameF (l : List Int) : List Int := l ++ [sumF l % 256, sumF l / 256 % 256, sumF l / 65536 % 256, sumF l / 16777216]

set_option maxHeartbeats 4000000 in
set_option maxRecDepth 100000 in
theorem Frame_calls (A0 : Option Addr) (c0 : Nat) (l0 : List Int) (w : World)
    (hr0 : Kd.C (Kd.int .u8) w A0 l0.length l0) (hl : l0.length ≤ 140737488355318) (hT : Tab w) :
    Calls Tryd.prog 13 #[.slice A0 l0.length c0] w
      fun e w' => ∃ v, e = .returned v ∧ Kd.R (Kd.int .u8) 5 w' w.heap.size (fun _ => True) v (frameF l0) ∧ Below w.heap.size w w' := by
  have HR := Aside0.mk hr0
  have HT := Aside0.mk hT
  have hs := sumF_range l0
  have hff : frameF l0 = l0 ++ [sumF l0 % 256, sumF l0 / 256 % 256, sumF l0 / 65536 % 256, sumF l0 / 16777216] := rfl
  rw [hff]
  have hc := Sum_calls A0 c0 l0 w hr0 (by omega) hT
  clear hr0 hT hff
  generalize sumF l0 = s at hs hc ⊢
  go_enter Tryd.func13, Tryd.ntmps13
  go_wp2_with fail
  ((with_reducible refine hc.mono ?_); rintro e_ W1 ⟨rfl, rfl⟩)
  clear hc
  go_wp2_with fail
  have hC : Kd.C (Kd.int .u8) (W1.alloc (Obj.cells #[.int .u8 (s % 256), .int .u8 (s / 256 % 256), .int .u8 (s / 65536 % 256), .int .u8 (s / 16777216)] 5)) (some ⟨W1.heap.size, 0, none⟩) 4 [s % 256, s / 256 % 256, s / 65536 % 256, s / 16777216] := C_pre W1 [s % 256, s / 256 % 256, s / 65536 % 256, s / 16777216] [] 5 (by simp) _ rfl
  ((with_reducible refine (concat_two' (W1.heap.size + 1) A0 (some ⟨W1.heap.size, 0, none⟩) c0 4 4 l0 [s % 256, s / 256 % 256, s / 65536 % 256, s / 16777216] _ rfl (pair_cells W1 _ _ _ _).1 (pair_cells W1 _ _ _ _).2 (Kd.C_alloc (Kd.C_alloc HR.out _) _) (Kd.C_alloc hC _) (by omega)).mono ?_); rintro e_ W2 ⟨v0, rfl, ho_, hb_⟩)
  clear hC
  have HO0 := Aside0.mk (Kd.R_lower ho_ (two_below W1 _ _).2); have HB := Aside0.mk (below_step (two_below W1 _ _).1 hb_)
  clear ho_ hb_
  go_wp2
  go_ret
  exact ⟨_, rfl, HO0.out, HB.out⟩
end Go.Proofs.YtcgjaobbjeagoaaDoor
