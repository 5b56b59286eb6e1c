/- Taken together by a program of mine: what the proof names, out of the texts of this seat (its words as the print wrote them), part 2. -/
import Derived.Test.YtbdocgddidcfeaaDoorB1
import Derived.WalkKit
import Derived.WalkLawsBesides
import Derived.Outline
import Derived.Lib.Hide
import Derived.BigQuiet
import Derived.WalkSpells
import Derived.ScopeJumps
import Derived.Laws.DeepNot64
import Derived.Deep.RegionHeld3
import Derived.Laws.CopyRow
import Derived.Laws.IdiomCopy
import Derived.Laws.MakeOwn
import Derived.Deep.WholeRow
import Derived.Lib.AppendStr
import Derived.Laws.StructEq
import Derived.Below
import Derived.Deep.Draws
import Derived.Deep.AppendLies
import Derived.Maps.AppendAt
import Derived.OwnWalk
import Derived.Laws.BytesArg
import Derived.Laws.OwnMore
import Derived.Deep.OwnRows
import Derived.Tactics
import Derived.Lib.ConvBytes
import Derived.Laws.Slices
import Derived.KernelRfl
import Derived.RowKit3
import Derived.Deep.LoopGhost
import Derived.Deep.QuietTactic
import Derived.WideLaws
import Derived.Deep.DeepCutAuto
import Derived.Deep.CutBlock
import Derived.Laws.Rows
import Derived.ArgAppend
import Derived.OrdersHeld
import Derived.Laws.BitsLemmas
import Derived.RowKit
import Derived.MapKept
import Derived.Great.Walk
import Derived.WalkMore
namespace Go.Proofs.YtbdocgddidcfeaaDoor
open Go.RowKit Go.Proofs.YtbdocgddidcfeaaDoorW.PrintWords Go.Proofs.YtbdocgddidcfeaaDoorW.PrintLast Go.Proofs.YtbdocgddidcfeaaDoorW.PrintMore
set_option linter.unusedVariables false
structure Aft (W : World) where
  w : World
  below : Below W.heap.size W w
instance (W : World) : Nonempty (Aft W) := ⟨⟨W, Below.refl _ _⟩⟩
variable {P : Program}
theorem ret_bool {a b : Bool} (h : a = b) : Ending.returned (.bool a) = .returned (.bool b) := by rw [h]
end Go.Proofs.YtbdocgddidcfeaaDoor
namespace Go.Proofs.YtbdocgddidcfeaaDoor
open Go.RowKit Go.Proofs.YtbdocgddidcfeaaDoorW.PrintWords Go.Proofs.YtbdocgddidcfeaaDoorW.PrintLast Go.Proofs.YtbdocgddidcfeaaDoorW.PrintMore
set_option linter.unusedVariables false
set_option linter.unusedSimpArgs false
theorem infoB : (Tryd.prog.info? 5).map (fun i => (i.zero, i.size, i.bytes)) = some (some (.int .u8 0), 1, 1) := by kernel_rfl
end Go.Proofs.YtbdocgddidcfeaaDoor
namespace Go.Proofs.YtbdocgddidcfeaaDoor
open Go.RowKit Go.Proofs.YtbdocgddidcfeaaDoorW.PrintWords Go.Proofs.YtbdocgddidcfeaaDoorW.PrintLast Go.Proofs.YtbdocgddidcfeaaDoorW.PrintMore
set_option linter.unusedVariables false
set_option linter.unusedSimpArgs false
def CRel (n0 n1 : Int) (vs vi : Value) : Prop := (vi = .int .i64 0 ∧ vs = .int .i64 0) ∨ (vi = .int .i64 1 ∧ vs = .int .i64 n0) ∨ (vi = .int .i64 2 ∧ vs = .int .i64 (n0 + n1))
end Go.Proofs.YtbdocgddidcfeaaDoor
namespace Go.Proofs.YtbdocgddidcfeaaDoor
open Go.RowKit Go.Proofs.YtbdocgddidcfeaaDoorW.PrintWords Go.Proofs.YtbdocgddidcfeaaDoorW.PrintLast Go.Proofs.YtbdocgddidcfeaaDoorW.PrintMore
set_option linter.unusedVariables false
set_option linter.unusedSimpArgs false
theorem C_of_cells {w : World} {g : Nat} {xs : List Int} (hl : xs.length ≤ 9223372036854775807)
    (h : ∀ (j : Nat) (x : Int), xs[j]? = some x → w.cell? ⟨g, j, none⟩ = some (.int .u8 x)) :
    Kd.C (Kd.int .u8) w (some ⟨g, 0, none⟩) xs.length xs := by
  refine ⟨rfl, hl, fun _ => ⟨_, rfl, fun j p hj => ⟨[.int .u8 p], rfl, rfl, fun i u hu => ?_⟩⟩⟩
  cases i with
  | zero =>
    simp only [List.getElem?_cons_zero, Option.some.injEq] at hu
    subst hu
    rw [add_plain]
    show w.cell? ⟨g, j * 1 + 0, none⟩ = _
    rw [Nat.mul_one, Nat.add_zero]
    exact h j p hj
  | succ i => simp at hu
theorem C_pre (w : World) (xs : List Int) (rest : List Value) (ty : TypeId) (hl : xs.length ≤ 9223372036854775807) (w1 : World) (hw : w1 = w.alloc (Obj.cells (xs.map (Value.int .u8) ++ rest).toArray ty)) :
    Kd.C (Kd.int .u8) w1 (some ⟨w.heap.size, 0, none⟩) xs.length xs := by
  subst hw
  refine C_of_cells hl (fun j x hx => ?_)
  have hj : j < xs.length := by
    have := List.getElem?_eq_some_iff.1 hx
    exact this.1
  have h1 : (xs.map (Value.int .u8) ++ rest)[j]? = some (.int .u8 x) := by rw [List.getElem?_append_left (by simpa using hj), List.getElem?_map, hx]; rfl
  unfold World.cell?
  rw [(MapKept.heap_alloc w _).1]
  simpa using h1
theorem pair_cells (w : World) (o1 : Obj) (a b : Value) (ty : TypeId) :
    ((w.alloc o1).alloc (Obj.cells #[a, b] ty)).cell? ⟨w.heap.size + 1, 0, none⟩ = some a ∧ ((w.alloc o1).alloc (Obj.cells #[a, b] ty)).cell? ⟨w.heap.size + 1, 1, none⟩ = some b := by
  have h := (MapKept.heap_alloc (w.alloc o1) (Obj.cells #[a, b] ty)).1
  have hs : (w.alloc o1).heap.size = w.heap.size + 1 := by show (w.heap.push o1).size = _; simp
  rw [hs] at h
  unfold World.cell?
  rw [h]
  exact ⟨rfl, rfl⟩
theorem two_below (w : World) (o1 o2 : Obj) : Below w.heap.size w ((w.alloc o1).alloc o2) ∧ w.heap.size ≤ ((w.alloc o1).alloc o2).heap.size := by
  have h : Below w.heap.size w ((w.alloc o1).alloc o2) := below_alloc (below_alloc (Below.refl _ _) _) _
  exact ⟨h, below_size h⟩
end Go.Proofs.YtbdocgddidcfeaaDoor
namespace Go.Proofs.YtbdocgddidcfeaaDoor
open Go.RowKit Go.Proofs.YtbdocgddidcfeaaDoorW.PrintWords Go.Proofs.YtbdocgddidcfeaaDoorW.PrintLast Go.Proofs.YtbdocgddidcfeaaDoorW.PrintMore
set_option linter.unusedVariables false
set_option linter.unusedSimpArgs false
theorem rd_mem {R : List Int} (hb : ∀ x ∈ R, 0 ≤ x ∧ x < 256) {i : Int} (h0 : 0 ≤ i) (h1 : i < R.length) : 0 ≤ rd R i ∧ rd R i < 256 := by
  have hl : i.toNat < R.length := by omega
  have : rd R i = R[i.toNat] := by simp [rd, List.getD_eq_getElem?_getD, List.getElem?_eq_getElem hl]
  rw [this]
  exact hb _ (List.getElem_mem hl)
end Go.Proofs.YtbdocgddidcfeaaDoor
namespace Go.Proofs.YtbdocgddidcfeaaDoor
open Go.RowKit Go.Proofs.YtbdocgddidcfeaaDoorW.PrintWords Go.Proofs.YtbdocgddidcfeaaDoorW.PrintLast Go.Proofs.YtbdocgddidcfeaaDoorW.PrintMore
set_option linter.unusedVariables false
set_option linter.unusedSimpArgs false
end Go.Proofs.YtbdocgddidcfeaaDoor
namespace Go.Proofs.YtbdocgddidcfeaaDoor
open Go.RowKit Go.Proofs.YtbdocgddidcfeaaDoorW.PrintWords Go.Proofs.YtbdocgddidcfeaaDoorW.PrintLast Go.Proofs.YtbdocgddidcfeaaDoorW.PrintMore
set_option linter.unusedVariables false
set_option linter.unusedSimpArgs false
def nib : List Int := [0, 498536548, 997073096, 651767980, 1994146192, 1802195444, 1303535960, 1342533948, 3988292384, 4027552580, 3604390888, 3412177804, 2607071920, 2262029012, 2685067896, 3183342108]
def Tab (w : World) : Prop := ∀ i : Nat, i < 16 → w.cell? ⟨0, i, none⟩ = some (.int .u32 (nib.getD i 0))
theorem Tab.below {w w' : World} (h : Tab w) (hb : Below w.heap.size w w') : Tab w' := by
  intro i hi
  have hc := h i hi
  exact (hb.cell (World.block_lt_of_cell? w _ hc)).trans hc
def nstep (s : Int) : Int := bits .xor .u32 (s / 16) (nib.getD (bits .and .u32 s 15).toNat 0)
def sstep (s c : Int) : Int := nstep (nstep (bits .xor .u32 s (c % 4294967296)))
def sumF (l : List Int) : Int := 4294967295 - l.foldl sstep 4294967295
theorem u32_range (x y : Int) : 0 ≤ bits .xor .u32 x y ∧ bits .xor .u32 x y < 4294967296 := by
  show 0 ≤ IntKind.u32.wrap ((BitVec.ofInt 32 x ^^^ BitVec.ofInt 32 y).toNat : Int) ∧ IntKind.u32.wrap ((BitVec.ofInt 32 x ^^^ BitVec.ofInt 32 y).toNat : Int) < 4294967296
  rw [IntKind.wrap_u32]
  omega
theorem wraps_u32 (n : Int) (h₀ : 0 ≤ n) (h₁ : n < 2 ^ 32) : IntKind.u32.wrap n = n := by rw [IntKind.wrap_u32]; omega
theorem u32_and15 (x : Int) (h0 : 0 ≤ x) (h1 : x < 4294967296) : bits .and .u32 x 15 = x % 16 := bits_mask .u32 32 (by decide) wraps_u32 4 (by decide) x h0 h1
theorem nib_range (n : Nat) : 0 ≤ nib.getD n 0 ∧ nib.getD n 0 < 4294967296 := by
  by_cases h : n < 16
  · have : ∀ n, n < 16 → 0 ≤ nib.getD n 0 ∧ nib.getD n 0 < 4294967296 := by decide
    exact this n h
  · have h1 : nib.length = 16 := rfl
    have : nib.getD n 0 = 0 := by rw [List.getD_eq_getElem?_getD, List.getElem?_eq_none (by omega)]; rfl
    rw [this]; decide
theorem xor_ones32 (a : Nat) (h : a < 4294967296) : 4294967295 ^^^ a = 4294967295 - a := by
  have e1 : (4294967295 : Nat) = 2 ^ 32 - 1 := by decide
  have e2 : 4294967295 - a = 2 ^ 32 - (a + 1) := by omega
  rw [e2, e1]
  apply Nat.eq_of_testBit_eq
  intro i
  rw [Nat.testBit_xor, Nat.testBit_two_pow_sub_one, Nat.testBit_two_pow_sub_succ (by omega)]
  by_cases hi : i < 32
  · simp [hi]
  · have : a.testBit i = false := Nat.testBit_lt_two_pow (Nat.lt_of_lt_of_le h (by rw [show (4294967296 : Nat) = 2 ^ 32 by decide]; exact Nat.pow_le_pow_right (by decide) (by omega)))
    simp [hi, this]
theorem max_xor (s : Int) (h0 : 0 ≤ s) (h1 : s < 4294967296) : bits .xor .u32 IntKind.u32.max s = 4294967295 - s := by
  obtain ⟨a, rfl⟩ := Int.eq_ofNat_of_zero_le h0
  have := u32_xor_nat 4294967295 a (by omega) (by omega)
  rw [show IntKind.u32.max = ((4294967295 : Nat) : Int) by decide, this, xor_ones32 a (by omega)]
  omega
theorem look {w : World} (hT : Tab w) (x y : Int) : 0 ≤ bits .and .u32 (bits .xor .u32 x y) 15 ∧ bits .and .u32 (bits .xor .u32 x y) 15 < 16 ∧
    w.cell? ⟨0, (bits .and .u32 (bits .xor .u32 x y) 15).toNat, none⟩ = some (.int .u32 (nib.getD (bits .and .u32 (bits .xor .u32 x y) 15).toNat 0)) := by
  have hr := u32_range x y
  have h := u32_and15 _ hr.1 hr.2
  refine ⟨by omega, by omega, hT _ (by omega)⟩
theorem sstep_range (s c : Int) : 0 ≤ sstep s c ∧ sstep s c < 4294967296 := u32_range _ _
theorem fold_range : ∀ (l : List Int) (s : Int), 0 ≤ s → s < 4294967296 → 0 ≤ l.foldl sstep s ∧ l.foldl sstep s < 4294967296
  | [], s, h0, h1 => ⟨h0, h1⟩
  | c :: cs, s, h0, h1 => fold_range cs (sstep s c) (sstep_range s c).1 (sstep_range s c).2
theorem fold_take (l : List Int) (i : Int) (h0 : 0 ≤ i) (h1 : i < l.length) (s : Int) : (l.take (i + 1).toNat).foldl sstep s = sstep ((l.take i.toNat).foldl sstep s) (rd l i) := by
  have hl : i.toNat < l.length := by omega
  have hr : rd l i = l[i.toNat] := by simp [rd, List.getD_eq_getElem?_getD, List.getElem?_eq_getElem hl]
  rw [show (i + 1).toNat = i.toNat + 1 by omega, List.take_succ_eq_append_getElem hl, List.foldl_append, hr]
  rfl
set_option maxHeartbeats 4000000 in
set_option maxRecDepth 100000 in
theorem Sum_calls (A0 : Option Addr) (c0 : Nat) (l0 : List Int) (w : World)
    (hr0 : Kd.C (Kd.int .u8) w A0 l0.length l0) (hl : l0.length ≤ 140737488355328) (hT : Tab w) :
    Calls Tryd.prog 36 #[.slice A0 l0.length c0] w
      fun e w' => e = .returned (.int .i64 (sumF l0)) ∧ w' = w := by
  have HR := Aside0.mk hr0
  have HT := Aside0.mk hT
  clear hr0 hT
  go_enter Tryd.func36, Tryd.ntmps36
  go_wp2
  go_loop [3, 8] (fun vs vi => ∃ (s i : Int), vs = .int .u32 s ∧ vi = .int .i64 i ∧ 0 ≤ i ∧ i ≤ l0.length ∧ 0 ≤ s ∧ s < 4294967296 ∧ s = (l0.take i.toNat).foldl sstep 4294967295) (fun _ vi => (l0.length - intOf vi).toNat)
  case atStart => exact ⟨_, _, rfl, rfl, by omega, by omega, by omega, by omega, rfl⟩
  case round =>
    obtain ⟨s, i, rfl, rfl, hi0, hi1, hs0, hs1, hs⟩ := hrel
    have HS := Aside0.mk hs; clear hs
    by_cases hx : i < l0.length
    · have dx : decide (i < (l0.length : Int)) = true := decide_eq_true hx
      obtain ⟨ad, e, hcell⟩ := Kd.at_int HR.out i hi0 hx
      cases e
      obtain ⟨c, hc⟩ : ∃ c, c = rd l0 i := ⟨_, rfl⟩
      rw [← hc] at hcell
      have HC := Aside0.mk hc; clear hc
      obtain ⟨f0, f1, f2⟩ := look HT.out s (c % 4294967296)
      obtain ⟨T0, hT0⟩ : ∃ T0, T0 = nib.getD (bits .and .u32 (bits .xor .u32 s (c % 4294967296)) 15).toNat 0 := ⟨_, rfl⟩
      rw [← hT0] at f2
      obtain ⟨g0, g1, g2⟩ := look HT.out (bits .xor .u32 s (c % 4294967296) / 16) T0
      obtain ⟨T1, hT1⟩ : ∃ T1, T1 = nib.getD (bits .and .u32 (bits .xor .u32 (bits .xor .u32 s (c % 4294967296) / 16) T0) 15).toNat 0 := ⟨_, rfl⟩
      rw [← hT1] at g2
      have hst : sstep s c = bits .xor .u32 (bits .xor .u32 (bits .xor .u32 s (c % 4294967296) / 16) T0 / 16) T1 := by rw [hT1, hT0]; rfl
      have HST := Aside0.mk hst; clear hst hT0 hT1
      go_wp2
      rw [← HST.out]
      refine ⟨⟨_, _, rfl, rfl, by omega, by omega, (sstep_range s c).1, (sstep_range s c).2, ?_⟩, by simp only [intOf]; omega⟩
      rw [fold_take l0 i hi0 hx, ← HS.out, ← HC.out]
    · have dx : decide (i < (l0.length : Int)) = false := decide_eq_false hx
      go_wp2
      go_ret
      have hsf : sumF l0 = 4294967295 - s := by
        rw [HS.out, List.take_of_length_le (by omega)]; rfl
      rw [hsf]
      rw [← max_xor s hs0 hs1]
      have hx2 := u32_range IntKind.u32.max s
      have hx3 : wrap64 (bits .xor .u32 IntKind.u32.max s) = bits .xor .u32 IntKind.u32.max s := by simp only [wrap64]; omega
      rw [hx3]
      exact ⟨rfl, rfl⟩
theorem sumF_range (l : List Int) : 0 ≤ sumF l ∧ sumF l < 4294967296 := by
  have := fold_range l 4294967295 (by decide) (by decide)
  unfold sumF; omega
def frameF (l : List Int) : List Int := l ++ [sumF l % 256, sumF l / 256 % 256, sumF l / 65536 % 256, sumF l / 16777216]
end Go.Proofs.YtbdocgddidcfeaaDoor
namespace Go.Proofs.YtbdocgddidcfeaaDoor
open Go.RowKit Go.Proofs.YtbdocgddidcfeaaDoorW.PrintWords Go.Proofs.YtbdocgddidcfeaaDoorW.PrintLast Go.Proofs.YtbdocgddidcfeaaDoorW.PrintMore
set_option linter.unusedVariables false
set_option linter.unusedSimpArgs false
def nibN (i : Nat) : Nat := (nib.getD i 0).toNat
def nstepN (s : Nat) : Nat := (s / 16) ^^^ nibN (s % 16)
theorem nibN_lt (i : Nat) : nibN i < 4294967296 := by
  have := nib_range i
  unfold nibN; omega
theorem nibN_cast (i : Nat) : ((nibN i : Nat) : Int) = nib.getD i 0 := by
  have := nib_range i
  unfold nibN; omega
theorem nstepN_lt (s : Nat) (h : s < 4294967296) : nstepN s < 4294967296 := by
  have h1 := nibN_lt (s % 16)
  exact Nat.xor_lt_two_pow (n := 32) (by omega) (by omega)
theorem nstep_cast (s : Nat) (h : s < 4294967296) : nstep (s : Int) = ((nstepN s : Nat) : Int) := by
  have h15 := u32_and15 (s : Int) (by omega) (by omega)
  unfold nstep
  rw [h15, show ((s : Int) % 16).toNat = s % 16 by omega, ← nibN_cast, show (s : Int) / 16 = ((s / 16 : Nat) : Int) by omega, u32_xor_nat _ _ (by omega) (nibN_lt _)]
  rfl
theorem split16 (y : Nat) : 16 * (y / 16) ^^^ y % 16 = y := by
  have := Nat.two_pow_add_eq_or_of_lt (i := 4) (b := y % 16) (by omega) (y / 16)
  rw [show 2 ^ 4 * (y / 16) + y % 16 = y by omega] at this
  have hx : 2 ^ 4 * (y / 16) ^^^ y % 16 = 2 ^ 4 * (y / 16) ||| y % 16 := by
    apply Nat.eq_of_testBit_eq
    intro i
    rw [Nat.testBit_xor, Nat.testBit_or, Nat.testBit_two_pow_mul, show (16 : Nat) = 2 ^ 4 by rfl, Nat.testBit_mod_two_pow]
    by_cases hi : i < 4
    · have hn : ¬ 4 ≤ i := by omega
      simp [hi, hn]
    · simp [hi]
  rw [show (16 : Nat) * (y / 16) = 2 ^ 4 * (y / 16) by rfl, hx, ← this]
end Go.Proofs.YtbdocgddidcfeaaDoor
namespace Go.Proofs.YtbdocgddidcfeaaDoor
open Go.RowKit Go.Proofs.YtbdocgddidcfeaaDoorW.PrintWords Go.Proofs.YtbdocgddidcfeaaDoorW.PrintLast Go.Proofs.YtbdocgddidcfeaaDoorW.PrintMore
set_option linter.unusedVariables false
set_option linter.unusedSimpArgs false
theorem app_range {a b : List Int} (ha : ∀ x ∈ a, 0 ≤ x ∧ x < 256) (hb : ∀ x ∈ b, 0 ≤ x ∧ x < 256) : ∀ x ∈ a ++ b, 0 ≤ x ∧ x < 256 := by
  intro x hx
  rcases List.mem_append.1 hx with h | h
  · exact ha x h
  · exact hb x h
end Go.Proofs.YtbdocgddidcfeaaDoor
namespace Go.Proofs.YtbdocgddidcfeaaDoor
open Go.RowKit Go.Proofs.YtbdocgddidcfeaaDoorW.PrintWords Go.Proofs.YtbdocgddidcfeaaDoorW.PrintLast Go.Proofs.YtbdocgddidcfeaaDoorW.PrintMore
set_option linter.unusedVariables false
set_option linter.unusedSimpArgs false
def val : List Int → Int
  | [] => 0
  | c :: cs => c % 128 + 128 * val cs
theorem rd_get {l : List Int} {i : Nat} (h : i < l.length) : rd l (i : Int) = l[i] := by
  simp [rd, List.getD_eq_getElem?_getD, List.getElem?_eq_getElem h]
end Go.Proofs.YtbdocgddidcfeaaDoor
namespace Go.Proofs.YtbdocgddidcfeaaDoor
open Go.RowKit Go.Proofs.YtbdocgddidcfeaaDoorW.PrintWords Go.Proofs.YtbdocgddidcfeaaDoorW.PrintLast Go.Proofs.YtbdocgddidcfeaaDoorW.PrintMore
set_option linter.unusedVariables false
set_option linter.unusedSimpArgs false
theorem made_one (z : Value) (n : Nat) : madeCells #[z] n = (List.replicate n z).toArray := by
  apply Array.ext
  · simp [madeCells]
  · intro i h1 h2
    simp [madeCells, Nat.mod_one]
theorem infoS : (Tryd.prog.info? 5).map (·.size) = some 1 := by kernel_rfl
theorem lent_copy (w : World) (A0 : Option Addr) (c0 : Nat) (l0 : List Int) (hr : Kd.C (Kd.int .u8) w A0 l0.length l0) :
    (Builtin.copy_ #[30, 30] 3 #[.slice (some ⟨w.heap.size, 0, none⟩) l0.length (l0.length + 3), .slice A0 l0.length c0]).run Tryd.prog (w.alloc (.cells (madeCells #[.int .u8 0] (l0.length + 3)) 5)) =
      .ok (goInt l0.length) (w.alloc (.cells (l0.map (Value.int .u8) ++ [Value.int .u8 0, Value.int .u8 0, Value.int .u8 0]).toArray 5)) := by
  rw [made_one]
  by_cases h0 : l0.length = 0
  · have hnil : l0 = [] := List.eq_nil_of_length_eq_zero h0
    subst hnil
    have h := run_copy_none (P := Tryd.prog) (w.alloc (.cells (List.replicate 3 (Value.int .u8 0)).toArray 5)) 30 30 3 5 (some ⟨w.heap.size, 0, none⟩) A0 0 3 0 c0 Tryd.underlying30 infoS (by simp)
    exact h
  · have hrd := Kd.C_alloc hr (.cells (List.replicate (l0.length + 3) (Value.int .u8 0)).toArray 5)
    obtain ⟨ad, hA, _⟩ := hr.2.2 (by omega)
    subst hA
    have hsrc : ∀ j v, (l0.map (Value.int .u8))[j]? = some v → (w.alloc (.cells (List.replicate (l0.length + 3) (Value.int .u8 0)).toArray 5)).cell? (ad.add j) = some v := by
      intro j v hj
      obtain ⟨x, hx, rfl⟩ : ∃ x, l0[j]? = some x ∧ v = .int .u8 x := by
        rw [List.getElem?_map] at hj
        cases hg : l0[j]? with
        | none => rw [hg] at hj; simp at hj
        | some x => rw [hg] at hj; simp at hj; exact ⟨x, rfl, hj.symm⟩
      have hjl : j < l0.length := (List.getElem?_eq_some_iff.1 hx).1
      obtain ⟨ad2, e, hc⟩ := Kd.at_int hrd (j : Int) (by omega) (by omega)
      cases e
      rw [Int.toNat_natCast, rd_get hjl] at hc
      rw [hc]
      have := (List.getElem?_eq_some_iff.1 hx).2
      rw [this]
    have h := run_copy_row (P := Tryd.prog) (w.alloc (.cells (List.replicate (l0.length + 3) (Value.int .u8 0)).toArray 5)) 30 30 3 5 w.heap.size 0 l0.length (l0.length + 3) ad l0.length c0 _ 5 (l0.map (Value.int .u8)) Tryd.underlying30 infoS (MapKept.heap_alloc w _).1 (by simp) hsrc (by simp) (by intro v hv; obtain ⟨x, _, rfl⟩ := List.mem_map.1 hv; rfl)
    rw [List.length_map] at h
    rw [h, World.setRow_alloc_new]
    congr 4
    simp
def spareC (l0 : List Int) (k : Nat) : Array Value := (l0.map (Value.int .u8) ++ (List.replicate k (Value.int .u8 77) ++ List.replicate (3 - k) (Value.int .u8 0))).toArray
theorem spare_at (l0 : List Int) (k : Nat) (hk : k < 3) : (spareC l0 k)[l0.length + k]? = some (.int .u8 0) ∧ (spareC l0 k).setIfInBounds (l0.length + k) (.int .u8 77) = spareC l0 (k + 1) := by
  have h3 : k = 0 ∨ k = 1 ∨ k = 2 := by omega
  constructor
  · rcases h3 with rfl | rfl | rfl <;> simp [spareC, List.getElem?_append_right]
  · have hl : (l0.map (Value.int .u8)).length = l0.length := by simp
    unfold spareC
    rw [List.setIfInBounds_toArray, List.set_append_right _ _ (by rw [hl]; omega), hl]
    congr 2
    rcases h3 with rfl | rfl | rfl <;> simp [List.replicate, List.set]
set_option maxHeartbeats 4000000 in
set_option maxRecDepth 100000 in
theorem Lent_calls (A0 : Option Addr) (c0 : Nat) (l0 : List Int) (w : World)
    (hr0 : Kd.C (Kd.int .u8) w A0 l0.length l0) (hl : l0.length ≤ 140737488355318) :
    Calls Tryd.prog 31 #[.slice A0 l0.length c0] w
      fun e w' => ∃ g, e = .returned (.slice (some ⟨g, 0, none⟩) l0.length (l0.length + 3)) ∧ w.heap.size ≤ g ∧ w'.heap[g]? = some (.cells (l0.map (Value.int .u8) ++ [Value.int .u8 77, Value.int .u8 77, Value.int .u8 77]).toArray 5 (0, 0)) ∧ Below w.heap.size w w' := by
  have HR := Aside0.mk hr0
  clear hr0
  obtain ⟨n, hn⟩ : ∃ n, n = l0.length := ⟨_, rfl⟩
  rw [← hn] at hl ⊢
  have HN := Aside0.mk hn; clear hn
  have hmk : ∀ W : World, (Instr.makeSlice 30 (.int .i64 (n : Int)) (.int .i64 ((n : Int) + 3))).run Tryd.prog W = .ok (.slice (some ⟨W.heap.size, 0, none⟩) n (n + 3)) (W.alloc (.cells (madeCells #[.int .u8 0] (n + 3)) 5)) := by
    intro W
    obtain ⟨i0, hi0, hz0, hsz0, hby⟩ := info_parts infoB
    have h := run_make (P := Tryd.prog) W 30 5 i0 (.int .u8 0) Tryd.underlying30 hi0 hz0 .i64 .i64 (n : Int) ((n : Int) + 3) (by omega) (by omega) (by rw [hby]; omega) (by omega)
    rw [hsz0, Nat.mul_one, show ((n : Int) + 3).toNat = n + 3 by omega, Int.toNat_natCast] at h
    exact h
  go_enter Tryd.func31, Tryd.ntmps31
  have hcp := lent_copy w A0 c0 l0 HR.out
  rw [← HN.out] at hcp
  go_wp2
  go_loopw [5] (fun v5 wr => ∃ i : Int, v5 = .int .i64 i ∧ (n : Int) ≤ i ∧ i ≤ (n : Int) + 3 ∧ Aside0 (wr.heap[w.heap.size]? = some (.cells (spareC l0 (i - (n : Int)).toNat) 5 (0, 0))) ∧ Aside0 (Below w.heap.size w wr)) (fun v5 _ => ((n : Int) + 3 - intOf v5).toNat)
  case atStart => exact ⟨_, rfl, by omega, by omega, ⟨by rw [show ((n : Int) - (n : Int)).toNat = 0 by omega]; exact (MapKept.heap_alloc w _).1⟩, ⟨below_alloc (Below.refl _ _) _⟩⟩
  case round =>
    obtain ⟨i, rfl, hi0, hi1, BK, HB⟩ := hrel
    by_cases hx : i < (n : Int) + 3
    · have dx : decide (i < (n : Int) + 3) = true := decide_eq_true hx
      obtain ⟨f1, f2⟩ := spare_at l0 (i - (n : Int)).toNat (by omega)
      rw [← HN.out, show n + (i - (n : Int)).toNat = i.toNat by omega] at f1 f2
      rw [show (i - (n : Int)).toNat + 1 = (i + 1 - (n : Int)).toNat by omega] at f2
      have hcl := (blk_cell BK.out i.toNat).trans f1
      have hfr := blk_frozen BK.out i.toNat
      have BK2 := Aside0.mk (blk_put BK.out i.toNat (.int .u8 77) f2)
      have HB2 := Aside0.mk (below_set HB.out (g := w.heap.size) (j := i.toNat) (v := .int .u8 77) (Nat.le_refl _))
      clear f1 f2
      go_wp2
      exact ⟨⟨i + 1, rfl, by omega, by omega, BK2, HB2⟩, by simp only [intOf]; omega⟩
    · have dx : decide (i < (n : Int) + 3) = false := decide_eq_false hx
      have hie : (i - (n : Int)).toNat = 3 := by omega
      rw [hie] at BK
      go_wp2
      go_ret
      exact ⟨_, rfl, Nat.le_refl _, by rw [BK.out]; rfl, HB.out⟩
end Go.Proofs.YtbdocgddidcfeaaDoor
namespace Go.Proofs.YtbdocgddidcfeaaDoor
open Go.RowKit Go.Proofs.YtbdocgddidcfeaaDoorW.PrintWords Go.Proofs.YtbdocgddidcfeaaDoorW.PrintLast Go.Proofs.YtbdocgddidcfeaaDoorW.PrintMore
set_option linter.unusedVariables false
set_option linter.unusedSimpArgs false
theorem spare3_lo (l0 : List Int) (i : Nat) (h : i < l0.length) : (spareC l0 3)[i]? = some (.int .u8 (rd l0 (i : Int))) := by
  simp [spareC, List.getElem?_append_left, h, rd_get h]
theorem spare3_hi (l0 : List Int) (i : Nat) (h : l0.length ≤ i) (h2 : i < l0.length + 3) : (spareC l0 3)[i]? = some (.int .u8 77) := by
  have : i = l0.length + 0 ∨ i = l0.length + 1 ∨ i = l0.length + 2 := by omega
  rcases this with rfl | rfl | rfl <;> simp [spareC, List.getElem?_append_right, List.replicate]
end Go.Proofs.YtbdocgddidcfeaaDoor
namespace Go.Proofs.YtbdocgddidcfeaaDoor
open Go.RowKit Go.Proofs.YtbdocgddidcfeaaDoorW.PrintWords Go.Proofs.YtbdocgddidcfeaaDoorW.PrintLast Go.Proofs.YtbdocgddidcfeaaDoorW.PrintMore
set_option linter.unusedVariables false
set_option linter.unusedSimpArgs false
def RF (base : Nat) (w : World) (v : Value) (xs sp : List Int) : Prop :=
  (v = .slice none 0 0 ∧ xs = [] ∧ sp = []) ∨
  ∃ g, v = .slice (some ⟨g, 0, none⟩) xs.length (xs.length + sp.length) ∧ base ≤ g ∧ w.heap[g]? = some (.cells ((xs ++ sp).map (Value.int .u8)).toArray 5 (0, 0)) ∧
    xs.length + sp.length ≤ maxLen ∧ ∀ x ∈ sp, 0 ≤ x ∧ x < 256
theorem RF.nil (base : Nat) (w : World) : RF base w (.slice none 0 0) [] [] := .inl ⟨rfl, rfl, rfl⟩
theorem RF.lower {base base' : Nat} {w : World} {v : Value} {xs sp : List Int} (h : RF base w v xs sp) (hb : base' ≤ base) : RF base' w v xs sp := by
  rcases h with h | ⟨g, h1, h2, h3⟩
  · exact .inl h
  · exact .inr ⟨g, h1, Nat.le_trans hb h2, h3⟩
theorem RF.below {base : Nat} {w w1 : World} {v : Value} {xs sp : List Int} (h : RF base w v xs sp) (hb : Below w.heap.size w w1) : RF base w1 v xs sp := by
  rcases h with h | ⟨g, h1, h2, h3, h4⟩
  · exact .inl h
  · refine .inr ⟨g, h1, h2, ?_, h4⟩
    rw [hb.block g (Array.getElem?_eq_some_iff.1 h3).1]
    exact h3
theorem RF.R {base : Nat} {w : World} {v : Value} {xs sp : List Int} (h : RF base w v xs sp) : Kd.R (Kd.int .u8) 5 w base (fun _ => True) v xs := by
  refine Kd.R_of_own (h1 := fun _ => rfl) (ok := fun _ => True) ?_ (fun _ _ => trivial)
  rcases h with ⟨rfl, rfl, rfl⟩ | ⟨g, rfl, h2, h3, h4, h5⟩
  · exact World.ownsRow_nil _ _ _ _
  · refine ⟨by simp [encs], .inr ⟨g, _, _, rfl, h2, h3, by omega, h4, by simp, ?_⟩⟩
    have : ((xs ++ sp).map (Value.int .u8)).toArray.toList.take (xs.length * 1) = encs (Value.int .u8) xs := by
      rw [Nat.mul_one]
      show ((xs ++ sp).map (Value.int .u8)).take xs.length = _
      rw [List.map_append, List.take_left' (by simp)]
      rfl
    exact this
theorem zeros_one (n : Nat) : Builtin.zeroCells #[.int .u8 0] n = ((List.replicate n (0 : Int)).map (Value.int .u8)).toArray := by
  apply Array.ext
  · simp [Builtin.zeroCells]
  · intro i h1 h2
    simp [Builtin.zeroCells, Nat.mod_one]
theorem zeros_range (n : Nat) : ∀ x ∈ List.replicate n (0 : Int), 0 ≤ x ∧ x < 256 := by
  intro x hx
  obtain rfl := (List.mem_replicate.1 hx).2
  decide
theorem alloc_grown (w : World) (o : Obj) (row : Option Nat) : w.grownBy (w.drew.alloc o) row := ⟨rfl, rfl, rfl, by simp, fun k hk _ => heap_alloc_old w.drew _ hk⟩
theorem setRow_grown (w : World) (g : Nat) (cs : Array Value) : w.grownBy (w.setRow g cs) (some g) := ⟨rfl, rfl, rfl, by simp, fun k hk hne => setRow_other w g k _ (fun e => hne (by rw [e]))⟩
theorem rd_get' {l : List Int} {i : Nat} (h : i < l.length) : rd l (i : Int) = l[i] := by
  unfold rd
  rw [Int.toNat_natCast]
  simp [h]
theorem C_cells {w : World} {ad : Addr} {m : Nat} {ys : List Int} (hr : Kd.C (Kd.int .u8) w (some ad) m ys) (hm : m = ys.length) :
    ∀ j v, (ys.map (Value.int .u8))[j]? = some v → w.cell? (ad.add j) = some v := by
  intro j v hj
  obtain ⟨x, hx, rfl⟩ : ∃ x, ys[j]? = some x ∧ v = .int .u8 x := by
    rw [List.getElem?_map] at hj
    cases hg : ys[j]? with
    | none => rw [hg] at hj; simp at hj
    | some x => rw [hg] at hj; simp at hj; exact ⟨x, rfl, hj.symm⟩
  have hjl : j < ys.length := (List.getElem?_eq_some_iff.1 hx).1
  obtain ⟨ad2, e, hc⟩ := Kd.at_int hr (j : Int) (by omega) (by omega)
  cases e
  rw [Int.toNat_natCast, rd_get' hjl] at hc
  rw [hc, (List.getElem?_eq_some_iff.1 hx).2]
theorem C_none {w : World} {m : Nat} {ys : List Int} (hr : Kd.C (Kd.int .u8) w none m ys) : m = 0 := by
  rcases Nat.eq_zero_or_pos m with h0 | h0
  · exact h0
  · obtain ⟨ad, h, _⟩ := hr.2.2 h0
    cases h
theorem RF.laid {base : Nat} {w : World} (xs : List Int) (c : Nat) (hb : base ≤ w.heap.size) (hc : xs.length ≤ c) (hm : c ≤ maxLen) (cs : Array Value)
    (hcs : cs = (xs.map (Value.int .u8)).toArray ++ ((List.replicate (c - xs.length) (0 : Int)).map (Value.int .u8)).toArray) :
    RF base (w.drew.alloc (.cells cs 5)) (.slice (some ⟨w.heap.size, 0, none⟩) xs.length c) xs (List.replicate (c - xs.length) 0) := by
  subst hcs
  refine .inr ⟨w.heap.size, by simp; omega, hb, ?_, by simp; omega, zeros_range _⟩
  have he : ((xs ++ List.replicate (c - xs.length) 0).map (Value.int .u8)).toArray = (xs.map (Value.int .u8)).toArray ++ ((List.replicate (c - xs.length) (0 : Int)).map (Value.int .u8)).toArray := by simp
  rw [he]
  exact heap_alloc_new w.drew _
theorem rf_rows (base : Nat) (w : World) (ty : TypeId) (v : Value) (xs sp : List Int) (h : RF base w v xs sp) (A : Option Addr) (m c : Nat) (ys : List Int) (hr : Kd.C (Kd.int .u8) w A m ys) (hl : xs.length + m ≤ 140737488355328) (hb : base ≤ w.heap.size) :
    ∃ v1 w1 sp1, (Builtin.append_ #[30, 30] ty #[v, .slice A m c]).run Tryd.prog w = .ok v1 w1 ∧ RF base w1 v1 (xs ++ ys) sp1 ∧ w.grownBy w1 v.ownBlock := by
  obtain ⟨i0, hi0, hz0, hsz0, hby0⟩ := info_parts infoB
  have hu := Tryd.underlying30
  have hm : m = ys.length := hr.1.symm
  by_cases h0 : m = 0
  · subst h0
    obtain rfl : ys = [] := List.eq_nil_of_length_eq_zero hm.symm
    refine ⟨v, w, sp, ?_, by rw [List.append_nil]; exact h, World.grownBy.refl w _⟩
    rcases h with ⟨rfl, rfl, rfl⟩ | ⟨g, rfl, h2, h3, h4, h5⟩
    · cases A <;> simp [Builtin.append_, run_underlying hu, sizeOf, typeInfo, hi0, Builtin.lenOf, Builtin.firstCells, loadCells, loadCellsFrom]
    · cases A <;> simp [Builtin.append_, run_underlying hu, sizeOf, typeInfo, hi0, Builtin.lenOf, Builtin.firstCells, storeCells, loadCells, loadCellsFrom]
  · cases A with
    | none => exact absurd (C_none hr) h0
    | some ad =>
      have hnews := C_cells hr hm
      have hone : ∀ u ∈ ys.map (Value.int .u8), u.oneCell' = true := by
        intro u hu
        obtain ⟨x, _, rfl⟩ := List.mem_map.1 hu
        rfl
      have hnl : (ys.map (Value.int .u8)).length = m * i0.size := by rw [hsz0, Nat.mul_one, List.length_map, hm]
      rcases h with ⟨rfl, rfl, rfl⟩ | ⟨g, rfl, h2, h3, h4, h5⟩
      · have hrun := run_append_nil (P := Tryd.prog) w 30 ty 5 i0 (.int .u8 0) hu hi0 hz0 ad m c _ hnl hnews (by omega) (by simp at hl; omega) (by rw [hby0]; simp at hl; omega)
        have hge := grownCap_ge w m 0 5
        have hcm := grownCap_le_maxLen w m 0 5 (by simp only [maxLen]; simp at hl; omega)
        refine ⟨_, _, List.replicate (grownCap w m 0 5 - m) 0, hrun, ?_, alloc_grown w _ _⟩
        rw [List.nil_append]
        generalize grownCap w m 0 5 = cc at *
        subst hm
        exact RF.laid (w := w) ys cc hb hge hcm _ (by rw [← zeros_one]; rfl)
      · by_cases hroom : xs.length + m ≤ xs.length + sp.length
        · have hrun := run_append_room (P := Tryd.prog) w 30 ty 5 i0 hu hi0 g xs.length (xs.length + sp.length) _ h3 ad m c _ hnl hnews hone hroom (by rw [hsz0, hnl, hsz0]; simp; omega)
          refine ⟨_, _, sp.drop m, hrun, .inr ⟨g, ?_, h2, ?_, ?_, fun x hx => h5 x (List.mem_of_mem_drop hx)⟩, setRow_grown _ _ _⟩
          · simp only [List.length_append, List.length_drop, hm]
            congr 1
            omega
          · rw [setRow_heap w g _ _ 5 (0, 0) h3]
            congr 2
            rw [hsz0, Nat.mul_one, List.length_map, ← hm]
            apply Array.ext'
            simp [List.take_append, List.drop_append, List.map_append, List.map_drop, List.append_assoc]
          · simp only [List.length_append, List.length_drop]
            omega
        · have holds : ∀ j u, (xs.map (Value.int .u8))[j]? = some u → w.cell? ((⟨g, 0, none⟩ : Addr).add j) = some u := by
            intro j u hj
            rw [add_plain]
            rw [cell_of_row w g j _ _ _ h3]
            have hjl : j < (xs.map (Value.int .u8)).length := (List.getElem?_eq_some_iff.1 hj).1
            rw [← hj]
            simp only [List.getElem?_toArray, List.map_append]
            rw [List.getElem?_append_left hjl]
          have hlt : xs.length + sp.length < xs.length + m := by omega
          have hrun := run_append_grow (P := Tryd.prog) w 30 ty 5 i0 (.int .u8 0) hu hi0 hz0 ⟨g, 0, none⟩ xs.length (xs.length + sp.length) (xs.map (Value.int .u8)) (by rw [hsz0]; simp) holds ad m c _ hnl hnews hlt (by omega) (by rw [hby0]; exact growslice_fits hlt (by omega))
          have hge := grownCap_ge w (xs.length + m) (xs.length + sp.length) 5
          have hcm := grownCap_le_maxLen w (xs.length + m) (xs.length + sp.length) 5 (by simp only [maxLen]; omega)
          refine ⟨_, _, List.replicate (grownCap w (xs.length + m) (xs.length + sp.length) 5 - (xs.length + m)) 0, hrun, ?_, alloc_grown w _ _⟩
          generalize grownCap w (xs.length + m) (xs.length + sp.length) 5 = cc at *
          subst hm
          have := RF.laid (base := base) (w := w) (xs ++ ys) cc hb (by simp; omega) hcm ((xs.map (Value.int .u8)).toArray ++ (ys.map (Value.int .u8)).toArray ++ Builtin.zeroCells #[.int .u8 0] (cc - (xs.length + ys.length))) (by rw [zeros_one]; simp)
          rw [List.length_append] at this
          exact this
theorem next_fits {need old : Nat} (h : old < need) (hn : need ≤ 200000000000000) : Builtin.nextslicecap need old ≤ 281474976710656 := by
  unfold Builtin.nextslicecap
  split
  · omega
  · split
    · omega
    · rw [growBy_four]
      repeat' split
      all_goals omega
theorem strCells_eq (s : ByteArray) : Lib.strCells s = (bytesOf s).map (Value.int .u8) := by simp [bytesOf, Lib.strCells]
theorem bytesOf_len (s : ByteArray) : (bytesOf s).length = s.size := by simp [bytesOf]
theorem rf_str (base : Nat) (w : World) (ty : TypeId) (v : Value) (xs sp : List Int) (h : RF base w v xs sp) (s : ByteArray) (hl : xs.length + s.size ≤ 200000000000000) (hb : base ≤ w.heap.size) :
    ∃ v1 w1 sp1, (Builtin.append_ #[30, 9] ty #[v, .string s]).run Tryd.prog w = .ok v1 w1 ∧ RF base w1 v1 (xs ++ bytesOf s) sp1 ∧ w.grownBy w1 v.ownBlock := by
  obtain ⟨i0, hi0, hz0, hsz0, hby0⟩ := info_parts infoB
  have hu := Tryd.underlying30
  have hu2 := Tryd.underlying9
  have hbl := bytesOf_len s
  by_cases h0 : s.size = 0
  · have hnil : bytesOf s = [] := List.eq_nil_of_length_eq_zero (by rw [hbl, h0])
    have hf := Lib.run_firstCells_string (P := Tryd.prog) w i0.size s
    have hsc : Lib.strCells s = [] := by rw [strCells_eq, hnil]; rfl
    rw [h0, hsc] at hf
    refine ⟨v, w, sp, ?_, by rw [hnil, List.append_nil]; exact h, World.grownBy.refl w _⟩
    rcases h with ⟨rfl, rfl, rfl⟩ | ⟨g, rfl, h2, h3, h4, h5⟩
    · simp [Builtin.append_, run_underlying hu, run_underlying hu2, sizeOf, typeInfo, hi0, Builtin.lenOf, hf, h0]
    · simp [Builtin.append_, run_underlying hu, run_underlying hu2, sizeOf, typeInfo, hi0, Builtin.lenOf, hf, storeCells, h0]
  · have h63 : ((xs.length + s.size : Nat) : Int) ≤ 9223372036854775807 := by omega
    rcases h with ⟨rfl, rfl, rfl⟩ | ⟨g, rfl, h2, h3, h4, h5⟩
    · have hrun := run_append_nil_string (P := Tryd.prog) w 30 9 ty 5 i0 (.int .u8 0) hu hu2 hi0 hz0 s (by omega) (by omega) (by rw [hby0]; simp at hl; omega)
      have hge := grownCap_ge w s.size 0 5
      have hcm := grownCap_le_maxLen w s.size 0 5 (by simp only [maxLen]; simp at hl; omega)
      refine ⟨_, _, List.replicate (grownCap w s.size 0 5 - s.size) 0, hrun, ?_, alloc_grown w _ _⟩
      rw [List.nil_append]
      generalize grownCap w s.size 0 5 = cc at *
      have := RF.laid (base := base) (w := w) (bytesOf s) cc hb (by omega) hcm (s.data.map (fun b => Value.int .u8 b.toNat) ++ Builtin.zeroCells #[.int .u8 0] (cc - s.size)) (by
        rw [zeros_one, hbl]
        congr 1
        rw [← strCells_eq]
        apply Array.ext'
        simp [Lib.strCells])
      rw [hbl] at this
      exact this
    · by_cases hroom : xs.length + s.size ≤ xs.length + sp.length
      · have hrun := Lib.run_append_room_string (P := Tryd.prog) w 30 9 ty 5 i0 hu hu2 hi0 hsz0 g xs.length (xs.length + sp.length) _ h3 s hroom (by simp; omega)
        refine ⟨_, _, sp.drop s.size, hrun, .inr ⟨g, ?_, h2, ?_, ?_, fun x hx => h5 x (List.mem_of_mem_drop hx)⟩, setRow_grown _ _ _⟩
        · simp only [List.length_append, List.length_drop, hbl]
          congr 1
          omega
        · rw [setRow_heap w g _ _ 5 (0, 0) h3]
          congr 2
          rw [strCells_eq]
          apply Array.ext'
          simp [List.take_append, List.drop_append, List.map_append, List.map_drop, List.append_assoc]
        · simp only [List.length_append, List.length_drop]
          omega
      · have holds : ∀ j u, (xs.map (Value.int .u8))[j]? = some u → w.cell? ((⟨g, 0, none⟩ : Addr).add j) = some u := by
          intro j u hj
          rw [add_plain]
          rw [cell_of_row w g j _ _ _ h3]
          have hjl : j < (xs.map (Value.int .u8)).length := (List.getElem?_eq_some_iff.1 hj).1
          rw [← hj]
          simp only [List.getElem?_toArray, List.map_append]
          rw [List.getElem?_append_left hjl]
        have hlt : xs.length + sp.length < xs.length + s.size := by omega
        have hrun := Lib.run_append_grow_string (P := Tryd.prog) w 30 9 ty 5 i0 (.int .u8 0) hu hu2 hi0 hz0 ⟨g, 0, none⟩ xs.length (xs.length + sp.length) (xs.map (Value.int .u8)) (by rw [hsz0]; simp) holds s hlt h63 (by rw [hby0, Nat.mul_one]; exact next_fits hlt (by omega))
        have hge := grownCap_ge w (xs.length + s.size) (xs.length + sp.length) 5
        have hcm := grownCap_le_maxLen w (xs.length + s.size) (xs.length + sp.length) 5 (by simp only [maxLen]; omega)
        refine ⟨_, _, List.replicate (grownCap w (xs.length + s.size) (xs.length + sp.length) 5 - (xs.length + s.size)) 0, hrun, ?_, alloc_grown w _ _⟩
        generalize grownCap w (xs.length + s.size) (xs.length + sp.length) 5 = cc at *
        have := RF.laid (base := base) (w := w) (xs ++ bytesOf s) cc hb (by simp; omega) hcm ((xs.map (Value.int .u8)).toArray ++ (Lib.strCells s).toArray ++ Builtin.zeroCells #[.int .u8 0] (cc - (xs.length + s.size))) (by rw [zeros_one, strCells_eq]; simp [hbl])
        rw [List.length_append, hbl] at this
        exact this
theorem rf_zeros (base : Nat) (w : World) (ty : TypeId) (n : Int) (hn : 0 < n) (hl : n ≤ 140737488355328) (hb : base ≤ w.heap.size) :
    ∃ v1 w1 sp1, (Builtin.append_ #[30, 3] ty #[.slice none 0 0, .int .i64 n]).run Tryd.prog w = .ok v1 w1 ∧ RF base w1 v1 (List.replicate n.toNat 0) sp1 ∧ w.grownBy w1 none := by
  obtain ⟨i0, hi0, hz0, hsz0, hby0⟩ := info_parts infoB
  have hu := Tryd.underlying30
  have hu2 := Tryd.underlying3
  obtain ⟨m, rfl⟩ : ∃ m : Nat, n = (m : Int) := ⟨n.toNat, by omega⟩
  rw [Int.toNat_natCast]
  have hw : IntKind.i64.wrap (m : Int) = m := by rw [IntKind.wrap_i64]; omega
  have hneg : ¬ ((m : Int) < 0) := by omega
  have hbig : ¬ (281474976710656 < (m : Int) * (i0.bytes : Int)) := by rw [hby0]; omega
  have hmz : ¬ (m * i0.size = 0) := by rw [hsz0]; omega
  have hn : m ≠ 0 := by omega
  have h63' : ¬ (9223372036854775807 < (m : Int)) := by omega
  have h48' : ¬ (281474976710656 < Builtin.nextslicecap m 0 * i0.bytes) := by rw [nextslicecap_zero (by omega), hby0]; omega
  have hrun : (Builtin.append_ #[30, 3] ty #[.slice none 0 0, .int .i64 (m : Int)]).run Tryd.prog w =
      .ok (.slice (some ⟨w.heap.size, 0, none⟩) m (grownCap w m 0 5)) (w.drew.alloc (.cells (Builtin.zeroCells #[.int .u8 0] m ++ Builtin.zeroCells #[.int .u8 0] (grownCap w m 0 5 - m)) 5)) := by
    simp [Builtin.append_, run_underlying hu, run_underlying hu2, sizeOf, typeInfo, zeroValue, hi0, hz0, asInt, asIntOf, hw, hneg, hbig, hn, h63', h48', Question.forced, run_firstCells_none, newRow, grownCap, hmz]
    rfl
  have hge := grownCap_ge w m 0 5
  have hcm := grownCap_le_maxLen w m 0 5 (by simp only [maxLen]; omega)
  refine ⟨_, _, List.replicate (grownCap w m 0 5 - m) 0, hrun, ?_, alloc_grown w _ _⟩
  generalize grownCap w m 0 5 = cc at *
  have := RF.laid (base := base) (w := w) (List.replicate m 0) cc hb (by simpa using hge) hcm (Builtin.zeroCells #[.int .u8 0] m ++ Builtin.zeroCells #[.int .u8 0] (cc - m)) (by rw [zeros_one, zeros_one]; simp)
  rw [List.length_replicate] at this
  exact this
theorem RF.base {base : Nat} {w : World} {v : Value} {xs sp : List Int} (h : RF base w v xs sp) (k : Nat) (hk : v.ownBlock = some k) : base ≤ k := by
  rcases h with ⟨rfl, rfl, rfl⟩ | ⟨g, rfl, h2, h3, h4, h5⟩
  · simp [Value.ownBlock] at hk
  · simp [Value.ownBlock] at hk; omega
section
variable {ops : Array Oper} {rest : List Oper} {o : Oper} {a : Act} {Q : Exit → Act → World → Prop}
theorem wp_rf_rows {w0 W : World} (base : Nat) (hgd : o.guard = none) (s x : Operand)
    (ho : o.op = .call { callee := .builtin .append, args := #[s, x], argTypes := #[30, 30] })
    (v : Value) (xs sp ys : List Int) (A : Option Addr) (m c : Nat) (hs : a.eval s = v) (hx : a.eval x = .slice A m c)
    (HO : RF base W v xs sp) (HR : Kd.C (Kd.int .u8) W A m ys) (HB : Below base w0 W) (hbase : base ≤ W.heap.size) (hl : xs.length + m ≤ 140737488355328)
    (h : ∀ v1 w1 sp1, RF base w1 v1 (xs ++ ys) sp1 → Below base w0 w1 → W.grownBy w1 v.ownBlock → wpList Tryd.prog ops Q rest (a.put o.dst v1) w1) :
    wpList Tryd.prog ops Q (o :: rest) a W := by
  obtain ⟨v1, w1, sp1, hr1, h1, hg⟩ := rf_rows base W o.type v xs sp HO A m c ys HR hl hbase
  refine wpList_plain hgd fun K hK => ?_
  unfold Oper.wp execOp
  simp only [ho, resolve, invoke, builtin, Sem.run_bind, Sem.run_pure, Result.andThen_ok, List.map_toArray, List.map_cons, List.map_nil, hs, hx, hr1]
  exact hK _ _ (h v1 w1 sp1 h1 (HB.grown hg hbase HO.base) hg)
theorem wp_rf_str {w0 W : World} (base : Nat) (hgd : o.guard = none) (s x : Operand)
    (ho : o.op = .call { callee := .builtin .append, args := #[s, x], argTypes := #[30, 9] })
    (v : Value) (xs sp : List Int) (y : ByteArray) (hs : a.eval s = v) (hx : a.eval x = .string y)
    (HO : RF base W v xs sp) (HB : Below base w0 W) (hbase : base ≤ W.heap.size) (hl : xs.length + y.size ≤ 200000000000000)
    (h : ∀ v1 w1 sp1, RF base w1 v1 (xs ++ bytesOf y) sp1 → Below base w0 w1 → W.grownBy w1 v.ownBlock → wpList Tryd.prog ops Q rest (a.put o.dst v1) w1) :
    wpList Tryd.prog ops Q (o :: rest) a W := by
  obtain ⟨v1, w1, sp1, hr1, h1, hg⟩ := rf_str base W o.type v xs sp HO y hl hbase
  refine wpList_plain hgd fun K hK => ?_
  unfold Oper.wp execOp
  simp only [ho, resolve, invoke, builtin, Sem.run_bind, Sem.run_pure, Result.andThen_ok, List.map_toArray, List.map_cons, List.map_nil, hs, hx, hr1]
  exact hK _ _ (h v1 w1 sp1 h1 (HB.grown hg hbase HO.base) hg)
theorem wp_rf_zeros {w0 W : World} (base : Nat) (hgd : o.guard = none) (s x : Operand)
    (ho : o.op = .call { callee := .builtin .append, args := #[s, x], argTypes := #[30, 3] })
    (n : Int) (hs : a.eval s = .slice none 0 0) (hx : a.eval x = .int .i64 n) (hn : 0 < n)
    (HB : Below base w0 W) (hbase : base ≤ W.heap.size) (hl : n ≤ 140737488355328)
    (h : ∀ v1 w1 sp1, RF base w1 v1 (List.replicate n.toNat 0) sp1 → Below base w0 w1 → wpList Tryd.prog ops Q rest (a.put o.dst v1) w1) :
    wpList Tryd.prog ops Q (o :: rest) a W := by
  obtain ⟨v1, w1, sp1, hr1, h1, hg⟩ := rf_zeros base W o.type n hn hl hbase
  refine wpList_plain hgd fun K hK => ?_
  unfold Oper.wp execOp
  simp only [ho, resolve, invoke, builtin, Sem.run_bind, Sem.run_pure, Result.andThen_ok, List.map_toArray, List.map_cons, List.map_nil, hs, hx, hr1]
  exact hK _ _ (h v1 w1 sp1 h1 (HB.grown hg hbase (fun k hk => by cases hk)))
end
end Go.Proofs.YtbdocgddidcfeaaDoor
namespace Go.Proofs.YtbdocgddidcfeaaDoor
open Go.RowKit Go.Proofs.YtbdocgddidcfeaaDoorW.PrintWords Go.Proofs.YtbdocgddidcfeaaDoorW.PrintLast Go.Proofs.YtbdocgddidcfeaaDoorW.PrintMore
set_option linter.unusedVariables false
set_option linter.unusedSimpArgs false
def RS (base : Nat) (w : World) (v : Value) (xs : List Int) : Prop := ∃ sp, RF base w v xs sp
theorem RS.nil (base : Nat) (w : World) : RS base w (.slice none 0 0) [] := ⟨[], RF.nil _ _⟩
theorem RS.lower {base base' : Nat} {w : World} {v : Value} {xs : List Int} (h : RS base w v xs) (hb : base' ≤ base) : RS base' w v xs := by
  obtain ⟨sp, h⟩ := h
  exact ⟨sp, h.lower hb⟩
theorem RS.below {base : Nat} {w w1 : World} {v : Value} {xs : List Int} (h : RS base w v xs) (hb : Below w.heap.size w w1) : RS base w1 v xs := by
  obtain ⟨sp, h⟩ := h
  exact ⟨sp, h.below hb⟩
theorem RF.take0 {base : Nat} {w : World} {A : Option Addr} {c : Nat} {xs sp : List Int} (h : RF base w (.slice A xs.length c) xs sp) (hx : ∀ x ∈ xs, 0 ≤ x ∧ x < 256) : RS base w (.slice A 0 c) [] := by
  refine ⟨xs ++ sp, ?_⟩
  rcases h with ⟨h1, rfl, rfl⟩ | ⟨g, h1, h2, h3, h4, h5⟩
  · cases h1
    exact RF.nil _ _
  · cases h1
    refine .inr ⟨g, by simp, h2, by simpa using h3, by simpa using h4, fun x hm => ?_⟩
    rcases List.mem_append.1 hm with hm | hm
    · exact hx x hm
    · exact h5 x hm
set_option maxHeartbeats 2000000 in
set_option maxRecDepth 100000 in
theorem grow_nilF (n : Int) (w : World) (h0 : 0 ≤ n) (hn : n ≤ 140737488355328) :
    Calls Tryd.prog 44 #[.slice none 0 0, .int .i64 n] w
      fun e w' => ∃ v, e = .returned v ∧ RS w.heap.size w' v [] ∧ Below w.heap.size w w' := by
  have HB := Aside0.mk (Below.refl w.heap.size w)
  by_cases hz : n = 0
  · subst hz
    go_enter Tryd.func44, Tryd.ntmps44
    go_wp2
    go_ret
    exact ⟨_, rfl, RS.nil _ _, HB.out⟩
  · have hp : 0 < n := by omega
    go_enter Tryd.func44, Tryd.ntmps44
    go_wp2_with (first | ((with_reducible refine gate_builtin (b := .append) (xs := #[.tmp 20, .tmp 21]) rfl ?_); at_builtin; refine wp_rf_zeros (w0 := w) w.heap.size rfl (.tmp 20) (.tmp 21) rfl n rfl rfl hp HB.out (Nat.le_refl _) hn ?_; intro v1 w1 sp1 ho hb; have HO := Aside0.mk ho; clear HB; have HB := Aside0.mk hb; clear ho hb; obtain ⟨A1, c1, hv⟩ := Kd.R_slice HO.out.R; subst hv; obtain ⟨i0, hi0, _, hsz0, _⟩ := info_parts infoB; obtain ⟨hcut, hA⟩ := print_take_int (P := Tryd.prog) (k := .i64) 30 5 Tryd.underlying30 hi0 hsz0 A1 c1 (List.replicate n.toNat 0) 0 (by omega) (by omega) (by have := (Kd.R_reads' HO.out.R).2.1; simpa using this)))
    go_ret
    exact ⟨_, rfl, HO.out.take0 (zeros_range _), HB.out⟩
def CRowF (w : World) (l0 l1 : List Int) (wr : World) (v vi : Value) : Prop :=
  Below w.heap.size w wr ∧ ((vi = .int .i64 0 ∧ RS w.heap.size wr v []) ∨ (vi = .int .i64 1 ∧ RS w.heap.size wr v l0) ∨
    (vi = .int .i64 2 ∧ RS w.heap.size wr v (l0 ++ l1)))
set_option maxHeartbeats 4000000 in
set_option maxRecDepth 100000 in
theorem concat_twoF (g : Nat) (A0 A1 : Option Addr) (c0 c1 : Nat) (l0 l1 : List Int) (w : World)
    (hg0 : w.cell? ⟨g, 0, none⟩ = some (.slice A0 l0.length c0)) (hg1 : w.cell? ⟨g, 1, none⟩ = some (.slice A1 l1.length c1))
    (hr0 : Kd.C (Kd.int .u8) w A0 l0.length l0) (hr1 : Kd.C (Kd.int .u8) w A1 l1.length l1) (hl : l0.length + l1.length ≤ 140737488355328) :
    Calls Tryd.prog 37 #[.slice (some ⟨g, 0, none⟩) 2 2] w
      fun e w' => ∃ v, e = .returned v ∧ RS w.heap.size w' v (l0 ++ l1) ∧ Below w.heap.size w w' := by
  have HB := Aside0.mk (Below.refl w.heap.size w)
  have HR0 := Aside0.mk hr0
  have HR1 := Aside0.mk hr1
  have hlt := World.block_lt_of_cell? w _ hg0
  have HLT : Aside0 (g < w.heap.size) := ⟨hlt⟩
  have HL := Aside0.mk hl
  clear hr0 hr1 hlt
  obtain ⟨n0, hn0⟩ : ∃ n : Nat, n = l0.length := ⟨_, rfl⟩
  obtain ⟨n1, hn1⟩ : ∃ n : Nat, n = l1.length := ⟨_, rfl⟩
  rw [← hn0] at hg0; rw [← hn1] at hg1; rw [← hn0, ← hn1] at hl
  have HN0 := Aside0.mk hn0; have HN1 := Aside0.mk hn1
  clear hn0 hn1
  go_enter Tryd.func37, Tryd.ntmps37
  go_wp2
  go_loop [3, 11] (fun vs vi => CRel n0 n1 vs vi) (fun _ vi => (2 - intOf vi).toNat)
  case atStart => exact .inl ⟨rfl, rfl⟩
  case round =>
    rcases hrel with ⟨rfl, rfl⟩ | ⟨rfl, rfl⟩ | ⟨rfl, rfl⟩
    · go_wp2
      exact ⟨.inr (.inl ⟨rfl, rfl⟩), by simp [intOf]⟩
    · go_wp2
      exact ⟨.inr (.inr ⟨rfl, rfl⟩), by simp [intOf]⟩
    · go_wp2_with fail
      ((with_reducible refine (grow_nilF _ _ (by omega) (by omega)).mono ?_); rintro e_ W1 ⟨v0, rfl, ho_, hb_⟩)
      have HO0 := Aside0.mk ho_
      clear HB; have HB := Aside0.mk hb_; clear ho_ hb_
      have hg0w := (HB.out.cell (p := ⟨g, 0, none⟩) HLT.out).trans hg0
      have hg1w := (HB.out.cell (p := ⟨g, 1, none⟩) HLT.out).trans hg1
      have HG0 := Aside0.mk hg0; have HG1 := Aside0.mk hg1
      clear hg0 hg1
      have HR0' : Aside0 (Kd.C (Kd.int .u8) w A0 n0 l0) := ⟨by rw [HN0.out]; exact HR0.out⟩
      have HR1' : Aside0 (Kd.C (Kd.int .u8) w A1 n1 l1) := ⟨by rw [HN1.out]; exact HR1.out⟩
      clear hg0w hg1w
      go_wp2
      go_loopw [6, 27] (fun v vi wr => CRowF w l0 l1 wr v vi) (fun _ vi _ => (2 - intOf vi).toNat)
      case atStart => exact ⟨HB.out, .inl ⟨rfl, HO0.out⟩⟩
      case round =>
        clear HB HO0
        obtain ⟨hb_, hcase⟩ := hrel
        have HB := Aside0.mk hb_; clear hb_
        have hg0 := (HB.out.cell (p := ⟨g, 0, none⟩) HLT.out).trans HG0.out
        have hg1 := (HB.out.cell (p := ⟨g, 1, none⟩) HLT.out).trans HG1.out
        rcases hcase with ⟨rfl, ho_⟩ | ⟨rfl, ho_⟩ | ⟨rfl, ho_⟩
        · have HO0 := Aside0.mk ho_; clear ho_
          go_wp2_with (first | ((with_reducible refine gate_builtin (b := .append) (xs := #[.tmp 31, .tmp 32]) rfl ?_); at_builtin; obtain ⟨sp0, ho_⟩ := HO0.out; refine wp_rf_rows (w0 := w) w.heap.size rfl (.tmp 31) (.tmp 32) rfl _ [] sp0 l0 _ _ _ rfl rfl ho_ (Kd.C_below HR0'.out HB.out) HB.out (below_size HB.out) (by have := HL.out; have := HN0.out; have := HN1.out; simp; omega) ?_; intro v1 w1 sp1 ho hb hg; have HO1 : Aside0 (RS w.heap.size w1 v1 _) := Aside0.mk ⟨sp1, ho⟩; clear HB; have HB := Aside0.mk hb; clear ho_ ho hb hg))
          refine ⟨⟨HB.out, .inr (.inl ⟨rfl, HO1.out⟩)⟩, by simp [intOf]⟩
        · have HO0 := Aside0.mk ho_; clear ho_
          go_wp2_with (first | ((with_reducible refine gate_builtin (b := .append) (xs := #[.tmp 31, .tmp 32]) rfl ?_); at_builtin; obtain ⟨sp0, ho_⟩ := HO0.out; refine wp_rf_rows (w0 := w) w.heap.size rfl (.tmp 31) (.tmp 32) rfl _ l0 sp0 l1 _ _ _ rfl rfl ho_ (Kd.C_below HR1'.out HB.out) HB.out (below_size HB.out) (by have := HL.out; have := HN0.out; have := HN1.out; omega) ?_; intro v1 w1 sp1 ho hb hg; have HO1 : Aside0 (RS w.heap.size w1 v1 _) := Aside0.mk ⟨sp1, ho⟩; clear HB; have HB := Aside0.mk hb; clear ho_ ho hb hg))
          exact ⟨⟨HB.out, .inr (.inr ⟨rfl, HO1.out⟩)⟩, by simp [intOf]⟩
        · have HO0 := Aside0.mk ho_; clear ho_
          go_wp2
          go_ret
          exact ⟨_, rfl, HO0.out, HB.out⟩
set_option maxHeartbeats 4000000 in
set_option maxRecDepth 100000 in
theorem concat_twoF' (g : Nat) (A0 A1 : Option Addr) (c0 c1 n1 : Nat) (l0 l1 : List Int) (w : World) (hn : l1.length = n1)
    (hg0 : w.cell? ⟨g, 0, none⟩ = some (.slice A0 l0.length c0)) (hg1 : w.cell? ⟨g, 1, none⟩ = some (.slice A1 n1 c1))
    (hr0 : Kd.C (Kd.int .u8) w A0 l0.length l0) (hr1 : Kd.C (Kd.int .u8) w A1 n1 l1) (hl : l0.length + n1 ≤ 140737488355328) :
    Calls Tryd.prog 37 #[.slice (some ⟨g, 0, none⟩) 2 2] w
      fun e w' => ∃ v, e = .returned v ∧ RS w.heap.size w' v (l0 ++ l1) ∧ Below w.heap.size w w' := by
  subst hn
  exact concat_twoF g A0 A1 c0 c1 l0 l1 w hg0 hg1 hr0 hr1 hl
set_option maxHeartbeats 4000000 in
set_option maxRecDepth 100000 in
theorem Frame_callsF (A0 : Option Addr) (c0 : Nat) (l0 : List Int) (w : World)
    (hr0 : Kd.C (Kd.int .u8) w A0 l0.length l0) (hl : l0.length ≤ 140737488355318) (hT : Tab w) :
    Calls Tryd.prog 25 #[.slice A0 l0.length c0] w
      fun e w' => ∃ v, e = .returned v ∧ RS w.heap.size w' v (frameF l0) ∧ Below w.heap.size w w' := by
  have HR := Aside0.mk hr0
  have HT := Aside0.mk hT
  have hs := sumF_range l0
  have hff : frameF l0 = l0 ++ [sumF l0 % 256, sumF l0 / 256 % 256, sumF l0 / 65536 % 256, sumF l0 / 16777216] := rfl
  rw [hff]
  have hc := Sum_calls A0 c0 l0 w hr0 (by omega) hT
  clear hr0 hT hff
  generalize sumF l0 = s at hs hc ⊢
  go_enter Tryd.func25, Tryd.ntmps25
  go_wp2_with fail
  ((with_reducible refine hc.mono ?_); rintro e_ W1 ⟨rfl, rfl⟩)
  clear hc
  go_wp2_with fail
  have hC : Kd.C (Kd.int .u8) (W1.alloc (Obj.cells #[.int .u8 (s % 256), .int .u8 (s / 256 % 256), .int .u8 (s / 65536 % 256), .int .u8 (s / 16777216)] 5)) (some ⟨W1.heap.size, 0, none⟩) 4 [s % 256, s / 256 % 256, s / 65536 % 256, s / 16777216] := C_pre W1 [s % 256, s / 256 % 256, s / 65536 % 256, s / 16777216] [] 5 (by simp) _ rfl
  ((with_reducible refine (concat_twoF' (W1.heap.size + 1) A0 (some ⟨W1.heap.size, 0, none⟩) c0 4 4 l0 [s % 256, s / 256 % 256, s / 65536 % 256, s / 16777216] _ rfl (pair_cells W1 _ _ _ _).1 (pair_cells W1 _ _ _ _).2 (Kd.C_alloc (Kd.C_alloc HR.out _) _) (Kd.C_alloc hC _) (by omega)).mono ?_); rintro e_ W2 ⟨v0, rfl, ho_, hb_⟩)
  clear hC
  have HO0 := Aside0.mk (RS.lower ho_ (two_below W1 _ _).2); have HB := Aside0.mk (below_step (two_below W1 _ _).1 hb_)
  clear ho_ hb_
  go_wp2
  go_ret
  exact ⟨_, rfl, HO0.out, HB.out⟩
end Go.Proofs.YtbdocgddidcfeaaDoor
namespace Go.Proofs.YtbdocgddidcfeaaDoorW.PrintWords
theorem Reps.one {α : Type} {R : α → List Value → Prop} {ps : List α} {cs : List Value} {p : α} {v : Value} (hp : R p [v]) (h : Reps R 1 ps cs) : Reps R 1 (p :: ps) (v :: cs) := by
  refine ⟨by simp [h.1], fun j q hq => ?_⟩
  cases j with
  | zero =>
    simp only [List.getElem?_cons_zero, Option.some.injEq] at hq
    subst hq
    simpa using hp
  | succ j =>
    simp only [List.getElem?_cons_succ] at hq
    have h1 := h.2 j q hq
    simpa [Nat.mul_one] using h1
theorem Reps.front {α : Type} {R : α → List Value → Prop} {size : Nat} {ps : List α} {cs c all : List Value} {p : α} (hp : R p c) (hc : c.length = size) (h : Reps R size ps cs) (ha : c ++ cs = all) : Reps R size (p :: ps) all := by
  subst ha
  refine ⟨by rw [List.length_append, hc, h.1, List.length_cons, Nat.succ_mul, Nat.add_comm], fun j q hq => ?_⟩
  cases j with
  | zero =>
    simp only [List.getElem?_cons_zero, Option.some.injEq] at hq
    subst hq
    rw [Nat.zero_mul, List.drop_zero, List.take_append_of_le_length (by omega), List.take_of_length_le (by omega)]
    exact hp
  | succ j =>
    simp only [List.getElem?_cons_succ] at hq
    have h1 := h.2 j q hq
    rw [Nat.succ_mul, List.drop_append, List.drop_of_length_le (by rw [hc]; exact Nat.le_add_left _ _), List.nil_append, hc, Nat.add_sub_cancel]
    exact h1
theorem Reps.c2 {α : Type} {R : α → List Value → Prop} {ps : List α} {cs : List Value} {p : α} {va vb : Value} (hp : R p [va, vb]) (h : Reps R 2 ps cs) : Reps R 2 (p :: ps) (va :: vb :: cs) := Reps.front hp rfl h rfl
theorem Reps.c3 {α : Type} {R : α → List Value → Prop} {ps : List α} {cs : List Value} {p : α} {va vb vc : Value} (hp : R p [va, vb, vc]) (h : Reps R 3 ps cs) : Reps R 3 (p :: ps) (va :: vb :: vc :: cs) := Reps.front hp rfl h rfl
theorem Reps.c4 {α : Type} {R : α → List Value → Prop} {ps : List α} {cs : List Value} {p : α} {va vb vc vd : Value} (hp : R p [va, vb, vc, vd]) (h : Reps R 4 ps cs) : Reps R 4 (p :: ps) (va :: vb :: vc :: vd :: cs) := Reps.front hp rfl h rfl
theorem Reps.c5 {α : Type} {R : α → List Value → Prop} {ps : List α} {cs : List Value} {p : α} {va vb vc vd ve : Value} (hp : R p [va, vb, vc, vd, ve]) (h : Reps R 5 ps cs) : Reps R 5 (p :: ps) (va :: vb :: vc :: vd :: ve :: cs) := Reps.front hp rfl h rfl
theorem Reps.c6 {α : Type} {R : α → List Value → Prop} {ps : List α} {cs : List Value} {p : α} {va vb vc vd ve vf : Value} (hp : R p [va, vb, vc, vd, ve, vf]) (h : Reps R 6 ps cs) : Reps R 6 (p :: ps) (va :: vb :: vc :: vd :: ve :: vf :: cs) := Reps.front hp rfl h rfl
theorem Reps.c7 {α : Type} {R : α → List Value → Prop} {ps : List α} {cs : List Value} {p : α} {va vb vc vd ve vf vg : Value} (hp : R p [va, vb, vc, vd, ve, vf, vg]) (h : Reps R 7 ps cs) : Reps R 7 (p :: ps) (va :: vb :: vc :: vd :: ve :: vf :: vg :: cs) := Reps.front hp rfl h rfl
theorem Reps.c8 {α : Type} {R : α → List Value → Prop} {ps : List α} {cs : List Value} {p : α} {va vb vc vd ve vf vg vh : Value} (hp : R p [va, vb, vc, vd, ve, vf, vg, vh]) (h : Reps R 8 ps cs) : Reps R 8 (p :: ps) (va :: vb :: vc :: vd :: ve :: vf :: vg :: vh :: cs) := Reps.front hp rfl h rfl
theorem Reps.c9 {α : Type} {R : α → List Value → Prop} {ps : List α} {cs : List Value} {p : α} {va vb vc vd ve vf vg vh vi : Value} (hp : R p [va, vb, vc, vd, ve, vf, vg, vh, vi]) (h : Reps R 9 ps cs) : Reps R 9 (p :: ps) (va :: vb :: vc :: vd :: ve :: vf :: vg :: vh :: vi :: cs) := Reps.front hp rfl h rfl
theorem Reps.c10 {α : Type} {R : α → List Value → Prop} {ps : List α} {cs : List Value} {p : α} {va vb vc vd ve vf vg vh vi vj : Value} (hp : R p [va, vb, vc, vd, ve, vf, vg, vh, vi, vj]) (h : Reps R 10 ps cs) : Reps R 10 (p :: ps) (va :: vb :: vc :: vd :: ve :: vf :: vg :: vh :: vi :: vj :: cs) := Reps.front hp rfl h rfl
end Go.Proofs.YtbdocgddidcfeaaDoorW.PrintWords
namespace Go.Proofs.YtbdocgddidcfeaaDoor.PLinkPlays
open Go.RowKit Go.Proofs.YtbdocgddidcfeaaDoorW.PrintWords Go.Proofs.YtbdocgddidcfeaaDoorW.PrintLast Go.Proofs.YtbdocgddidcfeaaDoorW.PrintMore
attribute [local go_sem] max2_int min2_int max_two min_two max_three min_three max_four min_four   -- for this text's walks alone
set_option linter.unusedVariables false
set_option linter.unusedSimpArgs false
def slices_Equal_byte_byte.l0 : Nat → List Int → List Int → Int → Int → Option (Bool)
  | 0, _, _, _, _ => none
  | k + 1, x0, x1, x12, x13 => if x13 < x12 then (if 0 ≤ x13 then (if x13 < (x0.length : Int) then (if x13 < (x1.length : Int) then (if (rd x0 x13) = (rd x1 x13) then (slices_Equal_byte_byte.l0 k x0 x1 x12 (wrap64 (x13 + 1))) else (some false)) else (none)) else (none)) else (none)) else (some true)
def slices_Equal_byte_byte.f (k : Nat) (l0 : List Int) (l1 : List Int) : Option (Bool) := if (l0.length : Int) = (l1.length : Int) then (slices_Equal_byte_byte.l0 k l0 l1 (l0.length : Int) 0) else (some false)
set_option maxHeartbeats 8000000 in
set_option maxRecDepth 100000 in
theorem slices_Equal_byte_byte.calls (k : Nat) (A0 : Option Addr) (c0 : Nat) (l0 : List Int) (A1 : Option Addr) (c1 : Nat) (l1 : List Int) (r : Bool) (w : World) (hr0 : Kd.C (Kd.int .u8) w A0 l0.length l0) (hc0 : l0.length ≤ c0) (hr1 : Kd.C (Kd.int .u8) w A1 l1.length l1) (hc1 : l1.length ≤ c1) (h : slices_Equal_byte_byte.f k l0 l1 = some r) :
    Calls Tryd.prog 38 #[.slice A0 l0.length c0, .slice A1 l1.length c1] w fun e w' => e = .returned (.bool r) ∧ Drawn0 w w' := by
  have HR0 := Aside0.mk hr0
  have HC0 := Aside0.mk hc0
  clear hr0 hc0
  have HR1 := Aside0.mk hr1
  have HC1 := Aside0.mk hc1
  clear hr1 hc1
  have H : (if (l0.length : Int) = (l1.length : Int) then (slices_Equal_byte_byte.l0 k l0 l1 (l0.length : Int) 0) else (some false)) = some r := h
  clear h
  by_cases c3 : (l0.length : Int) = (l1.length : Int)
  · rw [if_pos c3] at H
    have c3b0 : ((l0.length : Int) == (l1.length : Int)) = true := beq_iff_eq.mpr c3
    have c3b1 : ((l0.length : Int) != (l1.length : Int)) = false := bne_eq_false_iff_eq.mpr c3
    have c3b2 : (l0.length == l1.length) = true := by first | simpa using c3 | (simp at c3 ⊢; omega)
    clear c3
    have H' := Aside0.mk H
    clear H
    go_enter Tryd.func38, Tryd.ntmps38
    go_wp2
    repeat (go_quiet (fail); try go_wp2)
    go_loopg [13] k (fun kq v13 w' => ∃ (x13_1 : Int), v13 = .int .i64 x13_1 ∧ Aside0 (slices_Equal_byte_byte.l0 kq l0 l1 (l0.length : Int) x13_1 = some r) ∧ Aside0 (kq ≤ k) ∧ Drawn0 w w')
    case atStart => exact ⟨(0), (by first | rfl | (simp; done) | (simp [*]; done)), H', ⟨Nat.le_refl _⟩, by repeat (first | exact Drawn0.refl _ | apply Drawn0.step)⟩
    case round =>
      clear H'
      try clear c1
      try clear p2
      try clear c3
      try clear c3b0
      try clear c3b1
      try clear c3b2
      obtain ⟨x13_1, rfl, HA, HK1, ⟨m1, rfl⟩⟩ := hrel
      cases gk with
      | zero => exact absurd HA.out (by simp [slices_Equal_byte_byte.l0])
      | succ k1 =>
        have H := HA.out
        clear HA
        simp only [slices_Equal_byte_byte.l0] at H
        by_cases c4 : x13_1 < (l0.length : Int)
        · rw [if_pos c4] at H
          have c4b0 : decide (x13_1 < (l0.length : Int)) = true := decide_eq_true c4
          clear c4
          by_cases c5 : 0 ≤ x13_1
          · rw [if_pos c5] at H
            have c5b0 : decide (0 ≤ x13_1) = true := decide_eq_true c5
            clear c5
            by_cases c6 : x13_1 < (l0.length : Int)
            · rw [if_pos c6] at H
              have c6b0 : decide (x13_1 < (l0.length : Int)) = true := decide_eq_true c6
              clear c6
              by_cases c7 : x13_1 < (l1.length : Int)
              · rw [if_pos c7] at H
                have c7b0 : decide (x13_1 < (l1.length : Int)) = true := decide_eq_true c7
                clear c7
                by_cases c8 : (rd l0 x13_1) = (rd l1 x13_1)
                · rw [if_pos c8] at H
                  have c8b0 : ((rd l0 x13_1) == (rd l1 x13_1)) = true := beq_iff_eq.mpr c8
                  have c8b1 : ((rd l0 x13_1) != (rd l1 x13_1)) = false := bne_eq_false_iff_eq.mpr c8
                  clear c8
                  have H' := Aside0.mk H
                  clear H
                  have p104 : 0 ≤ (x13_1 : Int) := of_decide_eq_true (by first | (with_reducible assumption) | assumption)
                  have q104 : x13_1 < (l0.length : Int) := of_decide_eq_true (by first | (with_reducible assumption) | assumption)
                  obtain ⟨ad104, e104, hx104_0⟩ := Kd.at_int HR0.out x13_1 p104 q104
                  cases e104
                  replace p104 := eq_true p104
                  replace q104 := eq_true q104
                  have p105 : 0 ≤ (x13_1 : Int) := of_decide_eq_true (by first | (with_reducible assumption) | assumption)
                  have q105 : x13_1 < (l1.length : Int) := of_decide_eq_true (by first | (with_reducible assumption) | assumption)
                  obtain ⟨ad105, e105, hx105_0⟩ := Kd.at_int HR1.out x13_1 p105 q105
                  cases e105
                  replace p105 := eq_true p105
                  replace q105 := eq_true q105
                  go_wp2
                  repeat (go_quiet (fail); try go_wp2)
                  go_roundg k1
                  case measure => have := HK1.out; omega
                  case rel => exact ⟨(wrap64 (x13_1 + 1)), (by first | rfl | (simp; done) | (simp [*]; done)), H', ⟨by have := HK1.out; omega⟩, by repeat (first | exact Drawn0.refl _ | apply Drawn0.step)⟩
                · rw [if_neg c8] at H
                  have c8b0 : ((rd l0 x13_1) == (rd l1 x13_1)) = false := beq_eq_false_iff_ne.mpr c8
                  have c8b1 : ((rd l0 x13_1) != (rd l1 x13_1)) = true := bne_iff_ne.mpr c8
                  obtain rfl := Option.some.inj H
                  have p104 : 0 ≤ (x13_1 : Int) := of_decide_eq_true (by first | (with_reducible assumption) | assumption)
                  have q104 : x13_1 < (l0.length : Int) := of_decide_eq_true (by first | (with_reducible assumption) | assumption)
                  obtain ⟨ad104, e104, hx104_0⟩ := Kd.at_int HR0.out x13_1 p104 q104
                  cases e104
                  replace p104 := eq_true p104
                  replace q104 := eq_true q104
                  have p105 : 0 ≤ (x13_1 : Int) := of_decide_eq_true (by first | (with_reducible assumption) | assumption)
                  have q105 : x13_1 < (l1.length : Int) := of_decide_eq_true (by first | (with_reducible assumption) | assumption)
                  obtain ⟨ad105, e105, hx105_0⟩ := Kd.at_int HR1.out x13_1 p105 q105
                  cases e105
                  replace p105 := eq_true p105
                  replace q105 := eq_true q105
                  go_wp2
                  repeat (go_quiet (fail); try go_wp2)
                  go_ret
                  exact ⟨by first | rfl | (simp; done) | (simp [*]; done), by repeat (first | exact Drawn0.refl _ | apply Drawn0.step)⟩
              · rw [if_neg c7] at H
                exact absurd H (by simp)
            · rw [if_neg c6] at H
              exact absurd H (by simp)
          · rw [if_neg c5] at H
            exact absurd H (by simp)
        · rw [if_neg c4] at H
          have c4b0 : decide (x13_1 < (l0.length : Int)) = false := decide_eq_false c4
          clear c4
          obtain rfl := Option.some.inj H
          go_wp2
          repeat (go_quiet (fail); try go_wp2)
          go_ret
          exact ⟨by first | rfl | (simp; done) | (simp [*]; done), by repeat (first | exact Drawn0.refl _ | apply Drawn0.step)⟩
  · rw [if_neg c3] at H
    have c3b0 : ((l0.length : Int) == (l1.length : Int)) = false := beq_eq_false_iff_ne.mpr c3
    have c3b1 : ((l0.length : Int) != (l1.length : Int)) = true := bne_iff_ne.mpr c3
    have c3b2 : (l0.length == l1.length) = false := by first | simpa using c3 | (simp at c3 ⊢; omega)
    obtain rfl := Option.some.inj H
    go_enter Tryd.func38, Tryd.ntmps38
    go_wp2
    repeat (go_quiet (fail); try go_wp2)
    go_ret
    exact ⟨by first | rfl | (simp; done) | (simp [*]; done), by repeat (first | exact Drawn0.refl _ | apply Drawn0.step)⟩
end Go.Proofs.YtbdocgddidcfeaaDoor.PLinkPlays
namespace Go.Proofs.YtbdocgddidcfeaaDoor
open Go.RowKit Go.Proofs.YtbdocgddidcfeaaDoorW.PrintWords Go.Proofs.YtbdocgddidcfeaaDoorW.PrintLast Go.Proofs.YtbdocgddidcfeaaDoorW.PrintMore
set_option linter.unusedVariables false
set_option linter.unusedSimpArgs false
theorem infoSt : (Tryd.prog.info? 9).map (fun i => (i.zero, i.size, i.bytes)) = some (some (.string ByteArray.empty), 1, 16) := by kernel_rfl
def wasT (L : Nat → List Int) (n : Nat) : List ByteArray := (List.range n).map (fun k => strOfNums (L k))
theorem wasT_succ (L : Nat → List Int) (n : Nat) : wasT L (n + 1) = wasT L n ++ [strOfNums (L n)] := by simp [wasT, List.range_succ]
theorem wasT_len (L : Nat → List Int) (n : Nat) : (wasT L n).length = n := by simp [wasT]
theorem grown_set {W w : World} {g j : Nat} {v : Value} (h : W.grownBy w (some g)) : W.grownBy (w.setCell ⟨g, j, none⟩ v) (some g) := by
  have h2 := Below.setCell (B := g) (a := w) (w := w) ⟨rfl, rfl, rfl, Nat.le_refl _, fun _ _ => rfl⟩ (p := ⟨g, j, none⟩) (Nat.le_refl _) v
  refine ⟨h2.os.trans h.os, h2.tape.trans h.tape, h2.output.trans h.output, Nat.le_trans h.size h2.size, fun k hk hne => ?_⟩
  rw [Below.heap_setCell w ⟨g, j, none⟩ v k (fun e => hne (by rw [e]))]
  exact h.block k hk hne
theorem grown_drewN {W w : World} {row : Option Nat} (h : W.grownBy w row) (n : Nat) : W.grownBy (w.drewN n) row := ⟨h.os, h.tape, h.output, h.size, h.block⟩
theorem grown_back {W w : World} {g : Nat} (h : W.grownBy w (some g)) (hg : w.heap[g]? = W.heap[g]?) : Below W.heap.size W w :=
  ⟨h.os, h.tape, h.output, h.size, fun k hk => by
    by_cases e : k = g
    · rw [e]; exact hg
    · exact h.block k hk (fun e2 => e (by injection e2))⟩
theorem xor255 (x : Int) (h0 : 0 ≤ x) (h1 : x < 256) : bits .xor .u8 x 255 = 255 - x := by
  obtain ⟨n, rfl⟩ : ∃ n : Nat, x = (n : Int) := ⟨x.toNat, by omega⟩
  have h : ∀ n : Fin 256, bits .xor .u8 ((n.val : Nat) : Int) 255 = 255 - ((n.val : Nat) : Int) := by decide +kernel
  exact h ⟨n, by omega⟩
theorem C_str1 (w : World) (x : ByteArray) (ty : TypeId) : Kd.C Kd.string (w.alloc (.cells #[.string x] ty)) (some ⟨w.heap.size, 0, none⟩) 1 [x] := by
  refine ⟨rfl, by decide, fun _ => ⟨_, rfl, fun j p hj => ⟨[.string p], rfl, rfl, fun i u hu => ?_⟩⟩⟩
  have hj0 : j = 0 := by
    have := (List.getElem?_eq_some_iff.1 hj).1
    simpa using this
  subst hj0
  simp only [List.getElem?_cons_zero, Option.some.injEq] at hj
  subst hj
  cases i with
  | zero =>
    simp only [List.getElem?_cons_zero, Option.some.injEq] at hu
    subst hu
    rw [add_plain]
    unfold World.cell?
    rw [(MapKept.heap_alloc w _).1]
    rfl
  | succ i => simp at hu
def Fl (M : List Int) (k : Int) (cs : Array Value) : Prop := cs.size = M.length ∧ ∀ j : Nat, j < M.length → cs[j]? = some (.int .u8 (if (j : Int) < k then 255 - rd M (j : Int) else rd M (j : Int)))
theorem Fl.start (M : List Int) : Fl M 0 (M.map (Value.int .u8)).toArray := ⟨by simp, fun j hj => by
  rw [if_neg (by omega)]
  simp [rd_get' hj, hj]⟩
theorem Fl.stop {M : List Int} {cs : Array Value} (h : Fl M 0 cs) : cs = (M.map (Value.int .u8)).toArray := by
  apply Array.ext
  · simp [h.1]
  · intro i h1 h2
    have hi : i < M.length := by rw [← h.1]; exact h1
    have := h.2 i hi
    rw [if_neg (by omega), Array.getElem?_eq_getElem h1, Option.some.injEq] at this
    rw [this]
    simp [rd_get' hi]
theorem Fl.step {M : List Int} {k : Int} {cs : Array Value} (h : Fl M k cs) (h0 : 0 ≤ k) (h1 : k < M.length) :
    Fl M (k + 1) (cs.setIfInBounds k.toNat (.int .u8 (255 - rd M k))) := by
  refine ⟨by simpa using h.1, fun j hj => ?_⟩
  by_cases e : j = k.toNat
  · subst e
    rw [Array.getElem?_setIfInBounds_self_of_lt (by rw [h.1]; exact hj), if_pos (by omega), Int.toNat_of_nonneg h0]
  · rw [Array.getElem?_setIfInBounds_ne (by omega), h.2 j hj]
    by_cases hk : (j : Int) < k
    · rw [if_pos hk, if_pos (by omega)]
    · rw [if_neg hk, if_neg (by omega)]
def Bk (M : List Int) (k : Int) (cs : Array Value) : Prop := cs.size = M.length ∧ ∀ j : Nat, j < M.length → cs[j]? = some (.int .u8 (if (j : Int) < k then rd M (j : Int) else 255 - rd M (j : Int)))
theorem Bk.start {M : List Int} {k : Int} {cs : Array Value} (h : Fl M k cs) (hk : (M.length : Int) ≤ k) : Bk M 0 cs := ⟨h.1, fun j hj => by
  rw [h.2 j hj, if_pos (by omega), if_neg (by omega)]⟩
theorem Bk.stop {M : List Int} {k : Int} {cs : Array Value} (h : Bk M k cs) (hk : (M.length : Int) ≤ k) : cs = (M.map (Value.int .u8)).toArray :=
  Fl.stop ⟨h.1, fun j hj => by rw [h.2 j hj, if_pos (by omega), if_neg (by omega)]⟩
theorem Bk.step {M : List Int} {k : Int} {cs : Array Value} (h : Bk M k cs) (h0 : 0 ≤ k) (h1 : k < M.length) :
    Bk M (k + 1) (cs.setIfInBounds k.toNat (.int .u8 (rd M k))) := by
  refine ⟨by simpa using h.1, fun j hj => ?_⟩
  by_cases e : j = k.toNat
  · subst e
    rw [Array.getElem?_setIfInBounds_self_of_lt (by rw [h.1]; exact hj), if_pos (by omega), Int.toNat_of_nonneg h0]
  · rw [Array.getElem?_setIfInBounds_ne (by omega), h.2 j hj]
    by_cases hk : (j : Int) < k
    · rw [if_pos hk, if_pos (by omega)]
    · rw [if_neg hk, if_neg (by omega)]
theorem cut_cap (A : Option Addr) (m c : Nat) (hc : m ≤ c) (W : World) : (Instr.slice 30 (.slice A m c) none (some (.int .i64 (c : Int))) none).run Tryd.prog W = .ok (.slice A c c) W := by
  obtain ⟨i0, hi0, _, hsz0, _⟩ := info_parts infoB
  have ht := Tryd.underlying30
  have hel : Tryd.prog.elem 30 = 5 := by simp [Program.elem, ht]
  have hu : Tryd.prog.underlying 30 = some (.slice (Tryd.prog.elem 30)) := by rw [hel]; exact ht
  have ha : (A.map fun x => x.add 0) = A := by cases A <;> simp [Addr.add]
  rw [run_slice_h W 30 A m c hu .i64 (c : Int) (by omega) (by omega), hel]
  simp [sizeOf, typeInfo, hi0, hsz0, sliced, Result.andThen, ha]
theorem RF.form {base : Nat} {w : World} {v : Value} {xs sp : List Int} (h : RF base w v xs sp) :
    ∃ A, v = .slice A xs.length (xs ++ sp).length ∧ ((A = none ∧ xs ++ sp = []) ∨ ∃ g, A = some ⟨g, 0, none⟩ ∧ w.heap[g]? = some (.cells ((xs ++ sp).map (Value.int .u8)).toArray 5 (0, 0))) ∧ (∀ x ∈ sp, 0 ≤ x ∧ x < 256) ∧ (xs ++ sp).length ≤ 9223372036854775807 := by
  rcases h with ⟨rfl, rfl, rfl⟩ | ⟨g, rfl, h2, h3, h4, h5⟩
  · exact ⟨none, rfl, .inl ⟨rfl, rfl⟩, by simp, by simp⟩
  · exact ⟨_, by rw [List.length_append], .inr ⟨g, rfl, h3⟩, h5, by rw [List.length_append]; simpa [maxLen] using h4⟩
theorem RF.move {base : Nat} {w w1 : World} {v : Value} {xs sp : List Int} (h : RF base w v xs sp) (hm : ∀ b, v.ownBlock = some b → b < w.heap.size → w1.heap[b]? = w.heap[b]?) : RF base w1 v xs sp := by
  rcases h with h | ⟨g, h1, h2, h3, h4⟩
  · exact .inl h
  · refine .inr ⟨g, h1, h2, ?_, h4⟩
    rw [hm g (by rw [h1]; rfl) (Array.getElem?_eq_some_iff.1 h3).1]
    exact h3
def St (W1 : World) (A : Option Addr) (M : List Int) (F : Array Value → Prop) (wr : World) : Prop :=
  (A = none ∧ M = [] ∧ Below W1.heap.size W1 wr) ∨ ∃ g cs, A = some ⟨g, 0, none⟩ ∧ W1.grownBy wr (some g) ∧ wr.heap[g]? = some (.cells cs 5 (0, 0)) ∧ F cs
theorem St.far {W1 wr : World} {A : Option Addr} {M : List Int} {F : Array Value → Prop} (h : St W1 A M F wr) {b : Nat} (hb : b < W1.heap.size) (hne : ∀ o, A ≠ some ⟨b, o, none⟩) : wr.heap[b]? = W1.heap[b]? := by
  rcases h with ⟨_, _, h⟩ | ⟨g, cs, rfl, h, _⟩
  · exact h.block b hb
  · exact h.block b hb (fun e => by injection e with e; subst e; exact hne 0 rfl)
theorem St.drewN {W1 wr : World} {A : Option Addr} {M : List Int} {F : Array Value → Prop} (h : St W1 A M F wr) (k : Nat) : St W1 A M F (wr.drewN k) := by
  rcases h with ⟨h1, h2, h⟩ | ⟨g, cs, rfl, h, h3⟩
  · exact .inl ⟨h1, h2, pw_below_drewN h k⟩
  · exact .inr ⟨g, cs, rfl, grown_drewN h k, h3⟩
theorem St.imp {W1 wr : World} {A : Option Addr} {M : List Int} {F G : Array Value → Prop} (h : St W1 A M F wr) (hi : ∀ cs, F cs → G cs) : St W1 A M G wr := by
  rcases h with h | ⟨g, cs, h1, h2, h3, h4⟩
  · exact .inl h
  · exact .inr ⟨g, cs, h1, h2, h3, hi _ h4⟩
theorem St.back {W1 wr : World} {A : Option Addr} {M : List Int} {F : Array Value → Prop} (h : St W1 A M F wr) (hF : ∀ cs, F cs → cs = (M.map (Value.int .u8)).toArray)
    (hA : ∀ g, A = some ⟨g, 0, none⟩ → W1.heap[g]? = some (.cells (M.map (Value.int .u8)).toArray 5 (0, 0))) : Below W1.heap.size W1 wr := by
  rcases h with ⟨_, _, h⟩ | ⟨g, cs, h1, h2, h3, h4⟩
  · exact h
  · exact grown_back h2 (by rw [h3, hA g h1, hF cs h4])
theorem St.start {W1 wr : World} {A : Option Addr} {M : List Int} (hb : Below W1.heap.size W1 wr)
    (hA : (A = none ∧ M = []) ∨ ∃ g, A = some ⟨g, 0, none⟩ ∧ W1.heap[g]? = some (.cells (M.map (Value.int .u8)).toArray 5 (0, 0))) : St W1 A M (Fl M 0) wr := by
  rcases hA with ⟨h1, h2⟩ | ⟨g, h1, h2⟩
  · exact .inl ⟨h1, h2, hb⟩
  · exact .inr ⟨g, _, h1, grown_of_below hb _, by rw [hb.block g (Array.getElem?_eq_some_iff.1 h2).1]; exact h2, Fl.start M⟩
theorem St.at {W1 wr : World} {A : Option Addr} {M : List Int} {F : Array Value → Prop} (h : St W1 A M F wr) {k : Int} (h0 : 0 ≤ k) (h1 : k < M.length) :
    ∃ g cs, A = some ⟨g, 0, none⟩ ∧ W1.grownBy wr (some g) ∧ wr.heap[g]? = some (.cells cs 5 (0, 0)) ∧ F cs := by
  rcases h with ⟨_, rfl, _⟩ | h
  · simp at h1; omega
  · exact h
theorem rdOf_wasT (L : Nat → List Int) (n k : Nat) (hk : k < n) : rdOf ByteArray.empty (wasT L n) (k : Int) = strOfNums (L k) := by
  simp [rdOf, wasT, hk]
end Go.Proofs.YtbdocgddidcfeaaDoor
namespace Go.Proofs.YtbdocgddidcfeaaDoor
open Go.RowKit Go.Proofs.YtbdocgddidcfeaaDoorW.PrintWords Go.Proofs.YtbdocgddidcfeaaDoorW.PrintLast Go.Proofs.YtbdocgddidcfeaaDoorW.PrintMore
set_option linter.unusedVariables false
set_option linter.unusedSimpArgs false
def bN (s : Nat) : Nat := if s % 2 = 1 then s / 2 ^^^ 3988292384 else s / 2
theorem bN_high (h u : Nat) : bN (2 * h ^^^ u) = h ^^^ bN u := by
  have h1 : (2 * h ^^^ u) / 2 = h ^^^ u / 2 := by
    have := Nat.xor_div_two_pow (a := 2 * h) (b := u) (n := 1)
    rw [show (2 : Nat) ^ 1 = 2 by rfl, show 2 * h / 2 = h by omega] at this
    exact this
  have h2 : (2 * h ^^^ u) % 2 = u % 2 := by
    have := Nat.xor_mod_two_pow (a := 2 * h) (b := u) (n := 1)
    rw [show (2 : Nat) ^ 1 = 2 by rfl, show 2 * h % 2 = 0 by omega, Nat.zero_xor] at this
    exact this
  unfold bN
  rw [h1, h2]
  split
  · rw [Nat.xor_assoc]
  · rfl
theorem bN_four (s : Nat) : bN (bN (bN (bN s))) = nstepN s := by
  have hs := split16 s
  have hl : ∀ u : Fin 16, bN (bN (bN (bN u.val))) = nibN u.val := by decide +kernel
  have h1 := hl ⟨s % 16, by omega⟩
  have e : bN (bN (bN (bN s))) = s / 16 ^^^ bN (bN (bN (bN (s % 16)))) := by
    conv => lhs; rw [← hs]
    rw [show 16 * (s / 16) = 2 * (8 * (s / 16)) by omega, bN_high, show 8 * (s / 16) = 2 * (4 * (s / 16)) by omega, bN_high, show 4 * (s / 16) = 2 * (2 * (s / 16)) by omega, bN_high, bN_high]
  rw [e]
  unfold nstepN
  rw [← h1]
theorem bN_lt (s : Nat) (h : s < 4294967296) : bN s < 4294967296 := by
  unfold bN
  split
  · exact Nat.xor_lt_two_pow (n := 32) (by omega) (by omega)
  · omega
def bstep (s : Int) : Int := if s % 2 = 1 then bits .xor .u32 (s / 2) 3988292384 else s / 2
theorem bstep_cast (s : Nat) (h : s < 4294967296) : bstep (s : Int) = ((bN s : Nat) : Int) := by
  unfold bstep bN
  by_cases hs : s % 2 = 1
  · rw [if_pos hs, if_pos (by omega), show (s : Int) / 2 = ((s / 2 : Nat) : Int) by omega, show (3988292384 : Int) = ((3988292384 : Nat) : Int) by rfl, u32_xor_nat _ _ (by omega) (by omega)]
  · rw [if_neg hs, if_neg (by omega)]
    omega
def bIt : Nat → Int → Int
  | 0, s => s
  | k + 1, s => bstep (bIt k s)
theorem bIt_range (s : Int) (h0 : 0 ≤ s) (h1 : s < 4294967296) : ∀ k, 0 ≤ bIt k s ∧ bIt k s < 4294967296
  | 0 => ⟨h0, h1⟩
  | k + 1 => by
    have ih := bIt_range s h0 h1 k
    show 0 ≤ bstep (bIt k s) ∧ bstep (bIt k s) < 4294967296
    unfold bstep
    split
    · exact u32_range _ _
    · omega
theorem bIt_eight (s : Int) (h0 : 0 ≤ s) (h1 : s < 4294967296) : bIt 8 s = nstep (nstep s) := by
  obtain ⟨n, rfl⟩ : ∃ n : Nat, s = (n : Int) := ⟨s.toNat, by omega⟩
  have hn : n < 4294967296 := by omega
  have b1 := bN_lt n hn; have b2 := bN_lt _ b1; have b3 := bN_lt _ b2; have b4 := bN_lt _ b3; have b5 := bN_lt _ b4; have b6 := bN_lt _ b5; have b7 := bN_lt _ b6
  simp only [bIt]
  rw [bstep_cast n hn, bstep_cast _ b1, bstep_cast _ b2, bstep_cast _ b3, bstep_cast _ b4, bstep_cast _ b5, bstep_cast _ b6, bstep_cast _ b7, bN_four, bN_four, nstep_cast n hn, nstep_cast _ (nstepN_lt n hn)]
theorem u32_and1 (x : Int) (h0 : 0 ≤ x) (h1 : x < 4294967296) : bits .and .u32 x 1 = x % 2 := bits_mask .u32 32 (by decide) wraps_u32 1 (by decide) x h0 h1
set_option maxHeartbeats 4000000 in
set_option maxRecDepth 100000 in
theorem rSum_calls (A0 : Option Addr) (c0 : Nat) (l0 : List Int) (w : World)
    (hr0 : Kd.C (Kd.int .u8) w A0 l0.length l0) (hl : l0.length ≤ 140737488355328) :
    Calls Tryd.prog 45 #[.slice A0 l0.length c0] w
      fun e w' => e = .returned (.int .i64 (sumF l0)) ∧ w' = w := by
  have HR := Aside0.mk hr0
  clear hr0
  go_enter Tryd.func45, Tryd.ntmps45
  go_wp2
  go_loop [3, 4] (fun vs vi => ∃ (s i : Int), vs = .int .u32 s ∧ vi = .int .i64 i ∧ 0 ≤ i ∧ i ≤ l0.length ∧ 0 ≤ s ∧ s < 4294967296 ∧ Aside0 (s = (l0.take i.toNat).foldl sstep 4294967295)) (fun _ vi => (l0.length - intOf vi).toNat)
  case atStart => exact ⟨_, _, rfl, rfl, by omega, by omega, by omega, by omega, ⟨rfl⟩⟩
  case round =>
    obtain ⟨s, i, rfl, rfl, hi0, hi1, hs0, hs1, HS⟩ := hrel
    by_cases hx : i < l0.length
    · have dx : decide (i < (l0.length : Int)) = true := decide_eq_true hx
      obtain ⟨ad, e, hcell⟩ := Kd.at_int HR.out i hi0 hx
      cases e
      obtain ⟨c, hc⟩ : ∃ c, c = rd l0 i := ⟨_, rfl⟩
      rw [← hc] at hcell
      have HC := Aside0.mk hc; clear hc
      have hr := u32_range s (c % 4294967296)
      obtain ⟨t, ht⟩ : ∃ t, t = bits .xor .u32 s (c % 4294967296) := ⟨_, rfl⟩
      rw [← ht] at hr
      have HTT := Aside0.mk ht
      go_wp2
      rw [← ht]
      clear ht
      go_loop [3, 5] (fun vs vk => ∃ (s k : Int), vs = .int .u32 s ∧ vk = .int .i64 k ∧ 0 ≤ k ∧ k ≤ 8 ∧ Aside0 (s = bIt k.toNat t)) (fun _ vk => (8 - intOf vk).toNat)
      case atStart => exact ⟨_, _, rfl, rfl, by omega, by omega, ⟨rfl⟩⟩
      case round =>
        obtain ⟨u, k, rfl, rfl, hk0, hk1, HU⟩ := hrel
        by_cases hy : k < 8
        · have dy : decide (k < 8) = true := decide_eq_true hy
          have hur := bIt_range t hr.1 hr.2 k.toNat
          rw [← HU.out] at hur
          have h1 := u32_and1 u hur.1 hur.2
          have hst : bIt (k + 1).toNat t = bstep u := by
            rw [show (k + 1).toNat = k.toNat + 1 by omega, HU.out]; rfl
          have HST := Aside0.mk hst; clear hst
          by_cases ho : u % 2 = 1
          · have e1 : decide (bits .and .u32 u 1 = 1) = true := by rw [h1]; exact decide_eq_true ho
            have e2 : (bits .and .u32 u 1 == 1) = true := by rw [h1, ho]; rfl
            have e3 : bits .and .u32 u 1 = 1 := by rw [h1]; exact ho
            go_wp2
            refine ⟨⟨_, k + 1, rfl, rfl, by omega, by omega, ⟨?_⟩⟩, by simp only [intOf]; omega⟩
            rw [HST.out]
            unfold bstep
            rw [if_pos ho]
          · have e1 : decide (bits .and .u32 u 1 = 1) = false := by rw [h1]; exact decide_eq_false ho
            have e2 : (bits .and .u32 u 1 == 1) = false := by rw [h1]; simpa using ho
            have e3 : ¬ bits .and .u32 u 1 = 1 := by rw [h1]; exact ho
            go_wp2
            refine ⟨⟨_, k + 1, rfl, rfl, by omega, by omega, ⟨?_⟩⟩, by simp only [intOf]; omega⟩
            rw [HST.out]
            unfold bstep
            rw [if_neg ho]
        · have dy : decide (k < 8) = false := decide_eq_false hy
          have hu8 : u = sstep s c := by
            rw [HU.out, show k.toNat = 8 by omega, bIt_eight t hr.1 hr.2, HTT.out]
            rfl
          have hrg := sstep_range s c
          rw [← hu8] at hrg
          have HU8 := Aside0.mk hu8
          clear hu8
          go_wp2
          refine ⟨⟨_, _, rfl, rfl, by omega, by omega, hrg.1, hrg.2, ⟨?_⟩⟩, by simp only [intOf]; omega⟩
          rw [fold_take l0 i hi0 hx, ← HS.out, ← HC.out, HU8.out]
    · have dx : decide (i < (l0.length : Int)) = false := decide_eq_false hx
      go_wp2
      go_ret
      have hsf : sumF l0 = 4294967295 - s := by
        rw [HS.out, List.take_of_length_le (by omega)]; rfl
      rw [hsf]
      rw [← max_xor s hs0 hs1]
      have hx2 := u32_range IntKind.u32.max s
      have hx3 : wrap64 (bits .xor .u32 IntKind.u32.max s) = bits .xor .u32 IntKind.u32.max s := by simp only [wrap64]; omega
      rw [hx3]
      exact ⟨rfl, rfl⟩
set_option maxHeartbeats 4000000 in
set_option maxRecDepth 100000 in
/-- Bytes in other memory, and others behind them. -/
theorem copied_callsF (A0 A1 : Option Addr) (c0 c1 n0 n1 : Nat) (l0 l1 : List Int) (w : World) (hn0 : l0.length = n0) (hn1 : l1.length = n1)
    (hr0 : Kd.C (Kd.int .u8) w A0 n0 l0) (hr1 : Kd.C (Kd.int .u8) w A1 n1 l1) (hl : n0 + n1 ≤ 140737488355328) :
    Calls Tryd.prog 46 #[.slice A0 n0 c0, .slice A1 n1 c1] w
      fun e w' => ∃ v, e = .returned v ∧ RS w.heap.size w' v (l0 ++ l1) ∧ Below w.heap.size w w' := by
  have HR0 := Aside0.mk hr0; have HR1 := Aside0.mk hr1; have HN0 := Aside0.mk hn0; have HN1 := Aside0.mk hn1
  clear hr0 hr1 hn0 hn1
  have HB := Aside0.mk (below_alloc (Below.refl w.heap.size w) (.cells #[] 5))
  have HO0 : Aside0 (RF w.heap.size (w.alloc (.cells #[] 5)) (.slice (some ⟨w.heap.size, 0, none⟩) 0 0) [] []) := ⟨.inr ⟨w.heap.size, rfl, Nat.le_refl _, (MapKept.heap_alloc w _).1, by simp, by simp⟩⟩
  go_enter Tryd.func46, Tryd.ntmps46
  go_wp2_with (first | ((with_reducible refine gate_builtin (b := .append) (xs := #[.tmp 5, .tmp 6]) rfl ?_); at_builtin; refine wp_rf_rows (w0 := w) w.heap.size rfl (.tmp 5) (.tmp 6) rfl _ [] [] l0 _ _ _ rfl rfl HO0.out (Kd.C_below HR0.out HB.out) HB.out (below_size HB.out) (by simp; omega) ?_; intro v1 w1 sp1 ho hb hg; have HO1 := Aside0.mk ho; clear HB; have HB := Aside0.mk hb; clear ho hb hg) | ((with_reducible refine gate_builtin (b := .append) (xs := #[.tmp 7, .tmp 8]) rfl ?_); at_builtin; refine wp_rf_rows (w0 := w) w.heap.size rfl (.tmp 7) (.tmp 8) rfl _ l0 sp1 l1 _ _ _ rfl rfl HO1.out (Kd.C_below HR1.out HB.out) HB.out (below_size HB.out) (by have := HN0.out; omega) ?_; intro v2 w2 sp2 ho hb hg; have HO2 := Aside0.mk ho; clear HB; have HB := Aside0.mk hb; clear ho hb hg))
  go_ret
  exact ⟨_, rfl, ⟨sp2, HO2.out⟩, HB.out⟩
end Go.Proofs.YtbdocgddidcfeaaDoor
namespace Go.Proofs.YtbdocgddidcfeaaDoor
open Go.RowKit Go.Proofs.YtbdocgddidcfeaaDoorW.PrintWords Go.Proofs.YtbdocgddidcfeaaDoorW.PrintLast Go.Proofs.YtbdocgddidcfeaaDoorW.PrintMore
set_option linter.unusedVariables false
set_option linter.unusedSimpArgs false
set_option maxHeartbeats 4000000 in
set_option maxRecDepth 100000 in
theorem rFrame_callsF (A0 : Option Addr) (c0 m : Nat) (l0 : List Int) (w : World) (hm : l0.length = m)
    (hr0 : Kd.C (Kd.int .u8) w A0 m l0) (hl : m ≤ 140737488355318) :
    Calls Tryd.prog 40 #[.slice A0 m c0] w
      fun e w' => ∃ v, e = .returned v ∧ RS w.heap.size w' v (frameF l0) ∧ Below w.heap.size w w' := by
  have HM := Aside0.mk hm
  have hc := rSum_calls A0 c0 l0 w (by rw [hm]; exact hr0) (by omega)
  rw [hm] at hc
  have HR := Aside0.mk hr0
  have hs := sumF_range l0
  have hff : frameF l0 = l0 ++ [sumF l0 % 256, sumF l0 / 256 % 256, sumF l0 / 65536 % 256, sumF l0 / 16777216] := rfl
  rw [hff]
  clear hr0 hff hm
  generalize sumF l0 = s at hs hc ⊢
  have t1 : Int.tdiv s 256 = s / 256 := Int.tdiv_eq_ediv_of_nonneg hs.1
  have t2 : Int.tdiv s 65536 = s / 65536 := Int.tdiv_eq_ediv_of_nonneg hs.1
  have t3 : Int.tdiv s 16777216 = s / 16777216 := Int.tdiv_eq_ediv_of_nonneg hs.1
  have t4 : s / 16777216 % 256 = s / 16777216 := by omega
  go_enter Tryd.func40, Tryd.ntmps40
  go_wp2_with fail
  ((with_reducible refine hc.mono ?_); rintro e_ W1 ⟨rfl, rfl⟩)
  clear hc
  go_wp2_with fail
  have hC : Kd.C (Kd.int .u8) (W1.alloc (Obj.cells #[.int .u8 (s % 256), .int .u8 (s / 256 % 256), .int .u8 (s / 65536 % 256), .int .u8 (s / 16777216)] 5)) (some ⟨W1.heap.size, 0, none⟩) 4 [s % 256, s / 256 % 256, s / 65536 % 256, s / 16777216] := C_pre W1 [s % 256, s / 256 % 256, s / 65536 % 256, s / 16777216] [] 5 (by simp) _ rfl
  ((with_reducible refine (copied_callsF A0 (some ⟨W1.heap.size, 0, none⟩) c0 4 m 4 l0 [s % 256, s / 256 % 256, s / 65536 % 256, s / 16777216] _ HM.out rfl (Kd.C_alloc HR.out _) hC (by omega)).mono ?_); rintro e_ W2 ⟨v0, rfl, ho_, hb_⟩)
  have hb1 := below_alloc (Below.refl W1.heap.size W1) (Obj.cells #[.int .u8 (s % 256), .int .u8 (s / 256 % 256), .int .u8 (s / 65536 % 256), .int .u8 (s / 16777216)] 5)
  have HO := Aside0.mk (ho_.lower (below_size hb1)); have HB := Aside0.mk (below_step hb1 hb_)
  clear hC hb1 ho_ hb_
  go_wp2
  go_ret
  exact ⟨_, rfl, HO.out, HB.out⟩
def opF (l : List Int) : List Int × Bool := if l.length < 4 then ([], false) else if frameF (l.take (l.length - 4)) = l then (l.take (l.length - 4), true) else ([], false)
theorem equal_l0 (x y : List Int) (hl : x.length = y.length) (hm : x.length ≤ 9223372036854775806) : ∀ (k i : Nat), i ≤ x.length → x.length < k + i → PLinkPlays.slices_Equal_byte_byte.l0 k x y (x.length : Int) (i : Int) = some (decide (x.drop i = y.drop i))
  | 0, i, h, hk => by omega
  | k + 1, i, h, hk => by
    unfold PLinkPlays.slices_Equal_byte_byte.l0
    by_cases hi : i < x.length
    · have hi2 : i < y.length := by omega
      rw [if_pos (by omega), if_pos (by omega), if_pos (by omega), if_pos (by omega), rd_get' hi, rd_get' hi2, show x.drop i = x[i] :: x.drop (i + 1) from List.drop_eq_getElem_cons hi, show y.drop i = y[i] :: y.drop (i + 1) from List.drop_eq_getElem_cons hi2]
      by_cases he : x[i] = y[i]
      · rw [if_pos he, show wrap64 ((i : Int) + 1) = ((i + 1 : Nat) : Int) by simp only [wrap64]; omega, equal_l0 x y hl hm k (i + 1) (by omega) (by omega)]
        refine congrArg some (decide_eq_decide.2 ⟨fun h => by rw [he, h], fun h => by injection h⟩)
      · rw [if_neg he]
        refine congrArg some (decide_eq_false fun h => he ?_).symm
        injection h
    · rw [if_neg (by omega), List.drop_of_length_le (by omega), List.drop_of_length_le (by omega)]
      simp
theorem equal_law (x y : List Int) (hm : x.length ≤ 9223372036854775806) : PLinkPlays.slices_Equal_byte_byte.f (x.length + 1) x y = some (decide (x = y)) := by
  unfold PLinkPlays.slices_Equal_byte_byte.f
  by_cases hl : x.length = y.length
  · rw [if_pos (by omega)]
    have := equal_l0 x y hl hm (x.length + 1) 0 (by omega) (by omega)
    simpa using this
  · rw [if_neg (by omega)]
    have : x ≠ y := fun e => hl (by rw [e])
    simp [this]
theorem Equal_calls (A0 A1 : Option Addr) (c0 c1 n0 n1 : Nat) (x y : List Int) (w : World) (hn0 : x.length = n0) (hn1 : y.length = n1)
    (hr0 : Kd.C (Kd.int .u8) w A0 n0 x) (hc0 : n0 ≤ c0) (hr1 : Kd.C (Kd.int .u8) w A1 n1 y) (hc1 : n1 ≤ c1) (hm : n0 ≤ 9223372036854775806) :
    Calls Tryd.prog 38 #[.slice A0 n0 c0, .slice A1 n1 c1] w fun e w' => e = .returned (.bool (decide (x = y))) ∧ Drawn0 w w' := by
  subst hn0 hn1
  exact PLinkPlays.slices_Equal_byte_byte.calls (x.length + 1) A0 c0 x A1 c1 y _ w hr0 hc0 hr1 hc1 (equal_law x y hm)
theorem cutTo (A : Option Addr) (m c j : Nat) (hc : j ≤ c) (W : World) : (Instr.slice 30 (.slice A m c) none (some (.int .i64 (j : Int))) none).run Tryd.prog W = .ok (.slice A j c) W := by
  obtain ⟨i0, hi0, _, hsz0, _⟩ := info_parts infoB
  have ht := Tryd.underlying30
  have hel : Tryd.prog.elem 30 = 5 := by simp [Program.elem, ht]
  have hu : Tryd.prog.underlying 30 = some (.slice (Tryd.prog.elem 30)) := by rw [hel]; exact ht
  have ha : (A.map fun x => x.add 0) = A := by cases A <;> simp [Addr.add]
  rw [run_slice_h W 30 A m c hu .i64 (j : Int) (by omega) (by omega), hel]
  simp [sizeOf, typeInfo, hi0, hsz0, sliced, Result.andThen, ha]
theorem C_first {w : World} {A : Option Addr} {n : Nat} {xs : List Int} (h : Kd.C (Kd.int .u8) w A n xs) (j : Nat) (hj : j ≤ n) : Kd.C (Kd.int .u8) w A j (xs.take j) := by
  have hn : xs.length = n := h.1
  refine ⟨by rw [List.length_take]; omega, Nat.le_trans hj h.2.1, fun h0 => ?_⟩
  obtain ⟨ad, h1, h2⟩ := h.2.2 (by omega)
  exact ⟨ad, h1, fun i p hi => h2 i p (by
    rw [List.getElem?_take] at hi
    split at hi
    · exact hi
    · cases hi)⟩
end Go.Proofs.YtbdocgddidcfeaaDoor
namespace Go.Proofs.YtbdocgddidcfeaaDoor
open Go.RowKit Go.Proofs.YtbdocgddidcfeaaDoorW.PrintWords Go.Proofs.YtbdocgddidcfeaaDoorW.PrintLast Go.Proofs.YtbdocgddidcfeaaDoorW.PrintMore
set_option linter.unusedVariables false
set_option linter.unusedSimpArgs false
theorem frameF_len (l : List Int) : (frameF l).length = l.length + 4 := by simp [frameF]
set_option maxHeartbeats 4000000 in
set_option maxRecDepth 100000 in
theorem Open_callsF (A0 : Option Addr) (c0 : Nat) (l0 : List Int) (w : World)
    (hr0 : Kd.C (Kd.int .u8) w A0 l0.length l0) (hc0 : l0.length ≤ c0) (hl : l0.length ≤ 140737488355318) (hT : Tab w) :
    Calls Tryd.prog 26 #[.slice A0 l0.length c0] w
      fun e w' => ∃ v, e = .returned (.tuple #[v, .bool (opF l0).2]) ∧ RS w.heap.size w' v (opF l0).1 ∧ Below w.heap.size w w' := by
  have HR := Aside0.mk hr0; have HT := Aside0.mk hT
  clear hr0 hT
  by_cases hs : l0.length < 4
  · have hf : opF l0 = ([], false) := if_pos hs
    rw [hf]
    clear hf
    obtain ⟨m, hm⟩ : ∃ m, m = l0.length := ⟨_, rfl⟩
    rw [← hm] at hl hs hc0 ⊢
    clear hm
    have e1 : decide ((m : Int) - 4 < 0) = true := decide_eq_true (by omega)
    go_enter Tryd.func26, Tryd.ntmps26
    go_wp2
    go_ret2
    exact ⟨_, rfl, RS.nil _ _, Below.refl _ _⟩
  · have hf : opF l0 = if frameF (l0.take (l0.length - 4)) = l0 then (l0.take (l0.length - 4), true) else ([], false) := if_neg hs
    obtain ⟨n, hn⟩ : ∃ n, l0.length = n + 4 := ⟨l0.length - 4, by omega⟩
    have hCR := HR.out
    rw [hn] at hCR hl hc0 hf ⊢
    rw [show n + 4 - 4 = n by omega] at hf
    have e1 : decide (((n + 4 : Nat) : Int) - 4 < 0) = false := decide_eq_false (by omega)
    have e0 : ((n + 4 : Nat) : Int) - 4 = (n : Int) := by omega
    have e2 : decide ((n : Int) < 0) = false := decide_eq_false (by omega)
    have hcut := cutTo A0 (n + 4) c0 n (by omega)
    have hC1 := C_first hCR n (by omega)
    have hln : (l0.take n).length = n := by rw [List.length_take]; omega
    have hfr := fun W (h : Kd.C (Kd.int .u8) W A0 n (l0.take n)) (hT : Tab W) => Frame_callsF A0 c0 (l0.take n) W (by rw [hln]; exact h) (by omega) hT
    rw [hln] at hfr
    have hfl : (frameF (l0.take n)).length = n + 4 := by rw [frameF_len, hln]
    by_cases hx : frameF (l0.take n) = l0
    · have hf2 := hf
      rw [if_pos hx] at hf2
      rw [hf2]
      have e3 : decide (frameF (l0.take n) = l0) = true := decide_eq_true hx
      have HLN := Aside0.mk hln; have HFL := Aside0.mk hfl; have HN := Aside0.mk hn; have HCR := Aside0.mk hCR; have HC1 := Aside0.mk hC1; have E3 := Aside0.mk e3; have HX := Aside0.mk hx
      clear hln hfl hn hCR hC1 hf hf2 e3 hx
      go_enter Tryd.func26, Tryd.ntmps26
      go_wp2_with fail
      ((with_reducible refine (hfr _ HC1.out HT.out).mono ?_); rintro e_ W1 ⟨v0, rfl, ho_, hb_⟩)
      obtain ⟨sp0, ho0⟩ := ho_
      obtain ⟨A1, c1, hv⟩ := Kd.R_slice ho0.R
      subst hv
      have HB := Aside0.mk hb_
      have hRR := Kd.R_reads' ho0.R
      rw [HFL.out] at hRR
      have HRR := Aside0.mk hRR
      clear hb_ ho0 hRR hfr
      rw [HFL.out]
      go_wp2_with fail
      ((with_reducible refine (Equal_calls _ _ _ _ _ _ _ _ _ HFL.out HN.out HRR.out.2.2 HRR.out.2.1 (Kd.C_below HCR.out HB.out) hc0 (by omega)).mono ?_); rintro e_ W2 ⟨rfl, hd_⟩)
      rw [E3.out]
      have HB2 := Aside0.mk (below_step HB.out hd_.below)
      clear hd_
      obtain ⟨ad, hA, hcs⟩ := HCR.out.2.2 (by omega)
      subst hA
      have hmk : ∀ W : World, (Instr.makeSlice 30 (.int .i64 0) (.int .i64 (n : Int))).run Tryd.prog W = .ok (.slice (some ⟨W.heap.size, 0, none⟩) 0 n) (W.alloc (.cells (madeCells #[.int .u8 0] n) 5)) := by
        intro W
        obtain ⟨i0, hi0, hz0, hsz0, hby⟩ := info_parts infoB
        have h := run_make (P := Tryd.prog) W 30 5 i0 (.int .u8 0) Tryd.underlying30 hi0 hz0 .i64 .i64 (0 : Int) (n : Int) (by omega) (by omega) (by rw [hby]; omega) (by omega)
        rw [hsz0, Nat.mul_one, Int.toNat_natCast] at h
        exact h
      have hC2 := C_cells (Kd.C_drew (Kd.C_alloc (C_first (Kd.C_below HCR.out HB2.out) n (by omega)) (.cells (madeCells #[.int .u8 0] n) 5))) HLN.out.symm
      have hload : (loadCellsFrom ad 0 n #[]).run Tryd.prog (W2.alloc (.cells (madeCells #[.int .u8 0] n) 5)).drew = .ok ((l0.take n).map (Value.int .u8)).toArray (W2.alloc (.cells (madeCells #[.int .u8 0] n) 5)).drew := by
        have h := run_loadCells_list (P := Tryd.prog) _ ad _ hC2
        rw [List.length_map, HLN.out] at h
        exact h
      have hmn : (madeCells #[Value.int .u8 0] n).size = n := by simp [madeCells]
      have hstore : (storeCells ⟨W2.heap.size, 0, none⟩ ((l0.take n).map (Value.int .u8))).run Tryd.prog (W2.alloc (.cells (madeCells #[.int .u8 0] n) 5)).drew = .ok () (W2.alloc (.cells ((l0.take n).map (Value.int .u8)).toArray 5)).drew := by
        have h := run_storeCells_at Tryd.prog W2.heap.size 0 5 ((l0.take n).map (Value.int .u8)) 0 (madeCells #[.int .u8 0] n) (W2.alloc (.cells (madeCells #[.int .u8 0] n) 5)).drew (MapKept.heap_alloc W2 _).1 (by rw [hmn, List.length_map, HLN.out]; omega) (by intro u hu; obtain ⟨x, _, rfl⟩ := List.mem_map.1 hu; rfl)
        rw [h]
        have e : ((madeCells #[Value.int .u8 0] n).toList.take (0 + 0) ++ (l0.take n).map (Value.int .u8) ++ (madeCells #[Value.int .u8 0] n).toList.drop (0 + 0 + ((l0.take n).map (Value.int .u8)).length)).toArray = ((l0.take n).map (Value.int .u8)).toArray := by
          rw [List.drop_of_length_le (by rw [Array.length_toList, hmn, List.length_map, HLN.out]; omega)]
          simp
        rw [e]
        show Result.ok () ((W2.alloc _).setRow W2.heap.size _).drew = _
        rw [World.setRow_alloc_new]
      clear hC2 hmn
      generalize hcs2 : (l0.take n).map (Value.int .u8) = cs at hload hstore
      have HCS := Aside0.mk hcs2
      clear hcs hcs2
      go_wp2
      go_region
      go_wp2
      go_ret2
      refine ⟨_, rfl, ⟨[], .inr ⟨W2.heap.size, by rw [HLN.out]; rfl, below_size HB2.out, ?_, by rw [HLN.out]; simp only [maxLen, List.length_nil]; omega, by simp⟩⟩, below_drew (below_alloc HB2.out _)⟩
      rw [List.append_nil, HCS.out]
      exact (MapKept.heap_alloc W2 _).1
    · have hf2 := hf
      rw [if_neg hx] at hf2
      rw [hf2]
      have e3 : decide (frameF (l0.take n) = l0) = false := decide_eq_false hx
      have HLN := Aside0.mk hln; have HFL := Aside0.mk hfl; have HN := Aside0.mk hn; have HCR := Aside0.mk hCR; have HC1 := Aside0.mk hC1; have E3 := Aside0.mk e3; have HX := Aside0.mk hx
      clear hln hfl hn hCR hC1 hf hf2 e3 hx
      go_enter Tryd.func26, Tryd.ntmps26
      go_wp2_with fail
      ((with_reducible refine (hfr _ HC1.out HT.out).mono ?_); rintro e_ W1 ⟨v0, rfl, ho_, hb_⟩)
      obtain ⟨sp0, ho0⟩ := ho_
      obtain ⟨A1, c1, hv⟩ := Kd.R_slice ho0.R
      subst hv
      have HB := Aside0.mk hb_
      have hRR := Kd.R_reads' ho0.R
      rw [HFL.out] at hRR
      have HRR := Aside0.mk hRR
      clear hb_ ho0 hRR hfr
      rw [HFL.out]
      go_wp2_with fail
      ((with_reducible refine (Equal_calls _ _ _ _ _ _ _ _ _ HFL.out HN.out HRR.out.2.2 HRR.out.2.1 (Kd.C_below HCR.out HB.out) hc0 (by omega)).mono ?_); rintro e_ W2 ⟨rfl, hd_⟩)
      rw [E3.out]
      have HB2 := Aside0.mk (below_step HB.out hd_.below)
      clear hd_
      go_wp2
      go_ret2
      exact ⟨_, rfl, RS.nil _ _, HB2.out⟩
theorem bytesOf_str (a : List Int) (h : ∀ x ∈ a, 0 ≤ x ∧ x < 256) : bytesOf (strOfNums a) = a := by
  unfold bytesOf
  rw [strOfNums_data, List.map_map]
  have : ∀ x ∈ a, ((fun b : UInt8 => (b.toNat : Int)) ∘ fun n : Int => UInt8.ofNat n.toNat) x = x := by
    intro x hx
    have := h x hx
    show ((UInt8.ofNat x.toNat).toNat : Int) = x
    rw [UInt8.toNat_ofNat']
    omega
  rw [List.map_congr_left this]
  simp
theorem strList_inj {a b : List Int} (ha : ∀ x ∈ a, 0 ≤ x ∧ x < 256) (hb : ∀ x ∈ b, 0 ≤ x ∧ x < 256) : (strOfNums a).toList = (strOfNums b).toList ↔ a = b := by
  constructor
  · intro h
    rw [ByteArray.toList_eq, ByteArray.toList_eq] at h
    rw [← bytesOf_str a ha, ← bytesOf_str b hb]
    unfold bytesOf
    rw [h]
  · intro h
    rw [h]
theorem frameF_range (l : List Int) (h : ∀ x ∈ l, 0 ≤ x ∧ x < 256) : ∀ x ∈ frameF l, 0 ≤ x ∧ x < 256 := by
  intro x hx
  have hs := sumF_range l
  rcases List.mem_append.1 hx with hx | hx
  · exact h x hx
  · simp only [List.mem_cons, List.not_mem_nil, or_false] at hx
    rcases hx with rfl | rfl | rfl | rfl <;> omega
set_option maxHeartbeats 4000000 in
set_option maxRecDepth 100000 in
theorem rOpen_callsF (A0 : Option Addr) (c0 : Nat) (l0 : List Int) (w : World)
    (hr0 : Kd.C (Kd.int .u8) w A0 l0.length l0) (hc0 : l0.length ≤ c0) (hb : ∀ x ∈ l0, 0 ≤ x ∧ x < 256) (hl : l0.length ≤ 140737488355318) :
    Calls Tryd.prog 47 #[.slice A0 l0.length c0] w
      fun e w' => ∃ v, e = .returned (.tuple #[v, .bool (opF l0).2]) ∧ RS w.heap.size w' v (opF l0).1 ∧ Below w.heap.size w w' := by
  have HR := Aside0.mk hr0
  clear hr0
  by_cases hs : l0.length < 4
  · have hf : opF l0 = ([], false) := if_pos hs
    rw [hf]
    clear hf
    obtain ⟨m, hm⟩ : ∃ m, m = l0.length := ⟨_, rfl⟩
    rw [← hm] at hl hs hc0 ⊢
    clear hm
    have e1 : decide ((m : Int) < 4) = true := decide_eq_true (by omega)
    go_enter Tryd.func47, Tryd.ntmps47
    go_wp2
    go_ret2
    exact ⟨_, rfl, RS.nil _ _, Below.refl _ _⟩
  · have hf : opF l0 = if frameF (l0.take (l0.length - 4)) = l0 then (l0.take (l0.length - 4), true) else ([], false) := if_neg hs
    obtain ⟨n, hn⟩ : ∃ n, l0.length = n + 4 := ⟨l0.length - 4, by omega⟩
    have hCR := HR.out
    rw [hn] at hCR hl hc0 hf ⊢
    rw [show n + 4 - 4 = n by omega] at hf
    have e1 : decide (((n + 4 : Nat) : Int) < 4) = false := decide_eq_false (by omega)
    have e0 : ((n + 4 : Nat) : Int) - 4 = (n : Int) := by omega
    have hcut := cutTo A0 (n + 4) c0 n (by omega)
    have hC1 := C_first hCR n (by omega)
    have hln : (l0.take n).length = n := by rw [List.length_take]; omega
    have hfr := fun W (h : Kd.C (Kd.int .u8) W A0 n (l0.take n)) => rFrame_callsF A0 c0 n (l0.take n) W hln h (by omega)
    have hfb : ∀ x ∈ frameF (l0.take n), 0 ≤ x ∧ x < 256 := frameF_range _ (fun x hx => hb x (List.mem_of_mem_take hx))
    have hsx : (strOfNums (frameF (l0.take n))).toList = (strOfNums l0).toList ↔ frameF (l0.take n) = l0 := strList_inj hfb hb
    have conv0 : ∀ W', Below w.heap.size w W' → (convert 30 9 (.slice A0 (n + 4) c0)).run Tryd.prog W' = .ok (.string (strOfNums l0)) W' := fun W' hb' => Kd.C_string (P := Tryd.prog) Tryd.underlying30 Tryd.underlying5 Tryd.underlying9 (Kd.C_below hCR hb')
    clear hfb hb
    by_cases hx : frameF (l0.take n) = l0
    · have hf2 := hf
      rw [if_pos hx] at hf2
      rw [hf2]
      have hse : strOfNums (frameF (l0.take n)) = strOfNums l0 := by rw [hx]
      have HLN := Aside0.mk hln; have HN := Aside0.mk hn; have HCR := Aside0.mk hCR; have HC1 := Aside0.mk hC1; have HX := Aside0.mk hx
      have HB := Aside0.mk (Below.refl w.heap.size w)
      clear hln hn hCR hC1 hf hf2 hx hsx
      generalize hF : frameF (l0.take n) = Fr at hfr hse
      have HF := Aside0.mk hF
      clear hF
      have HSE := Aside0.mk hse; clear hse
      obtain ⟨s0, hs0⟩ : ∃ s0, s0 = strOfNums l0 := ⟨_, rfl⟩
      rw [← hs0] at conv0
      have HS0 := Aside0.mk hs0; clear hs0
      go_enter Tryd.func47, Tryd.ntmps47
      go_wp2_with fail
      refine wp_region_held_drew (S := fun w' => (convert 30 9 (.slice A0 (n + 4) c0)).run Tryd.prog w' = .ok (.string s0) w') (by kernel_rfl) (conv0 _ (below_drew1 HB.out)) (fun hHeld => ?_)
      refine wpAnyH_take (i := 0) (oi := { dst := some 13, op := Op.move (Operand.tmp 4), type := 30, pos := "ref.go:132", after := #[], guard := none }) (v := .slice A0 n c0) rfl (by kernel_rfl) (by kernel_rfl) (by kernel_rfl) (fun _ _ _ h => h) (Or.inl ⟨by rfl, by intro w_ hSw; (try dsimp only at hSw); go_simp⟩) (by assumption) ?_
      try simp only [Act.put, List.setIfInBounds_toArray, List.set_cons_zero, List.set_cons_succ]
      refine wpAnyH_take (i := 3) (oi := { dst := some 16, op := Op.move (Operand.tmp 0), type := 30, pos := "ref.go:132", after := #[], guard := none }) (v := .slice A0 (n + 4) c0) rfl (by kernel_rfl) (by kernel_rfl) (by kernel_rfl) (fun _ _ _ h => h) (Or.inl ⟨by rfl, by intro w_ hSw; (try dsimp only at hSw); go_simp⟩) (by assumption) ?_
      try simp only [Act.put, List.setIfInBounds_toArray, List.set_cons_zero, List.set_cons_succ]
      refine wpAnyH_take (i := 4) (oi := { dst := some 17, op := Op.convert 30 9 (Operand.tmp 16), type := 9, pos := "ref.go:132", after := #[{ on := 3, ground := Ground.data }], guard := none }) (v := .string s0) rfl (by kernel_rfl) (by kernel_rfl) (by kernel_rfl) (fun _ _ _ h => h) (Or.inl ⟨by rfl, by intro w_ hSw; (try dsimp only at hSw); go_simp⟩) (by assumption) ?_
      try simp only [Act.put, List.setIfInBounds_toArray, List.set_cons_zero, List.set_cons_succ]
      refine wpAnyH_ready (rs := [1]) (by kernel_rfl) (by simp) ?_
      refine AllReadyH.cons (o := { dst := some 14, op := Op.call { callee := Callee.value (Operand.func 40), args := #[Operand.tmp 13], argTypes := #[30] }, type := 30, pos := "ref.go:132", after := #[{ on := 0, ground := Ground.data }], guard := none }) rfl (fun K hK => ?_) AllReadyH.nil
      go_simp
      ((with_reducible refine (hfr _ (Kd.C_below HC1.out (below_drew1 HB.out))).mono ?_); rintro e_ W1 ⟨v_, rfl, ho_, hb_⟩)
      have n_ := Aside0.mk (below_step (below_drew1 HB.out) hb_); clear HB; have HB := n_; clear n_ hb_ hfr
      obtain ⟨sp_, ho_⟩ := ho_
      obtain ⟨A10, c10, e_, _, hC_⟩ := Kd.R_reads ho_.R
      subst e_
      have s2 := Kd.C_string (P := Tryd.prog) (c := c10) Tryd.underlying30 Tryd.underlying5 Tryd.underlying9 hC_
      clear ho_ hC_ hHeld
      rw [HSE.out, ← HS0.out] at s2
      go_wp2_with fail
      refine hK.out _ _ (conv0 _ HB.out) (fun hHeld => ?_)
      clear hK K
      try simp only [Act.put, List.setIfInBounds_toArray, List.set_cons_zero, List.set_cons_succ]
      refine wpAnyH_ready (rs := [2]) (by kernel_rfl) (by simp) ?_
      refine AllReadyH.cons (o := { dst := some 15, op := Op.convert 30 9 (Operand.tmp 14), type := 9, pos := "ref.go:132", after := #[{ on := 1, ground := Ground.data }], guard := none }) rfl (fun K hK => ?_) AllReadyH.nil
      go_simp
      refine hK.out _ _ (conv0 _ HB.out) (fun hHeld => ?_)
      clear hK K
      try simp only [Act.put, List.setIfInBounds_toArray, List.set_cons_zero, List.set_cons_succ]
      refine wpAnyH_take (i := 5) (oi := { dst := some 18, op := Op.binOp BinOp.neq 9 (Operand.tmp 15) (Operand.tmp 17) 9, type := 4, pos := "ref.go:132", after := #[{ on := 2, ground := Ground.data }, { on := 4, ground := Ground.data }], guard := none }) (v := .bool false) rfl (by kernel_rfl) (by kernel_rfl) (by kernel_rfl) (fun _ _ _ h => h) (Or.inl ⟨by rfl, by intro w_ hSw; (try dsimp only at hSw); go_simp⟩) (by assumption) ?_
      try simp only [Act.put, List.setIfInBounds_toArray, List.set_cons_zero, List.set_cons_succ]
      refine wpAnyH_done (by kernel_rfl) ?_ _
      have hbn := below_alloc HB.out (.cells #[] 5)
      have HBN := Aside0.mk hbn; clear hbn
      have HO0 : Aside0 (RF w.heap.size (W1.alloc (.cells #[] 5)) (.slice (some ⟨W1.heap.size, 0, none⟩) 0 0) [] []) := ⟨.inr ⟨W1.heap.size, rfl, below_size HB.out, (MapKept.heap_alloc W1 _).1, by simp, by simp⟩⟩
      go_wp2_with (first | ((with_reducible refine gate_builtin (b := .append) (xs := #[.tmp 19, .tmp 20]) rfl ?_); at_builtin; refine wp_rf_rows (w0 := w) w.heap.size rfl (.tmp 19) (.tmp 20) rfl _ [] [] (l0.take n) _ _ _ rfl rfl HO0.out (Kd.C_below HC1.out HBN.out) HBN.out (below_size HBN.out) (by simp; omega) ?_; intro v1 w1 sp1 ho hb hg; have HO1 := Aside0.mk ho; clear HB HBN; have HB := Aside0.mk hb; clear ho hb hg))
      go_ret2
      exact ⟨_, rfl, ⟨_, HO1.out⟩, HB.out⟩
    · have hf2 := hf
      rw [if_neg hx] at hf2
      rw [hf2]
      have hse : ¬ (strOfNums (frameF (l0.take n))).toList = (strOfNums l0).toList := fun h => hx (hsx.1 h)
      have HLN := Aside0.mk hln; have HN := Aside0.mk hn; have HCR := Aside0.mk hCR; have HC1 := Aside0.mk hC1; have HX := Aside0.mk hx
      have HB := Aside0.mk (Below.refl w.heap.size w)
      clear hln hn hCR hC1 hf hf2 hx hsx
      generalize hF : frameF (l0.take n) = Fr at hfr hse
      have HF := Aside0.mk hF
      clear hF
      obtain ⟨s0, hs0⟩ : ∃ s0, s0 = strOfNums l0 := ⟨_, rfl⟩
      rw [← hs0] at conv0 hse
      have HSE := Aside0.mk hse; clear hse
      clear hs0
      go_enter Tryd.func47, Tryd.ntmps47
      go_wp2_with fail
      refine wp_region_held_drew (S := fun w' => (convert 30 9 (.slice A0 (n + 4) c0)).run Tryd.prog w' = .ok (.string s0) w') (by kernel_rfl) (conv0 _ (below_drew1 HB.out)) (fun hHeld => ?_)
      refine wpAnyH_take (i := 0) (oi := { dst := some 13, op := Op.move (Operand.tmp 4), type := 30, pos := "ref.go:132", after := #[], guard := none }) (v := .slice A0 n c0) rfl (by kernel_rfl) (by kernel_rfl) (by kernel_rfl) (fun _ _ _ h => h) (Or.inl ⟨by rfl, by intro w_ hSw; (try dsimp only at hSw); go_simp⟩) (by assumption) ?_
      try simp only [Act.put, List.setIfInBounds_toArray, List.set_cons_zero, List.set_cons_succ]
      refine wpAnyH_take (i := 3) (oi := { dst := some 16, op := Op.move (Operand.tmp 0), type := 30, pos := "ref.go:132", after := #[], guard := none }) (v := .slice A0 (n + 4) c0) rfl (by kernel_rfl) (by kernel_rfl) (by kernel_rfl) (fun _ _ _ h => h) (Or.inl ⟨by rfl, by intro w_ hSw; (try dsimp only at hSw); go_simp⟩) (by assumption) ?_
      try simp only [Act.put, List.setIfInBounds_toArray, List.set_cons_zero, List.set_cons_succ]
      refine wpAnyH_take (i := 4) (oi := { dst := some 17, op := Op.convert 30 9 (Operand.tmp 16), type := 9, pos := "ref.go:132", after := #[{ on := 3, ground := Ground.data }], guard := none }) (v := .string s0) rfl (by kernel_rfl) (by kernel_rfl) (by kernel_rfl) (fun _ _ _ h => h) (Or.inl ⟨by rfl, by intro w_ hSw; (try dsimp only at hSw); go_simp⟩) (by assumption) ?_
      try simp only [Act.put, List.setIfInBounds_toArray, List.set_cons_zero, List.set_cons_succ]
      refine wpAnyH_ready (rs := [1]) (by kernel_rfl) (by simp) ?_
      refine AllReadyH.cons (o := { dst := some 14, op := Op.call { callee := Callee.value (Operand.func 40), args := #[Operand.tmp 13], argTypes := #[30] }, type := 30, pos := "ref.go:132", after := #[{ on := 0, ground := Ground.data }], guard := none }) rfl (fun K hK => ?_) AllReadyH.nil
      go_simp
      ((with_reducible refine (hfr _ (Kd.C_below HC1.out (below_drew1 HB.out))).mono ?_); rintro e_ W1 ⟨v_, rfl, ho_, hb_⟩)
      have n_ := Aside0.mk (below_step (below_drew1 HB.out) hb_); clear HB; have HB := n_; clear n_ hb_ hfr
      obtain ⟨sp_, ho_⟩ := ho_
      obtain ⟨A10, c10, e_, _, hC_⟩ := Kd.R_reads ho_.R
      subst e_
      have s2 := Kd.C_string (P := Tryd.prog) (c := c10) Tryd.underlying30 Tryd.underlying5 Tryd.underlying9 hC_
      clear ho_ hC_ hHeld
      generalize strOfNums Fr = s1 at s2 HSE
      have q1 := HSE.out
      go_wp2_with fail
      refine hK.out _ _ (conv0 _ HB.out) (fun hHeld => ?_)
      clear hK K
      try simp only [Act.put, List.setIfInBounds_toArray, List.set_cons_zero, List.set_cons_succ]
      refine wpAnyH_ready (rs := [2]) (by kernel_rfl) (by simp) ?_
      refine AllReadyH.cons (o := { dst := some 15, op := Op.convert 30 9 (Operand.tmp 14), type := 9, pos := "ref.go:132", after := #[{ on := 1, ground := Ground.data }], guard := none }) rfl (fun K hK => ?_) AllReadyH.nil
      go_simp
      refine hK.out _ _ (conv0 _ HB.out) (fun hHeld => ?_)
      clear hK K
      try simp only [Act.put, List.setIfInBounds_toArray, List.set_cons_zero, List.set_cons_succ]
      refine wpAnyH_take (i := 5) (oi := { dst := some 18, op := Op.binOp BinOp.neq 9 (Operand.tmp 15) (Operand.tmp 17) 9, type := 4, pos := "ref.go:132", after := #[{ on := 2, ground := Ground.data }, { on := 4, ground := Ground.data }], guard := none }) (v := .bool true) rfl (by kernel_rfl) (by kernel_rfl) (by kernel_rfl) (fun _ _ _ h => h) (Or.inl ⟨by rfl, by intro w_ hSw; (try dsimp only at hSw); go_simp⟩) (by assumption) ?_
      try simp only [Act.put, List.setIfInBounds_toArray, List.set_cons_zero, List.set_cons_succ]
      refine wpAnyH_done (by kernel_rfl) ?_ _
      go_wp2
      go_ret2
      exact ⟨_, rfl, RS.nil _ _, HB.out⟩
end Go.Proofs.YtbdocgddidcfeaaDoor
namespace Go.Proofs.YtbdocgddidcfeaaDoor
open Go.RowKit Go.Proofs.YtbdocgddidcfeaaDoorW.PrintWords Go.Proofs.YtbdocgddidcfeaaDoorW.PrintLast Go.Proofs.YtbdocgddidcfeaaDoorW.PrintMore
set_option linter.unusedVariables false
set_option linter.unusedSimpArgs false
set_option maxHeartbeats 4000000 in
set_option maxRecDepth 100000 in
theorem Kept_callsG (g : Nat) (A1 : Option Addr) (c1 : Nat) (l0 : List Int) (w0 w : World) (hg : w0.heap.size ≤ g) (hB : Below w0.heap.size w0 w)
    (hbk : w.heap[g]? = some (.cells (spareC l0 3) 5 (0, 0))) (hr : Kd.C (Kd.int .u8) w0 A1 l0.length l0) (hl : l0.length ≤ 140737488355318) :
    Calls Tryd.prog 32 #[.slice (some ⟨g, 0, none⟩) l0.length (l0.length + 3), .slice A1 l0.length c1] w
      fun e w' => e = .returned (.bool true) ∧ Below w0.heap.size w0 w' ∧ w.grownBy w' (some g) := by
  have HGR := Aside0.mk (World.grownBy.refl w (some g))
  have HR := Aside0.mk hr; have HB := Aside0.mk hB; have BK := Aside0.mk hbk; have HG := Aside0.mk hg
  clear hr hB hbk hg
  obtain ⟨n, hn⟩ : ∃ n, n = l0.length := ⟨_, rfl⟩
  rw [← hn] at hl ⊢
  have HN := Aside0.mk hn; clear hn
  have d1 : decide ((n : Int) + 3 ≤ ((n + 3 : Nat) : Int)) = true := decide_eq_true (by omega)
  go_enter Tryd.func32, Tryd.ntmps32
  go_wp2
  go_loopw [7] (fun v wr => ∃ i : Int, v = .int .i64 i ∧ 0 ≤ i ∧ i ≤ (n : Int) + 3 ∧ Aside0 (∃ cs, wr.heap[g]? = some (.cells cs 5 (0, 0)) ∧ ∀ j : Nat, i ≤ (j : Int) → cs[j]? = (spareC l0 3)[j]?) ∧ Aside0 (Below w0.heap.size w0 wr) ∧ Aside0 (w.grownBy wr (some g))) (fun v _ => ((n : Int) + 3 - intOf v).toNat)
  case atStart => exact ⟨0, rfl, by omega, by omega, ⟨_, BK.out, fun j _ => rfl⟩, HB, HGR⟩
  case round =>
    clear HB BK HGR
    obtain ⟨i, rfl, hi0, hi1, BK, HB, HGR⟩ := hrel
    by_cases hx : i < (n : Int) + 3
    · have dx : decide (i < (n : Int) + 3) = true := decide_eq_true hx
      obtain ⟨cs, hcs, hrest⟩ := BK.out
      by_cases hin : i < (n : Int)
      · have dn : decide (i < (n : Int)) = true := decide_eq_true hin
        have dn2 : decide ((n : Int) ≤ i) = false := decide_eq_false (by omega)
        obtain ⟨x, hxx⟩ : ∃ x, x = rd l0 i := ⟨_, rfl⟩
        have hcl : wr.cell? ⟨g, i.toNat, none⟩ = some (.int .u8 x) := by
          rw [blk_cell hcs, hrest _ (by omega), spare3_lo l0 i.toNat (by have := HN.out; omega), Int.toNat_of_nonneg hi0, hxx]
        have hfr := blk_frozen hcs i.toNat
        have hrc := Kd.C_below HR.out HB.out
        rw [← HN.out] at hrc
        obtain ⟨ad, e, hcell⟩ := Kd.at_int hrc i hi0 hin
        cases e
        rw [← hxx] at hcell
        have hcs2 := Aside0.mk hcs; have hrest2 := Aside0.mk hrest
        clear hcs hrest BK hrc hxx
        go_wp2
        go_quiet (fail)
        go_wp2
        exact ⟨⟨i + 1, rfl, by omega, by omega, ⟨_, blk_put (w := wr.drewN nq) hcs2.out i.toNat _ rfl, fun j hj => by rw [Array.getElem?_setIfInBounds_ne (by omega)]; exact hrest2.out j (by omega)⟩, ⟨Below.setCell (pw_below_drewN HB.out nq) HG.out _⟩, ⟨grown_set (grown_drewN HGR.out nq)⟩⟩, by simp only [intOf]; omega⟩
      · have dn : decide (i < (n : Int)) = false := decide_eq_false hin
        have dn2 : decide ((n : Int) ≤ i) = true := decide_eq_true (by omega)
        have hcl : wr.cell? ⟨g, i.toNat, none⟩ = some (.int .u8 77) := by
          rw [blk_cell hcs, hrest _ (by omega), spare3_hi l0 i.toNat (by have := HN.out; omega) (by have := HN.out; omega)]
        have hfr := blk_frozen hcs i.toNat
        have hcs2 := Aside0.mk hcs; have hrest2 := Aside0.mk hrest
        clear hcs hrest BK
        go_wp2
        go_quiet (fail)
        go_wp2
        exact ⟨⟨i + 1, rfl, by omega, by omega, ⟨_, blk_put (w := wr.drewN nq) hcs2.out i.toNat _ rfl, fun j hj => by rw [Array.getElem?_setIfInBounds_ne (by omega)]; exact hrest2.out j (by omega)⟩, ⟨Below.setCell (pw_below_drewN HB.out nq) HG.out _⟩, ⟨grown_set (grown_drewN HGR.out nq)⟩⟩, by simp only [intOf]; omega⟩
    · have dx : decide (i < (n : Int) + 3) = false := decide_eq_false hx
      go_wp2
      go_ret
      exact ⟨rfl, HB.out, HGR.out⟩
theorem RF.lt {base : Nat} {w : World} {v : Value} {xs sp : List Int} (h : RF base w v xs sp) (b : Nat) (hb : v.ownBlock = some b) : b < w.heap.size := by
  rcases h with ⟨rfl, _⟩ | ⟨g, rfl, h2, h3, _⟩
  · cases hb
  · injection hb with hb; subst hb; exact (Array.getElem?_eq_some_iff.1 h3).1
theorem RS.own {base : Nat} {w : World} {v : Value} {xs : List Int} (h : RS base w v xs) (b : Nat) (hb : v.ownBlock = some b) : base ≤ b ∧ b < w.heap.size := by
  obtain ⟨sp, h⟩ := h
  exact ⟨h.base b hb, h.lt b hb⟩
theorem RS.R {base : Nat} {w : World} {v : Value} {xs : List Int} (h : RS base w v xs) : Kd.R (Kd.int .u8) 5 w base (fun _ => True) v xs := by
  obtain ⟨sp, h⟩ := h
  exact h.R
theorem RS.move {base : Nat} {w w1 : World} {v : Value} {xs : List Int} (h : RS base w v xs) (hm : ∀ b, v.ownBlock = some b → b < w.heap.size → w1.heap[b]? = w.heap[b]?) : RS base w1 v xs := by
  obtain ⟨sp, h⟩ := h
  exact ⟨sp, h.move hm⟩
theorem opF_range (l : List Int) (h : ∀ x ∈ l, 0 ≤ x ∧ x < 256) : ∀ x ∈ (opF l).1, 0 ≤ x ∧ x < 256 := by
  unfold opF
  split
  · simp
  · split
    · exact fun x hx => h x (List.mem_of_mem_take hx)
    · simp
end Go.Proofs.YtbdocgddidcfeaaDoor
namespace Go.Proofs.YtbdocgddidcfeaaDoor
open Go.MapKept
set_option linter.unusedVariables false
set_option linter.unusedSimpArgs false
def Fits {α : Type} (q : IntKind) (R : Value → α → Prop) : List MapEntry → List (Int × α) → Prop
  | [], [] => True
  | e :: es, p :: ps => e.key = .int q p.1 ∧ R e.val p.2 ∧ Fits q R es ps
  | _, _ => False
theorem Fits.imp {α : Type} {q : IntKind} {R R' : Value → α → Prop} (h : ∀ v a, R v a → R' v a) : ∀ {es : List MapEntry} {p : List (Int × α)}, Fits q R es p → Fits q R' es p
  | [], [], _ => trivial
  | _ :: es, _ :: ps, ⟨h1, h2, h3⟩ => ⟨h1, h _ _ h2, Fits.imp h h3⟩
  | [], _ :: _, hf => hf.elim
  | _ :: _, [], hf => hf.elim
theorem Fits.len {α : Type} {q : IntKind} {R : Value → α → Prop} : ∀ {es : List MapEntry} {p : List (Int × α)}, Fits q R es p → es.length = p.length
  | [], [], _ => rfl
  | _ :: es, _ :: ps, ⟨_, _, h3⟩ => by simp [Fits.len h3]
  | [], _ :: _, hf => hf.elim
  | _ :: _, [], hf => hf.elim
theorem Fits.keys {α : Type} {q : IntKind} {R : Value → α → Prop} : ∀ {es : List MapEntry} {p : List (Int × α)}, Fits q R es p → ∀ x ∈ es, IsKey (.int q) x.key
  | [], [], _ => by simp
  | e :: es, p :: ps, ⟨h1, _, h3⟩ => by
    intro x hx
    rcases List.mem_cons.1 hx with rfl | hx
    · rw [h1]; simp [IsKey]
    · exact Fits.keys h3 x hx
  | [], _ :: _, hf => hf.elim
  | _ :: _, [], hf => hf.elim
theorem Fits.push {α : Type} {q : IntKind} {R : Value → α → Prop} {e : MapEntry} {x : Int} {a : α} (h1 : e.key = .int q x) (h2 : R e.val a) : ∀ {es : List MapEntry} {p : List (Int × α)}, Fits q R es p → Fits q R (es ++ [e]) (p ++ [(x, a)])
  | [], [], _ => ⟨h1, h2, trivial⟩
  | _ :: es, _ :: ps, ⟨h3, h4, h5⟩ => ⟨h3, h4, Fits.push h1 h2 h5⟩
  | [], _ :: _, hf => hf.elim
  | _ :: _, [], hf => hf.elim
def pget {α : Type} (x : Int) : List (Int × α) → Option α
  | [] => none
  | p :: ps => if x = p.1 then some p.2 else pget x ps
def pdel {α : Type} (x : Int) : List (Int × α) → List (Int × α)
  | [] => []
  | p :: ps => if x = p.1 then ps else p :: pdel x ps
theorem Fits.find {α : Type} {q : IntKind} {R : Value → α → Prop} (x : Int) : ∀ {es : List MapEntry} {p : List (Int × α)} (i : Nat), Fits q R es p →
    (pget x p = none ∧ Instr.findNow (.int q) (.int q x) es i = some none) ∨
    ∃ a v j, pget x p = some a ∧ R v a ∧ Instr.findNow (.int q) (.int q x) es i = some (some (i + j, v)) ∧ (∃ e, es[j]? = some e ∧ e.key = .int q x) ∧ Fits q R (es.eraseIdx j) (pdel x p) ∧
      (∀ f : MapEntry → MapEntry, (∀ e, (f e).key = .int q x ∧ R (f e).val a) → Fits q R (es.modify j f) p)
  | [], [], i, _ => .inl ⟨rfl, rfl⟩
  | e :: es, p :: ps, i, ⟨h1, h2, h3⟩ => by
    by_cases hx : x = p.1
    · refine .inr ⟨p.2, e.val, 0, by simp [pget, hx], h2, ?_, ⟨e, rfl, by rw [h1, hx]⟩, ?_, ?_⟩
      · simp [Instr.findNow, Instr.sameNow, h1, hx]
      · simpa [pdel, hx] using h3
      · intro f hf
        have := hf e
        refine ⟨by rw [← hx]; exact this.1, this.2, ?_⟩
        simpa using h3
    · have hbx : (x == p.1) = false := beq_eq_false_iff_ne.2 hx
      rcases Fits.find x (i + 1) h3 with ⟨g1, g2⟩ | ⟨a, v, j, g1, g2, g3, ⟨e', g4, g5⟩, g6, g7⟩
      · exact .inl ⟨by simp [pget, hx, g1], by simp [Instr.findNow, Instr.sameNow, h1, hbx, g2]⟩
      · refine .inr ⟨a, v, j + 1, by simp [pget, hx, g1], g2, ?_, ⟨e', by simpa using g4, g5⟩, ?_, ?_⟩
        · simp [Instr.findNow, Instr.sameNow, h1, hbx, g3]
          omega
        · simp only [pdel, if_neg hx, List.eraseIdx_cons_succ]
          exact ⟨h1, h2, g6⟩
        · intro f hf
          have := g7 f hf
          simp only [List.modify_succ_cons]
          exact ⟨h1, h2, this⟩
  | [], _ :: _, _, hf => hf.elim
  | _ :: _, [], _, hf => hf.elim
def IM {α : Type} (q : IntKind) (R : Value → α → Prop) (w : World) (b : Nat) (p : List (Int × α)) : Prop := ∃ es clock, w.heap[b]? = some (.map es clock) ∧ Fits q R es.toList p
section
variable {P : Program} {α : Type} {q : IntKind} {R : Value → α → Prop} {w : World} {b : Nat} {p : List (Int × α)}
theorem IM.imp {R' : Value → α → Prop} (h : IM q R w b p) (hi : ∀ v a, R v a → R' v a) : IM q R' w b p := by
  obtain ⟨es, clock, h1, h2⟩ := h
  exact ⟨es, clock, h1, h2.imp hi⟩
theorem IM.same {w1 : World} (h : IM q R w b p) (hs : w1.heap[b]? = w.heap[b]?) : IM q R w1 b p := by
  obtain ⟨es, clock, h1, h2⟩ := h
  exact ⟨es, clock, hs.trans h1, h2⟩
theorem IM.lt (h : IM q R w b p) : b < w.heap.size := by
  obtain ⟨es, clock, h1, _⟩ := h
  exact (Array.getElem?_eq_some_iff.1 h1).1
theorem IM.made (w : World) : IM q R (w.alloc (.map #[] 0)) w.heap.size ([] : List (Int × α)) := ⟨#[], 0, (heap_alloc w _).1, trivial⟩
theorem IM.look {t k e : TypeId} (h : IM q R w b p) (ht : P.underlying t = some (.map k e)) (hk : P.underlying k = some (.int q)) {z : Value} (hz : ∀ w, (zeroValue e).run P w = .ok z w) (x : Int) :
    (pget x p = none ∧ ∀ c, (Instr.lookup t (.map (some b)) (.int q x) c).run P w = .ok (if c then .tuple #[z, .bool false] else z) w) ∨
    ∃ a v, pget x p = some a ∧ R v a ∧ ∀ c, (Instr.lookup t (.map (some b)) (.int q x) c).run P w = .ok (if c then .tuple #[v, .bool true] else v) w := by
  obtain ⟨es, clock, h1, h2⟩ := h
  have hck := fun e => run_checkKey (P := P) (w := w) hk (show IsKey (.int q) (.int q x) by simp [IsKey]) e 9999
  rcases h2.find x 0 with ⟨g1, g2⟩ | ⟨a, v, j, g1, g2, g3, _⟩
  · refine .inl ⟨g1, fun c => ?_⟩
    simp [Instr.lookup, run_underlying ht, MapKept.run_getObj_map (P := P) h1, hck, run_findKey hk g2, Result.andThen, hz]
  · refine .inr ⟨a, v, g1, g2, fun c => ?_⟩
    simp [Instr.lookup, run_underlying ht, MapKept.run_getObj_map (P := P) h1, hck, run_findKey hk g3, Result.andThen]
theorem heap_put_grown {o o' : Obj} (h1 : w.heap[b]? = some o) : w.grownBy { w with heap := w.heap.setIfInBounds b o' } (some b) :=
  ⟨rfl, rfl, rfl, by simp, fun k _ hne => (heap_set h1).2 k (fun e => hne (by rw [e]))⟩
theorem IM.put {t k e : TypeId} (h : IM q R w b p) (ht : P.underlying t = some (.map k e)) (hk : P.underlying k = some (.int q)) (x : Int) (hx : pget x p = none) (v : Value) (a : α) (hv : R v a) :
    ∃ w', (Instr.mapUpdate t (.map (some b)) (.int q x) v).run P w = .ok () w' ∧ w.grownBy w' (some b) ∧ IM q R w' b (p ++ [(x, a)]) := by
  obtain ⟨es, clock, h1, h2⟩ := h
  have hck := fun e => run_checkKey (P := P) (w := w) hk (show IsKey (.int q) (.int q x) by simp [IsKey]) e 9999
  rcases h2.find x 0 with ⟨g1, g2⟩ | ⟨a, v, j, g1, _⟩
  · refine ⟨_, ?_, heap_put_grown (o' := .map (es.push { key := .int q x, val := v, born := clock }) (clock + 1)) h1, _, _, (heap_set h1).1, ?_⟩
    · simp [Instr.mapUpdate, run_underlying ht, MapKept.run_getObj_map (P := P) h1, hck, run_findKey hk g2, Result.andThen, MapKept.run_setObj_map (P := P) _ h1]
    · rw [Array.toList_push]
      exact Fits.push rfl hv h2
  · rw [hx] at g1; cases g1
theorem IM.again {t k e : TypeId} (h : IM q R w b p) (ht : P.underlying t = some (.map k e)) (hk : P.underlying k = some (.int q)) (x : Int) (a : α) (hx : pget x p = some a) (v : Value) (hv : R v a) :
    ∃ w', (Instr.mapUpdate t (.map (some b)) (.int q x) v).run P w = .ok () w' ∧ w.grownBy w' (some b) ∧ IM q R w' b p := by
  obtain ⟨es, clock, h1, h2⟩ := h
  have hck := fun e => run_checkKey (P := P) (w := w) hk (show IsKey (.int q) (.int q x) by simp [IsKey]) e 9999
  rcases h2.find x 0 with ⟨g1, g2⟩ | ⟨a2, v2, j, g1, _, g3, ⟨e0, g4, g5⟩, _, g7⟩
  · rw [hx] at g1; cases g1
  · rw [hx] at g1
    injection g1 with g1
    subst g1
    have g4' : es[j]? = some e0 := by rw [← Array.getElem?_toList]; exact g4
    rw [Nat.zero_add] at g3
    refine ⟨_, ?_, heap_put_grown (o' := .map (es.modify j fun e => { e with key := .int q x, val := v }) clock) h1, _, _, (heap_set h1).1, ?_⟩
    · simp [Instr.mapUpdate, run_underlying ht, MapKept.run_getObj_map (P := P) h1, hck, run_findKey hk g3, Result.andThen, g4', g5, run_keyThatStays (P := P) (d := .int q) (k := .int q x) (by simp [IsKey]), MapKept.run_setObj_map (P := P) _ h1]
    · rw [Array.toList_modify]
      exact g7 _ (fun e => ⟨rfl, hv⟩)
theorem IM.del {t k e ty : TypeId} (h : IM q R w b p) (ht : P.underlying t = some (.map k e)) (hk : P.underlying k = some (.int q)) (x : Int) :
    ∃ w', (Builtin.delete_ #[t, k] ty #[.map (some b), .int q x]).run P w = .ok (.tuple #[]) w' ∧ w.grownBy w' (some b) ∧ IM q R w' b (pdel x p) := by
  obtain ⟨es, clock, h1, h2⟩ := h
  have hck := fun e => run_checkKey (P := P) (w := w) hk (show IsKey (.int q) (.int q x) by simp [IsKey]) e 9999
  rcases h2.find x 0 with ⟨g1, g2⟩ | ⟨a2, v2, j, g1, _, g3, _, g6, _⟩
  · refine ⟨_, ?_, heap_put_grown (o' := .map es clock) h1, es, clock, (heap_set h1).1, ?_⟩
    · simp [Builtin.delete_, run_underlying ht, MapKept.run_getObj_map (P := P) h1, hck, run_findKey hk g2, Result.andThen, MapKept.run_setObj_map (P := P) _ h1]
    · have : ∀ (l : List (Int × α)), pget x l = none → pdel x l = l := by
        intro l
        induction l with
        | nil => intro _; rfl
        | cons c cs ih =>
          intro hc
          unfold pget at hc
          unfold pdel
          by_cases he : x = c.1
          · rw [if_pos he] at hc; cases hc
          · rw [if_neg he] at hc ⊢
            rw [ih hc]
      rw [this p g1]
      exact h2
  · rw [Nat.zero_add] at g3
    refine ⟨_, ?_, heap_put_grown (o' := .map (es.eraseIdxIfInBounds j) clock) h1, es.eraseIdxIfInBounds j, clock, (heap_set h1).1, ?_⟩
    · simp [Builtin.delete_, run_underlying ht, MapKept.run_getObj_map (P := P) h1, hck, run_findKey hk g3, Result.andThen, MapKept.run_setObj_map (P := P) _ h1]
    · unfold Array.eraseIdxIfInBounds
      split
      · rw [Array.toList_eraseIdx]; exact g6
      · rename_i hj
        rw [List.eraseIdx_of_length_le (by simpa using hj)] at g6
        exact g6
theorem IM.len {t k e ty : TypeId} (h : IM q R w b p) (ht : P.underlying t = some (.map k e)) : (Builtin.len_ #[t] ty #[.map (some b)]).run P w = .ok (goInt p.length) w := by
  obtain ⟨es, clock, h1, h2⟩ := h
  have := h2.len
  simp [Builtin.len_, run_underlying ht, MapKept.run_getObj_map (P := P) h1, Result.andThen]
  rw [← this]; simp
end
end Go.Proofs.YtbdocgddidcfeaaDoor
namespace Go.Proofs.YtbdocgddidcfeaaDoor
open Go.RowKit Go.Proofs.YtbdocgddidcfeaaDoorW.PrintWords Go.Proofs.YtbdocgddidcfeaaDoorW.PrintLast Go.Proofs.YtbdocgddidcfeaaDoorW.PrintMore
set_option linter.unusedVariables false
set_option linter.unusedSimpArgs false
structure LS where
  next : Int
  sent : List Int
  acked : List (Int × Unit)
  any : Bool
  last : Int
  bits : Int
  waits : Bool
  n : Int
  many : Int
  parts : List (Int × List Int)
def newS (first : Int) : LS := ⟨first % 65536, [], [], false, 0, 0, false, 0, 0, []⟩
def newerF (a b : Int) : Bool := decide ((a - b - 1) % 65536 < 32767)
def headF (s : LS) : List Int := if s.any then [1, s.last / 256, s.last % 256, s.bits / 16777216, s.bits / 65536 % 256, s.bits / 256 % 256, s.bits % 256] else [0, 0, 0, 0, 0, 0, 0]
def manyF (L : Nat) : Nat := max 1 ((L + 199) / 200)
def partF (b : List Int) (i : Nat) : List Int := (b.drop (200 * i)).take 200
def rawF (s : LS) (n : Int) (b : List Int) (i : Nat) : List Int := headF s ++ [n / 256, n % 256, (i : Int), (manyF b.length : Int)] ++ partF b i
def dgF (s : LS) (n : Int) (b : List Int) (i : Nat) : List Int := frameF (rawF s n b i)
def sendS (s : LS) : LS :=
  { s with next := (s.next + 1) % 65536, sent := if 64 < (s.sent ++ [s.next]).length then (s.sent ++ [s.next]).drop 1 else s.sent ++ [s.next], acked := if 64 < (s.sent ++ [s.next]).length then pdel ((s.sent ++ [s.next]).headD 0) s.acked else s.acked }
def formedF (b : List Int) : Bool :=
  if b.length < 11 ∨ 1 < rd b 0 then false else
  if rd b 0 = 0 ∧ ¬ (∀ x ∈ (b.drop 1).take 6, x = 0) then false else
  if rd b 10 < 1 ∨ 10 < rd b 10 ∨ rd b 10 ≤ rd b 9 ∨ 200 < (b.length : Int) - 11 then false else
  if rd b 9 < rd b 10 - 1 then decide ((b.length : Int) - 11 = 200) else decide (rd b 10 = 1 ∨ 0 < (b.length : Int) - 11)
def padd (x : Int) (p : List (Int × Unit)) : List (Int × Unit) := if (pget x p).isSome then p else p ++ [(x, ())]
def hit (n bits x : Int) : Bool := decide ((n - x) % 65536 = 0) || (decide ((n - x) % 65536 ≤ 32) && decide (bits / (2 : Int) ^ (((n - x) % 65536).toNat - 1) % 2 = 1))
def hearL (n bits : Int) (l : List Int) (p : List (Int × Unit)) : List (Int × Unit) := l.foldl (fun acc x => if hit n bits x then padd x acc else acc) p
def hearF (s : LS) (b : List Int) : List (Int × Unit) :=
  if rd b 0 = 0 then s.acked else hearL (rd b 1 * 256 + rd b 2) (rd b 3 * 16777216 + rd b 4 * 65536 + rd b 5 * 256 + rd b 6) s.sent s.acked
def tellBits (b k : Int) : Int := bits .or .u32 (b * 2 ^ (min k.toNat 32) % 4294967296) (2 ^ (min (k - 1).toNat 32) % 4294967296)
def tellF (s : LS) (n : Int) : LS := { s with bits := if s.any then tellBits s.bits ((n - s.last) % 65536) else s.bits, any := true, last := n, waits := false }
def outF (s : LS) : List Int := (List.range s.many.toNat).flatMap (fun i : Nat => (pget (i : Int) s.parts).getD [])
def recvF (s : LS) (d : List Int) : LS × List Int × Bool × Int :=
  if (opF d).2 = false ∨ formedF (opF d).1 = false then (s, [], false, 70) else
  let b := (opF d).1
  let s1 := { s with acked := hearF s b }
  let n := rd b 7 * 256 + rd b 8
  if s.any = true ∧ newerF n s.last = false then (s1, [], false, 71) else
  if s.waits = true ∧ n ≠ s.n ∧ newerF n s.n = false then (s1, [], false, 71) else
  let s2 := if s.waits = true ∧ n = s.n then s1 else { s1 with waits := true, n := n, many := rd b 10, parts := [] }
  if s2.many ≠ rd b 10 then (s2, [], false, 70) else
  if (pget (rd b 9) s2.parts).isSome then (s2, [], false, 71) else
  let s3 := { s2 with parts := s2.parts ++ [(rd b 9, b.drop 11)] }
  if (s3.parts.length : Int) < s3.many then (s3, [], false, 0) else
  (tellF s3 n, outF s3, true, 0)
def ackedF (s : LS) : List Int := s.sent.filter (fun x => (pget x s.acked).isSome)
def la1 : List Int := dgF (newS 65535) 65535 [104, 105] 0
def la2 : LS := (recvF (newS 5) la1).1
def la3 : LS := (recvF la2 la1).1
def la4 : List Int := dgF la3 5 [121, 111] 0
def la5 : LS := (recvF (sendS (newS 65535)) la4).1
theorem awake_ev : la1.length = 17 ∧ (recvF (newS 5) la1).2 = ([104, 105], true, 0) ∧ (recvF la2 la1).2 = ([], false, 71) ∧ (recvF (sendS (newS 65535)) la4).2 = ([121, 111], true, 0) ∧ ackedF la5 = [65535] ∧ la3.next = 5 ∧ newerF 0 65535 = true ∧ newerF 0 32768 = false := by
  refine ⟨?_, ?_, ?_, ?_, ?_, ?_, ?_, ?_⟩ <;> kernel_rfl
end Go.Proofs.YtbdocgddidcfeaaDoor
namespace Go.Proofs.YtbdocgddidcfeaaDoor
open Go.RowKit Go.Proofs.YtbdocgddidcfeaaDoorW.PrintWords Go.Proofs.YtbdocgddidcfeaaDoorW.PrintLast Go.Proofs.YtbdocgddidcfeaaDoorW.PrintMore
set_option linter.unusedVariables false
set_option linter.unusedSimpArgs false
set_option maxHeartbeats 1000000 in
theorem newer_calls (a b : Int) (w : World) : Calls Tryd.prog 24 #[.int .u16 a, .int .u16 b] w fun e w' => e = .returned (.bool (newerF a b)) ∧ w' = w := by
  go_enter Tryd.func24, Tryd.ntmps24
  go_wp2
  go_ret
  refine ⟨ret_bool ?_, rfl⟩
  unfold newerF
  rw [IntKind.wrap_u16, IntKind.wrap_u16]
  refine decide_eq_decide.2 ?_
  omega
theorem newerF_mod (a b : Int) : newerF (a % 65536) (b % 65536) = newerF a b := by
  unfold newerF
  refine decide_eq_decide.2 ?_
  omega
set_option maxHeartbeats 1000000 in
theorem Newer_calls (a b : Int) (w : World) : Calls Tryd.prog 10 #[.int .i64 a, .int .i64 b] w fun e w' => e = .returned (.bool (newerF a b)) ∧ w' = w := by
  go_enter Tryd.func10, Tryd.ntmps10
  go_wp2_with fail
  ((with_reducible refine (newer_calls _ _ _).mono ?_); rintro e_ W1 ⟨rfl, rfl⟩)
  rw [IntKind.wrap_u16, IntKind.wrap_u16, newerF_mod]
  go_wp2
  go_ret
  exact ⟨rfl, rfl⟩
def RT (v : Value) (_ : Unit) : Prop := v = .bool true
structure OkB where
  ok : Nat → Prop
def PartR [Inhabited OkB] (W : World) (v : Value) (bytes : List Int) : Prop :=
  (bytes = [] ∧ ∃ A c, v = .slice A 0 c) ∨
  ∃ b off c cs, v = .slice (some ⟨b, off, none⟩) bytes.length c ∧ W.heap[b]? = some (.cells cs 5 (0, 0)) ∧ (∀ (j : Nat) x, bytes[j]? = some x → cs[off + j]? = some (.int .u8 x)) ∧ (default : OkB).ok b
def SentAt (W : World) (sv : Value) (l : List Int) (gs : Option Nat) : Prop :=
  (sv = .slice none 0 0 ∧ l = [] ∧ gs = none) ∨
  ∃ b off cap cs, gs = some b ∧ sv = .slice (some ⟨b, off, none⟩) l.length cap ∧ W.heap[b]? = some (.cells cs 58 (0, 0)) ∧ l.length ≤ cap ∧ cap ≤ maxLen ∧ off + cap ≤ cs.size ∧ ∀ (j : Nat) x, l[j]? = some x → cs[off + j]? = some (.int .u16 x)
def PartsAt [Inhabited OkB] (W : World) (mp : Value) (p : List (Int × List Int)) (mb : Option Nat) : Prop :=
  (mp = .map none ∧ p = [] ∧ mb = none) ∨ ∃ b, mb = some b ∧ mp = .map (some b) ∧ IM .i64 (PartR W) W b p
def lcells (s : LS) (sv : Value) (ma : Nat) (mp : Value) : Array Value := #[.int .u16 s.next, sv, .map (some ma), .bool s.any, .int .u16 s.last, .int .u32 s.bits, .bool s.waits, .int .u16 s.n, .int .i64 s.many, mp]
def Okay (s : LS) : Prop :=
  (0 ≤ s.next ∧ s.next < 65536) ∧ (0 ≤ s.last ∧ s.last < 65536) ∧ (0 ≤ s.bits ∧ s.bits < 4294967296) ∧ (0 ≤ s.n ∧ s.n < 65536) ∧ (0 ≤ s.many ∧ s.many ≤ 10) ∧
  (∀ x ∈ s.sent, 0 ≤ x ∧ x < 65536) ∧ s.sent.length ≤ 64 ∧ (∀ q ∈ s.parts, q.2.length ≤ 200 ∧ ∀ y ∈ q.2, 0 ≤ y ∧ y < 256)
def wset (g ma : Nat) (gs mb : Option Nat) : List Nat := [g, ma] ++ gs.toList ++ mb.toList
def LinkM [Inhabited OkB] (W : World) (g : Nat) (s : LS) (ws : List Nat) : Prop :=
  ∃ sv ma mp gs mb, W.heap[g]? = some (.cells (lcells s sv ma mp) 64 (0, 0)) ∧ SentAt W sv s.sent gs ∧ IM .u16 RT W ma s.acked ∧ PartsAt W mp s.parts mb ∧ (s.waits = true → mb ≠ none) ∧ mb ≠ some ma ∧ ws = wset g ma gs mb ∧ Okay s
theorem newS_okay (n : Int) : Okay (newS n) := by
  unfold Okay newS
  simp
  omega
set_option maxHeartbeats 4000000 in
set_option maxRecDepth 100000 in
theorem New_calls [Inhabited OkB] (first : Int) (w : World) : Calls Tryd.prog 11 #[.int .i64 first] w fun e w' => ∃ g ws, e = .returned (.pointer (some ⟨g, 0, none⟩)) ∧ LinkM w' g (newS first) ws ∧ (∀ k ∈ ws, w.heap.size ≤ k) ∧ Below w.heap.size w w' := by
  have hmm : ∀ W : World, (Instr.makeMap 59 none).run Tryd.prog W = .ok (.map (some W.heap.size)) (W.alloc (.map #[] 0)) := by
    intro W
    simp [Instr.makeMap, Result.andThen]
  go_enter Tryd.func11, Tryd.ntmps11
  go_wp2
  go_ret
  rw [IntKind.wrap_u16]
  have hs : (w.alloc (Obj.map #[] 0)).heap.size = w.heap.size + 1 := by show (w.heap.push _).size = _; simp
  have hb1 : Below w.heap.size w (w.alloc (Obj.map #[] 0)) := below_alloc (Below.refl _ _) _
  refine ⟨w.heap.size + 1, wset (w.heap.size + 1) w.heap.size none none, rfl, ⟨.slice none 0 0, w.heap.size, .map none, none, none, ?_, .inl ⟨rfl, rfl, rfl⟩, ?_, .inl ⟨rfl, rfl, rfl⟩, by simp [newS], by simp, rfl, newS_okay first⟩, by simp [wset], below_alloc hb1 _⟩
  · have h := (MapKept.heap_alloc (w.alloc (Obj.map #[] 0)) (Obj.cells (lcells (newS first) (.slice none 0 0) w.heap.size (.map none)) 64)).1
    rw [hs] at h
    exact h
  · refine IM.same (IM.made w) ?_
    exact (MapKept.heap_alloc (w.alloc (Obj.map #[] 0)) _).2 _ (by rw [hs]; omega)
theorem lcell {W : World} {g : Nat} {s : LS} {sv mp : Value} {ma : Nat} (h : W.heap[g]? = some (.cells (lcells s sv ma mp) 64 (0, 0))) :
    W.cell? ⟨g, 0, none⟩ = some (.int .u16 s.next) ∧ W.cell? ⟨g, 1, none⟩ = some sv ∧ W.cell? ⟨g, 2, none⟩ = some (.map (some ma)) ∧ W.cell? ⟨g, 3, none⟩ = some (.bool s.any) ∧ W.cell? ⟨g, 4, none⟩ = some (.int .u16 s.last) ∧
    W.cell? ⟨g, 5, none⟩ = some (.int .u32 s.bits) ∧ W.cell? ⟨g, 6, none⟩ = some (.bool s.waits) ∧ W.cell? ⟨g, 7, none⟩ = some (.int .u16 s.n) ∧ W.cell? ⟨g, 8, none⟩ = some (.int .i64 s.many) ∧ W.cell? ⟨g, 9, none⟩ = some mp :=
  ⟨blk_cell h 0, blk_cell h 1, blk_cell h 2, blk_cell h 3, blk_cell h 4, blk_cell h 5, blk_cell h 6, blk_cell h 7, blk_cell h 8, blk_cell h 9⟩
set_option maxHeartbeats 4000000 in
set_option maxRecDepth 100000 in
theorem Last_calls [Inhabited OkB] (g : Nat) (s : LS) (ws : List Nat) (w : World) (h : LinkM w g s ws) : Calls Tryd.prog 19 #[.pointer (some ⟨g, 0, none⟩)] w
    fun e w' => e = .returned (.tuple #[.int .i64 s.last, .bool s.any]) ∧ ∃ n, w' = w.drewN n := by
  obtain ⟨sv, ma, mp, gs, mb, hg, hsent, hack, hparts, hw, hne, hws, hok⟩ := h
  obtain ⟨k0, k1, k2, k3, k4, k5, k6, k7, k8, k9⟩ := lcell hg
  have hl := hok.2.1
  clear hsent hack hparts hw hne hws hok hg
  go_enter Tryd.func19, Tryd.ntmps19
  go_wp2
  go_quiet (fail)
  go_wp2
  go_ret2
  exact ⟨rfl, _, rfl⟩
end Go.Proofs.YtbdocgddidcfeaaDoor
namespace Go.Proofs.YtbdocgddidcfeaaDoor
open Go.RowKit Go.Proofs.YtbdocgddidcfeaaDoorW.PrintWords Go.Proofs.YtbdocgddidcfeaaDoorW.PrintLast Go.Proofs.YtbdocgddidcfeaaDoorW.PrintMore
set_option linter.unusedVariables false
set_option linter.unusedSimpArgs false
theorem SentAt.same {W W' : World} {sv : Value} {l : List Int} {gs : Option Nat} (h : SentAt W sv l gs) (hs : ∀ b, gs = some b → W'.heap[b]? = W.heap[b]?) : SentAt W' sv l gs := by
  rcases h with h | ⟨b, off, cap, cs, h1, h2, h3, h4⟩
  · exact .inl h
  · exact .inr ⟨b, off, cap, cs, h1, h2, (hs b h1).trans h3, h4⟩
theorem PartR.same' [Inhabited OkB] {W W' : World} (hu : ∀ (b : Nat) (cs : Array Value), (default : OkB).ok b → W.heap[b]? = some (Obj.cells cs 5 (0, 0)) → W'.heap[b]? = W.heap[b]?) (v : Value) (l : List Int) (h : PartR W v l) : PartR W' v l := by
  rcases h with h | ⟨b, off, c, cs, h1, h2, h3, h4⟩
  · exact .inl h
  · exact .inr ⟨b, off, c, cs, h1, (hu b cs h4 h2).trans h2, h3, h4⟩
theorem PartR.same [Inhabited OkB] {W W' : World} (hu : ∀ (b : Nat) (cs : Array Value), W.heap[b]? = some (Obj.cells cs 5 (0, 0)) → W'.heap[b]? = W.heap[b]?) (v : Value) (l : List Int) (h : PartR W v l) : PartR W' v l := PartR.same' (fun b cs _ => hu b cs) v l h
theorem PartsAt.same' [Inhabited OkB] {W W' : World} {mp : Value} {p : List (Int × List Int)} {mb : Option Nat} (h : PartsAt W mp p mb) (hs : ∀ b, mb = some b → W'.heap[b]? = W.heap[b]?)
    (hu : ∀ (b : Nat) (cs : Array Value), (default : OkB).ok b → W.heap[b]? = some (Obj.cells cs 5 (0, 0)) → W'.heap[b]? = W.heap[b]?) : PartsAt W' mp p mb := by
  rcases h with h | ⟨b, h1, h2, h3⟩
  · exact .inl h
  · exact .inr ⟨b, h1, h2, (h3.same (hs b h1)).imp (PartR.same' hu)⟩
theorem PartsAt.same [Inhabited OkB] {W W' : World} {mp : Value} {p : List (Int × List Int)} {mb : Option Nat} (h : PartsAt W mp p mb) (hs : ∀ b, mb = some b → W'.heap[b]? = W.heap[b]?)
    (hu : ∀ (b : Nat) (cs : Array Value), W.heap[b]? = some (Obj.cells cs 5 (0, 0)) → W'.heap[b]? = W.heap[b]?) : PartsAt W' mp p mb := h.same' hs (fun b cs _ => hu b cs)
theorem LinkM.frame' [Inhabited OkB] {W W' : World} {g : Nat} {s : LS} {ws : List Nat} (h : LinkM W g s ws) (hs : ∀ b ∈ ws, W'.heap[b]? = W.heap[b]?)
    (hu : ∀ (b : Nat) (cs : Array Value), (default : OkB).ok b → W.heap[b]? = some (Obj.cells cs 5 (0, 0)) → W'.heap[b]? = W.heap[b]?) : LinkM W' g s ws := by
  obtain ⟨sv, ma, mp, gs, mb, h1, h2, h3, h4, h5, h6, h7, h8⟩ := h
  refine ⟨sv, ma, mp, gs, mb, (hs g (by rw [h7]; simp [wset])).trans h1, h2.same (fun b e => hs b (by rw [h7, e]; simp [wset])), h3.same (hs ma (by rw [h7]; simp [wset])), h4.same' (fun b e => hs b (by rw [h7, e]; simp [wset])) hu, h5, h6, h7, h8⟩
theorem LinkM.frame [Inhabited OkB] {W W' : World} {g : Nat} {s : LS} {ws : List Nat} (h : LinkM W g s ws) (hs : ∀ b ∈ ws, W'.heap[b]? = W.heap[b]?)
    (hu : ∀ (b : Nat) (cs : Array Value), W.heap[b]? = some (Obj.cells cs 5 (0, 0)) → W'.heap[b]? = W.heap[b]?) : LinkM W' g s ws := h.frame' hs (fun b cs _ => hu b cs)
theorem LinkM.below [Inhabited OkB] {W W' : World} {g : Nat} {s : LS} {ws : List Nat} (h : LinkM W g s ws) (hb : Below W.heap.size W W') : LinkM W' g s ws := by
  have h0 := h
  obtain ⟨sv, ma, mp, gs, mb, h1, h2, h3, h4, h5, h6, h7, h8⟩ := h
  refine h0.frame (fun b hm => hb.block b ?_) (fun b cs hc => hb.block b (Array.getElem?_eq_some_iff.1 hc).1)
  rw [h7] at hm
  simp only [wset, List.mem_append, List.mem_cons, List.not_mem_nil, or_false, Option.mem_toList] at hm
  rcases hm with ((rfl | rfl) | hm) | hm
  · exact (Array.getElem?_eq_some_iff.1 h1).1
  · exact h3.lt
  · rcases h2 with ⟨_, _, e⟩ | ⟨b', _, _, _, e, _, e3, _⟩
    · rw [e] at hm; cases hm
    · rw [e] at hm; cases hm; exact (Array.getElem?_eq_some_iff.1 e3).1
  · rcases h4 with ⟨_, _, e⟩ | ⟨b', e, _, e3⟩
    · rw [e] at hm; cases hm
    · rw [e] at hm; cases hm; exact e3.lt
theorem struct_keeps [Inhabited OkB] {W W' : World} {g : Nat} {L : Array Value} (hg : W.heap[g]? = some (.cells L 64 (0, 0))) (hgr : W.grownBy W' (some g)) :
    (∀ sv l gs, SentAt W sv l gs → SentAt W' sv l gs) ∧ (∀ ma ak, IM .u16 RT W ma ak → IM .u16 RT W' ma ak) ∧ (∀ mp p mb, PartsAt W mp p mb → PartsAt W' mp p mb) := by
  have far : ∀ (b : Nat) (o : Obj), W.heap[b]? = some o → (∀ L : Array Value, o ≠ Obj.cells L 64 (0, 0)) → W'.heap[b]? = W.heap[b]? := fun b o hb hne =>
    hgr.block b (Array.getElem?_eq_some_iff.1 hb).1 (fun e => by
      injection e with e
      subst e
      rw [hg] at hb
      injection hb with hb
      exact hne L hb.symm)
  have hu : ∀ (b : Nat) (cs : Array Value), W.heap[b]? = some (Obj.cells cs 5 (0, 0)) → W'.heap[b]? = W.heap[b]? := fun b cs hb => far b _ hb (fun L e => by injection e with _ e; cases e)
  refine ⟨fun sv l gs h => h.same (fun b e => ?_), fun ma ak h => h.same ?_, fun mp p mb h => h.same (fun b e => ?_) hu⟩
  · rcases h with ⟨_, _, e2⟩ | ⟨b', off, cap, cs, e1, _, h3, _⟩
    · rw [e] at e2; cases e2
    · rw [e] at e1; cases e1
      exact far b _ h3 (fun L e => by injection e with _ e; cases e)
  · obtain ⟨es, clock, h1, _⟩ := h
    exact far ma _ h1 (fun L e => by cases e)
  · rcases h with ⟨_, _, e2⟩ | ⟨b', e1, _, es, clock, h1, _⟩
    · rw [e] at e2; cases e2
    · rw [e] at e1; cases e1
      exact far b _ h1 (fun L e => by cases e)
theorem tellBits_range (b k : Int) : 0 ≤ tellBits b k ∧ tellBits b k < 4294967296 := by
  unfold tellBits
  show 0 ≤ IntKind.u32.wrap ((BitVec.ofInt 32 _ ||| BitVec.ofInt 32 _).toNat : Int) ∧ IntKind.u32.wrap ((BitVec.ofInt 32 _ ||| BitVec.ofInt 32 _).toNat : Int) < 4294967296
  rw [IntKind.wrap_u32]
  omega
theorem tellF_okay {s : LS} {n : Int} (h : Okay s) (hn : 0 ≤ n ∧ n < 65536) : Okay (tellF s n) := by
  obtain ⟨h1, h2, h3, h4⟩ := h
  refine ⟨h1, hn, ?_, h4⟩
  unfold tellF
  show 0 ≤ (if s.any then tellBits s.bits ((n - s.last) % 65536) else s.bits) ∧ (if s.any then tellBits s.bits ((n - s.last) % 65536) else s.bits) < 4294967296
  split
  · exact tellBits_range _ _
  · exact h3
set_option maxHeartbeats 4000000 in
set_option maxRecDepth 100000 in
theorem tell_calls [Inhabited OkB] (g : Nat) (s : LS) (ws : List Nat) (n : Int) (w : World) (h : LinkM w g s ws) (hn : 0 ≤ n ∧ n < 65536) (hk : s.any = true → 1 ≤ (n - s.last) % 65536) :
    Calls Tryd.prog 29 #[.pointer (some ⟨g, 0, none⟩), .int .u16 n] w
    fun e w' => e = .returned (.tuple #[]) ∧ LinkM w' g (tellF s n) ws ∧ w.grownBy w' (some g) := by
  obtain ⟨sv, ma, mp, gs, mb, hg, hsent, hack, hparts, hw, hne, hws, hok⟩ := h
  obtain ⟨k0, k1, k2, k3, k4, k5, k6, k7, k8, k9⟩ := lcell hg
  have hfr := fun j => blk_frozen hg j
  have HG := Aside0.mk hg; have HS := Aside0.mk hsent; have HA := Aside0.mk hack; have HP := Aside0.mk hparts; have HW := Aside0.mk hw; have HNE := Aside0.mk hne; have HWS := Aside0.mk hws; have HOK := Aside0.mk hok
  clear hsent hack hparts hw hne hws hok hg
  cases ha : s.any with
  | false =>
    rw [ha] at k3
    go_enter Tryd.func29, Tryd.ntmps29
    go_wp2
    (try simp only [Exit.inBlock, Exit.then])
    refine Go.Great.bodyPost_end0 rfl rfl ⟨rfl, ?_, ?_⟩
    · have hs0 := blk_put (blk_put (blk_put HG.out 3 (.bool true) rfl) 4 (.int .u16 n) rfl) 6 (.bool false) rfl
      obtain ⟨q1, q2, q3⟩ := struct_keeps HG.out (grown_set (j := 6) (v := .bool false) (grown_set (j := 4) (v := .int .u16 n) (grown_set (j := 3) (v := .bool true) (World.grownBy.refl w (some g)))))
      refine ⟨sv, ma, mp, gs, mb, ?_, q1 _ _ _ HS.out, q2 _ _ HA.out, q3 _ _ _ HP.out, by simp [tellF], HNE.out, HWS.out, tellF_okay HOK.out hn⟩
      rw [hs0]
      simp only [tellF, ha]
      rfl
    · exact grown_set (grown_set (grown_set (World.grownBy.refl w (some g))))
  | true =>
    rw [ha] at k3
    have hk1 := hk ha
    have hb : tellBits s.bits ((n - s.last) % 65536) = bits .or .u32 (s.bits * 2 ^ min (IntKind.u16.wrap (n - s.last)).toNat 32 % 4294967296) (2 ^ min (IntKind.u16.wrap (IntKind.u16.wrap (n - s.last) - 1)).toNat 32 % 4294967296) := by
      unfold tellBits
      rw [IntKind.wrap_u16, IntKind.wrap_u16, show ((n - s.last) % 65536 - 1) % 65536 = (n - s.last) % 65536 - 1 by omega]
    have HBB := Aside0.mk hb
    clear hb hk1
    go_enter Tryd.func29, Tryd.ntmps29
    go_wp2
    (try simp only [Exit.inBlock, Exit.then])
    refine Go.Great.bodyPost_end0 rfl rfl ⟨rfl, ?_, ?_⟩
    · rw [← HBB.out]
      have hs0 := blk_put (blk_put (blk_put (blk_put HG.out 5 (.int .u32 (tellBits s.bits ((n - s.last) % 65536))) rfl) 3 (.bool true) rfl) 4 (.int .u16 n) rfl) 6 (.bool false) rfl
      obtain ⟨q1, q2, q3⟩ := struct_keeps HG.out (grown_set (j := 6) (v := .bool false) (grown_set (j := 4) (v := .int .u16 n) (grown_set (j := 3) (v := .bool true) (grown_set (j := 5) (v := .int .u32 (tellBits s.bits ((n - s.last) % 65536))) (World.grownBy.refl w (some g))))))
      refine ⟨sv, ma, mp, gs, mb, ?_, q1 _ _ _ HS.out, q2 _ _ HA.out, q3 _ _ _ HP.out, by simp [tellF], HNE.out, HWS.out, tellF_okay HOK.out hn⟩
      rw [hs0]
      simp only [tellF, ha]
      rfl
    · exact grown_set (grown_set (grown_set (grown_set (World.grownBy.refl w (some g)))))
end Go.Proofs.YtbdocgddidcfeaaDoor
namespace Go.Proofs.YtbdocgddidcfeaaDoor
open Go.RowKit Go.Proofs.YtbdocgddidcfeaaDoorW.PrintWords Go.Proofs.YtbdocgddidcfeaaDoorW.PrintLast Go.Proofs.YtbdocgddidcfeaaDoorW.PrintMore
set_option linter.unusedVariables false
set_option linter.unusedSimpArgs false
def Keeps (w w' : World) (ws : List Nat) : Prop := w'.os = w.os ∧ w'.tape = w.tape ∧ w'.output = w.output ∧ w.heap.size ≤ w'.heap.size ∧ ∀ k, k < w.heap.size → k ∉ ws → w'.heap[k]? = w.heap[k]?
theorem Keeps.refl (w : World) (ws : List Nat) : Keeps w w ws := ⟨rfl, rfl, rfl, Nat.le_refl _, fun _ _ _ => rfl⟩
theorem Keeps.of_below {w w' : World} (h : Below w.heap.size w w') (ws : List Nat) : Keeps w w' ws := ⟨h.os, h.tape, h.output, h.size, fun k hk _ => h.block k hk⟩
theorem Keeps.of_grown {w w' : World} {ws : List Nat} {g : Nat} (h : w.grownBy w' (some g)) (hg : g ∈ ws) : Keeps w w' ws :=
  ⟨h.os, h.tape, h.output, h.size, fun k hk hn => h.block k hk (fun e => by injection e with e; subst e; exact hn hg)⟩
theorem Keeps.trans {w w1 w2 : World} {ws ws1 : List Nat} (h : Keeps w w1 ws) (h1 : Keeps w1 w2 ws1) (hs : ∀ k ∈ ws1, k ∈ ws ∨ w.heap.size ≤ k) : Keeps w w2 ws := by
  refine ⟨h1.1.trans h.1, h1.2.1.trans h.2.1, h1.2.2.1.trans h.2.2.1, Nat.le_trans h.2.2.2.1 h1.2.2.2.1, fun k hk hn => ?_⟩
  refine (h1.2.2.2.2 k (Nat.lt_of_lt_of_le hk h.2.2.2.1) (fun hm => ?_)).trans (h.2.2.2.2 k hk hn)
  rcases hs k hm with e | e
  · exact hn e
  · omega
theorem Keeps.then {w w1 w2 : World} {ws : List Nat} (h : Keeps w w1 ws) (h1 : Keeps w1 w2 ws) : Keeps w w2 ws := h.trans h1 (fun _ hk => .inl hk)
theorem Keeps.drewN {w w1 : World} {ws : List Nat} (h : Keeps w w1 ws) (n : Nat) : Keeps w (w1.drewN n) ws := h
theorem Keeps.below {w w' : World} {ws : List Nat} {B : Nat} (h : Keeps w w' ws) (hB : B ≤ w.heap.size) (hw : ∀ k ∈ ws, B ≤ k) : Below B w w' :=
  ⟨h.1, h.2.1, h.2.2.1, h.2.2.2.1, fun k hk => h.2.2.2.2 k (Nat.lt_of_lt_of_le hk hB) (fun hm => by have := hw k hm; omega)⟩
theorem SentAt.C {W : World} {sv : Value} {l : List Int} {gs : Option Nat} (h : SentAt W sv l gs) : ∃ A c, sv = .slice A l.length c ∧ l.length ≤ c ∧ Kd.C (Kd.int .u16) W A l.length l := by
  rcases h with ⟨rfl, rfl, rfl⟩ | ⟨b, off, cap, cs, h1, h2, h3, h4, h5, h6, h7⟩
  · exact ⟨none, 0, rfl, Nat.le_refl _, Kd.C_nil _ _⟩
  · refine ⟨_, _, h2, h4, rfl, by simp only [maxLen] at h5; omega, fun _ => ⟨_, rfl, fun j p hj => ⟨[.int .u16 p], rfl, rfl, fun i u hu => ?_⟩⟩⟩
    cases i with
    | zero =>
      simp only [List.getElem?_cons_zero, Option.some.injEq] at hu
      subst hu
      have ha : (⟨b, off, none⟩ : Addr).add (j * 1 + 0) = ⟨b, off + j, none⟩ := by
        rw [Nat.mul_one, Nat.add_zero]; unfold Addr.add; split <;> simp_all
      show W.cell? ((⟨b, off, none⟩ : Addr).add (j * 1 + 0)) = _
      rw [ha, blk_cell h3, h7 j p hj]
    | succ i => simp at hu
theorem LinkM.g_in [Inhabited OkB] {W : World} {g : Nat} {s : LS} {ws : List Nat} (h : LinkM W g s ws) : g ∈ ws ∧ g < W.heap.size := by
  obtain ⟨sv, ma, mp, gs, mb, h1, h2, h3, h4, h5, h6, h7, h8⟩ := h
  exact ⟨by rw [h7]; simp [wset], (Array.getElem?_eq_some_iff.1 h1).1⟩
theorem zbool (W : World) : (zeroValue 4).run Tryd.prog W = .ok (.bool false) W := by
  have hz : (Tryd.prog.info? 4).map (·.zero) = some (some (.bool false)) := by kernel_rfl
  obtain ⟨i, hi, hz⟩ := Option.map_eq_some_iff.1 hz
  simp [zeroValue, typeInfo, hi, hz, Result.andThen]
theorem infoI : (Tryd.prog.info? 3).map (fun i => (i.zero, i.size, i.bytes)) = some (some (.int .i64 0), 1, 8) := by kernel_rfl
theorem C_int1 (w : World) (k : IntKind) (x : Int) (ty : TypeId) : Kd.C (Kd.int k) (w.alloc (.cells #[.int k x] ty)) (some ⟨w.heap.size, 0, none⟩) 1 [x] := by
  refine ⟨rfl, by decide, fun _ => ⟨_, rfl, fun j p hj => ⟨[.int k p], rfl, rfl, fun i u hu => ?_⟩⟩⟩
  have hj0 : j = 0 := by
    have := (List.getElem?_eq_some_iff.1 hj).1
    simpa using this
  subst hj0
  simp only [List.getElem?_cons_zero, Option.some.injEq] at hj
  subst hj
  cases i with
  | zero =>
    simp only [List.getElem?_cons_zero, Option.some.injEq] at hu
    subst hu
    rw [add_plain]
    unfold World.cell?
    rw [(MapKept.heap_alloc w _).1]
    rfl
  | succ i => simp at hu
set_option maxHeartbeats 4000000 in
set_option maxRecDepth 100000 in
theorem Acked_calls [Inhabited OkB] (g : Nat) (s : LS) (ws : List Nat) (w : World) (h : LinkM w g s ws) : Calls Tryd.prog 14 #[.pointer (some ⟨g, 0, none⟩)] w
    fun e w' => ∃ v, e = .returned v ∧ Kd.R (Kd.int .i64) 3 w' w.heap.size (fun _ => True) v (ackedF s) ∧ Below w.heap.size w w' := by
  obtain ⟨sv, ma, mp, gs, mb, hg, hsent, hack, hparts, hw, hne, hws, hok⟩ := h
  obtain ⟨k0, k1, k2, k3, k4, k5, k6, k7, k8, k9⟩ := lcell hg
  obtain ⟨A, c, rfl, hlc, hC⟩ := hsent.C
  have HG := Aside0.mk hg; have HC := Aside0.mk hC; have HA := Aside0.mk hack; have HOK := Aside0.mk hok
  clear hg hsent hC hack hparts hw hne hws hok k0 k3 k4 k5 k6 k7 k8 k9
  have HGL : Aside0 (g < w.heap.size) := ⟨(Array.getElem?_eq_some_iff.1 HG.out).1⟩
  obtain ⟨n, hn⟩ : ∃ n, n = s.sent.length := ⟨_, rfl⟩
  rw [← hn] at k1
  have hn64 : n ≤ 64 := by rw [hn]; exact HOK.out.2.2.2.2.2.2.1
  have HN := Aside0.mk hn; clear hn
  go_enter Tryd.func14, Tryd.ntmps14
  go_wp2
  go_loopw [3, 11] (fun v vi wr => ∃ i : Int, vi = .int .i64 i ∧ 0 ≤ i ∧ i ≤ (n : Int) ∧ Aside0 (Kd.R (Kd.int .i64) 3 wr w.heap.size (fun _ => True) v ((s.sent.take i.toNat).filter (fun x => (pget x s.acked).isSome))) ∧ Aside0 (Below w.heap.size w wr)) (fun _ vi _ => ((n : Int) - intOf vi).toNat)
  case atStart => exact ⟨0, rfl, by omega, by omega, ⟨Kd.R_nil _ _ _ _ _⟩, ⟨Below.refl _ _⟩⟩
  case round =>
    obtain ⟨i, rfl, hi0, hi1, HO, HB⟩ := hrel
    by_cases hx : i < (n : Int)
    · have dx : decide (i < (n : Int)) = true := decide_eq_true hx
      have hCr := Kd.C_below HC.out HB.out
      rw [← HN.out] at hCr
      obtain ⟨ad, e, hcell⟩ := Kd.at_int hCr i hi0 hx
      cases e
      have hki : i.toNat < s.sent.length := by have := HN.out; omega
      have htk : s.sent.take (i + 1).toNat = s.sent.take i.toNat ++ [rd s.sent i] := by
        rw [show (i + 1).toNat = i.toNat + 1 by omega, List.take_succ_eq_append_getElem hki, ← rd_get' hki, Int.toNat_of_nonneg hi0]
      have hxr : 0 ≤ rd s.sent i ∧ rd s.sent i < 65536 := by
        have := HOK.out.2.2.2.2.2.1 (rd s.sent i) (by rw [← Int.toNat_of_nonneg hi0, rd_get' hki]; exact List.getElem_mem hki)
        exact this
      have hflen : ((s.sent.take i.toNat).filter (fun x => (pget x s.acked).isSome)).length ≤ 64 := Nat.le_trans (List.length_filter_le _ _) (by rw [List.length_take]; have := HOK.out.2.2.2.2.2.2.1; omega)
      have hm := (HB.out.cell (p := ⟨g, 2, none⟩) HGL.out).trans k2
      have hlook := (HA.out.same (HB.out.block ma HA.out.lt)).look (P := Tryd.prog) Tryd.underlying59 Tryd.underlying58 zbool (rd s.sent i)
      generalize rd s.sent i = x at hcell htk hxr hlook
      have HTK := Aside0.mk htk; have HFL := Aside0.mk hflen
      clear htk hflen hCr
      rcases hlook with ⟨hg1, hl⟩ | ⟨_, v, hg1, rfl, hl⟩
      · have hl0 := hl false
        have HG1 := Aside0.mk hg1
        clear hl hg1
        go_wp2
        refine ⟨⟨i + 1, rfl, by omega, by omega, ⟨?_⟩, HB⟩, by simp only [intOf]; omega⟩
        rw [HTK.out, List.filter_append]
        simp only [List.filter_cons, List.filter_nil, HG1.out]
        simpa using HO.out
      · have hl0 := hl false
        have HG1 := Aside0.mk hg1
        clear hl hg1
        obtain ⟨zs, hzs⟩ : ∃ zs, zs = (s.sent.take i.toNat).filter (fun x => (pget x s.acked).isSome) := ⟨_, rfl⟩
        rw [← hzs] at HO HFL
        have HZS := Aside0.mk hzs; clear hzs
        go_wp2_with (first | ((with_reducible refine gate_builtin (b := .append) (xs := #[.tmp 21, .tmp 24]) rfl ?_); at_builtin; refine Kd.R_append_rows (Kd.int .i64) (w0 := w) w.heap.size rfl (.tmp 21) (.tmp 24) 33 3 (.int .i64 0) 8 rfl Tryd.underlying33 infoI rfl (by decide) (by omega) _ zs [x] _ _ _ (fun _ => True) (fun _ => False) rfl rfl ?aO ?aR (fun _ _ h => h) (fun _ h => h.elim) ?aF ?aB ?aS ?aL ?_; (case aR => exact (C_int1 wr .i64 x _)); (case aB => exact below_alloc HB.out _); (case aF => exact (fun _ _ => trivial)); (case aO => exact Kd.R_alloc HO.out _); (case aS => exact (below_size (below_alloc HB.out _))); (case aL => (have := HFL.out; omega)); intro v1 w1 ho hb hg hat; have HO1 := Aside0.mk ho; clear HB HO; have HB := Aside0.mk hb; clear ho hb hg hat))
        refine ⟨⟨i + 1, rfl, by omega, by omega, ⟨?_⟩, HB⟩, by simp only [intOf]; omega⟩
        rw [HTK.out, List.filter_append]
        rw [← HZS.out]
        simp only [List.filter_cons, List.filter_nil, HG1.out]
        exact HO1.out
    · have dx : decide (i < (n : Int)) = false := decide_eq_false hx
      have hie : i.toNat = s.sent.length := by have := HN.out; omega
      have hfl : (s.sent.take i.toNat).filter (fun x => (pget x s.acked).isSome) = ackedF s := by rw [hie, List.take_length]; rfl
      rw [hfl] at HO
      clear hie hfl
      go_wp2
      go_ret
      exact ⟨_, rfl, HO.out, HB.out⟩
end Go.Proofs.YtbdocgddidcfeaaDoor
namespace Go.Proofs.YtbdocgddidcfeaaDoor
open Go.RowKit Go.Proofs.YtbdocgddidcfeaaDoorW.PrintWords Go.Proofs.YtbdocgddidcfeaaDoorW.PrintLast Go.Proofs.YtbdocgddidcfeaaDoorW.PrintMore
set_option linter.unusedVariables false
set_option linter.unusedSimpArgs false
theorem or_add16 (a b : Int) (ha : 0 ≤ a ∧ a < 256) (hb : 0 ≤ b ∧ b < 256) : bits .or .u16 (a * 256) b = a * 256 + b := by
  obtain ⟨a, rfl⟩ : ∃ n : Nat, a = (n : Int) := ⟨a.toNat, by omega⟩
  obtain ⟨b, rfl⟩ : ∃ n : Nat, b = (n : Int) := ⟨b.toNat, by omega⟩
  have h := Nat.two_pow_add_eq_or_of_lt (i := 8) (b := b) (by omega) a
  rw [show ((a : Int) * 256) = ((2 ^ 8 * a : Nat) : Int) by omega, u16_or_nat _ _ (by omega) (by omega), ← h]
  omega
theorem or_add32 (k : Nat) (a b : Int) (p : Int) (hp : p = ((2 ^ k : Nat) : Int)) (ha : 0 ≤ a) (hab : a * p < 4294967296) (hb : 0 ≤ b) (hb2 : b < p) (hb3 : b < 4294967296) : bits .or .u32 (a * p) b = a * p + b := by
  subst hp
  obtain ⟨a, rfl⟩ : ∃ n : Nat, a = (n : Int) := ⟨a.toNat, by omega⟩
  obtain ⟨b, rfl⟩ : ∃ n : Nat, b = (n : Int) := ⟨b.toNat, by omega⟩
  have h := Nat.two_pow_add_eq_or_of_lt (i := k) (b := b) (by omega) a
  rw [show ((a : Int) * ((2 ^ k : Nat) : Int)) = ((2 ^ k * a : Nat) : Int) by rw [Int.natCast_mul, Int.mul_comm]] at hab ⊢
  rw [u32_or_nat _ _ (by omega) (by omega), ← h]
  omega
theorem four32 (a b c d : Int) (ha : 0 ≤ a ∧ a < 256) (hb : 0 ≤ b ∧ b < 256) (hc : 0 ≤ c ∧ c < 256) (hd : 0 ≤ d ∧ d < 256) :
    bits .or .u32 (bits .or .u32 (bits .or .u32 (a * 16777216) (b * 65536)) (c * 256)) d = a * 16777216 + b * 65536 + c * 256 + d := by
  rw [or_add32 24 a (b * 65536) 16777216 rfl ha.1 (by omega) (by omega) (by omega) (by omega), show a * 16777216 + b * 65536 = (a * 256 + b) * 65536 by omega,
    or_add32 16 (a * 256 + b) (c * 256) 65536 rfl (by omega) (by omega) (by omega) (by omega) (by omega), show (a * 256 + b) * 65536 + c * 256 = ((a * 256 + b) * 256 + c) * 256 by omega,
    or_add32 8 ((a * 256 + b) * 256 + c) d 256 rfl (by omega) (by omega) (by omega) (by omega) (by omega)]
theorem map_far {w wr : World} {ma : Nat} {p : List (Int × Unit)} (h : IM .u16 RT w ma p) (hgr : w.grownBy wr (some ma)) {b : Nat} {cs : Array Value} {t : TypeId} (hb : w.heap[b]? = some (Obj.cells cs t (0, 0))) : wr.heap[b]? = w.heap[b]? :=
  hgr.block b (Array.getElem?_eq_some_iff.1 hb).1 (fun e => by
    injection e with e
    subst e
    obtain ⟨es, clock, h1, _⟩ := h
    rw [h1] at hb
    cases hb)
theorem grown_trans {a b c : World} {row : Option Nat} (h : a.grownBy b row) (h2 : b.grownBy c row) : a.grownBy c row :=
  ⟨h2.os.trans h.os, h2.tape.trans h.tape, h2.output.trans h.output, Nat.le_trans h.size h2.size, fun k hk hn => (h2.block k (Nat.lt_of_lt_of_le hk h.size) hn).trans (h.block k hk hn)⟩
theorem IM.add {w : World} {ma : Nat} {p : List (Int × Unit)} (h : IM .u16 RT w ma p) (x : Int) :
    ∃ w', (Instr.mapUpdate 59 (.map (some ma)) (.int .u16 x) (.bool true)).run Tryd.prog w = .ok () w' ∧ w.grownBy w' (some ma) ∧ IM .u16 RT w' ma (padd x p) := by
  unfold padd
  cases hx : pget x p with
  | none =>
    obtain ⟨w', h1, h2, h3⟩ := h.put Tryd.underlying59 Tryd.underlying58 x hx (.bool true) () rfl
    exact ⟨w', h1, h2, by simpa using h3⟩
  | some a =>
    obtain ⟨w', h1, h2, h3⟩ := h.again Tryd.underlying59 Tryd.underlying58 x a hx (.bool true) rfl
    exact ⟨w', h1, h2, by simpa using h3⟩
theorem hearL_succ (N B : Int) (l : List Int) (i : Int) (h0 : 0 ≤ i) (h1 : i < l.length) (p : List (Int × Unit)) :
    hearL N B (l.take (i + 1).toNat) p = if hit N B (rd l i) then padd (rd l i) (hearL N B (l.take i.toNat) p) else hearL N B (l.take i.toNat) p := by
  have hk : i.toNat < l.length := by omega
  unfold hearL
  rw [show (i + 1).toNat = i.toNat + 1 by omega, List.take_succ_eq_append_getElem hk, ← rd_get' hk, Int.toNat_of_nonneg h0, List.foldl_append]
  rfl
set_option maxHeartbeats 4000000 in
set_option maxRecDepth 100000 in
theorem hear_calls [Inhabited OkB] (g : Nat) (s : LS) (ws : List Nat) (gp L c : Nat) (b : List Int) (w : World) (h : LinkM w g s ws) (hbl : b.length = L) (hcell : ∀ i : Nat, i < L → w.cell? ⟨gp, i, none⟩ = some (.int .u8 (rd b (i : Int)))) (hL : 11 ≤ L) (hb : ∀ x ∈ b, 0 ≤ x ∧ x < 256) :
    Calls Tryd.prog 28 #[.pointer (some ⟨g, 0, none⟩), .slice (some ⟨gp, 0, none⟩) L c] w
    fun e w' => e = .returned (.tuple #[]) ∧ LinkM w' g { s with acked := hearF s b } ws ∧ Keeps w w' ws := by
  have h0 := h
  obtain ⟨sv, ma, mp, gs, mb, hg, hsent, hack, hparts, hw, hne, hws, hok⟩ := h
  obtain ⟨k0, k1, k2, k3, k4, k5, k6, k7, k8, k9⟩ := lcell hg
  have rdr : ∀ i : Nat, i < 11 → 0 ≤ rd b (i : Int) ∧ rd b (i : Int) < 256 := fun i hi => rd_mem hb (by omega) (by omega)
  have c0 : w.cell? ⟨gp, 0, none⟩ = some (.int .u8 (rd b 0)) := hcell 0 (by omega)
  have c1 : w.cell? ⟨gp, 1, none⟩ = some (.int .u8 (rd b 1)) := hcell 1 (by omega)
  have c2 : w.cell? ⟨gp, 2, none⟩ = some (.int .u8 (rd b 2)) := hcell 2 (by omega)
  have c3 : w.cell? ⟨gp, 3, none⟩ = some (.int .u8 (rd b 3)) := hcell 3 (by omega)
  have c4 : w.cell? ⟨gp, 4, none⟩ = some (.int .u8 (rd b 4)) := hcell 4 (by omega)
  have c5 : w.cell? ⟨gp, 5, none⟩ = some (.int .u8 (rd b 5)) := hcell 5 (by omega)
  have c6 : w.cell? ⟨gp, 6, none⟩ = some (.int .u8 (rd b 6)) := hcell 6 (by omega)
  have r0 := rdr 0 (by omega); have r1 := rdr 1 (by omega); have r2 := rdr 2 (by omega); have r3 := rdr 3 (by omega); have r4 := rdr 4 (by omega); have r5 := rdr 5 (by omega); have r6 := rdr 6 (by omega)
  have HH := Aside0.mk h0; have HG := Aside0.mk hg; have HS := Aside0.mk hsent; have HA := Aside0.mk hack; have HP := Aside0.mk hparts; have HW := Aside0.mk hw; have HNE := Aside0.mk hne; have HWS := Aside0.mk hws; have HOK := Aside0.mk hok
  clear h0 hg hsent hack hparts hw hne hws hok hcell hb rdr
  obtain ⟨A, cc, hsv, hlc, _⟩ := HS.out.C
  subst hsv
  obtain ⟨m, hm⟩ : ∃ m, m = s.sent.length := ⟨_, rfl⟩
  have hm64 : m ≤ 64 := by rw [hm]; exact HOK.out.2.2.2.2.2.2.1
  rw [← hm] at k1 hlc
  have HM := Aside0.mk hm; clear hm
  have hhf : hearF s b = if rd b 0 = 0 then s.acked else hearL (rd b 1 * 256 + rd b 2) (rd b 3 * 16777216 + rd b 4 * 65536 + rd b 5 * 256 + rd b 6) s.sent s.acked := rfl
  have hL' : (11 : Int) ≤ (L : Int) := by omega
  generalize rd b ((0 : Nat) : Int) = x0 at r0
  change 0 ≤ rd b 1 ∧ rd b 1 < 256 at r1
  generalize rd b 1 = x1 at c1 r1 hhf
  change 0 ≤ rd b 2 ∧ rd b 2 < 256 at r2
  generalize rd b 2 = x2 at c2 r2 hhf
  change 0 ≤ rd b 3 ∧ rd b 3 < 256 at r3
  generalize rd b 3 = x3 at c3 r3 hhf
  change 0 ≤ rd b 4 ∧ rd b 4 < 256 at r4
  generalize rd b 4 = x4 at c4 r4 hhf
  change 0 ≤ rd b 5 ∧ rd b 5 < 256 at r5
  generalize rd b 5 = x5 at c5 r5 hhf
  change 0 ≤ rd b 6 ∧ rd b 6 < 256 at r6
  generalize rd b 6 = x6 at c6 r6 hhf
  rw [hhf]
  clear hhf
  generalize rd b 0 = z0 at c0
  by_cases hz : z0 = 0
  · subst hz
    rw [if_pos rfl]
    go_enter Tryd.func28, Tryd.ntmps28
    go_wp2
    (try simp only [Exit.inBlock, Exit.then])
    refine bodyPost_ret (results_none rfl _ _ _) rfl ⟨rfl, HH.out, Keeps.refl _ _⟩
  · rw [if_neg hz]
    have z1 : decide (z0 = 0) = false := decide_eq_false hz
    have z2 : (z0 == 0) = false := beq_eq_false_iff_ne.2 hz
    go_enter Tryd.func28, Tryd.ntmps28
    go_wp2
    go_quiet (fail)
    go_wp2
    go_quiet (fail)
    go_wp2
    rw [or_add16 x1 x2 r1 r2, four32 x3 x4 x5 x6 r3 r4 r5 r6]
    have hN : 0 ≤ x1 * 256 + x2 ∧ x1 * 256 + x2 < 65536 := by omega
    have hB : 0 ≤ x3 * 16777216 + x4 * 65536 + x5 * 256 + x6 ∧ x3 * 16777216 + x4 * 65536 + x5 * 256 + x6 < 4294967296 := by omega
    generalize hNe : x1 * 256 + x2 = N at hN ⊢
    generalize hBe : x3 * 16777216 + x4 * 65536 + x5 * 256 + x6 = B at hB ⊢
    have HNN := Aside0.mk hNe; have HBB := Aside0.mk hBe
    clear hNe hBe
    clear c0 c1 c2 c3 c4 c5 c6 r0 r1 r2 r3 r4 r5 r6
    go_loopw [50] (fun vi wr => ∃ i : Int, vi = .int .i64 i ∧ 0 ≤ i ∧ i ≤ (m : Int) ∧ Aside0 (w.grownBy wr (some ma)) ∧ Aside0 (IM .u16 RT wr ma (hearL N B (s.sent.take i.toNat) s.acked))) (fun vi _ => ((m : Int) - intOf vi).toNat)
    case atStart => exact ⟨0, rfl, by omega, by omega, ⟨grown_drewN (World.grownBy.refl w _) _⟩, ⟨HA.out⟩⟩
    case round =>
      obtain ⟨i, rfl, hi0, hi1, HGR, HIM⟩ := hrel
      have hgw := map_far HA.out HGR.out HG.out
      by_cases hx : i < (m : Int)
      · have dx : decide (i < (m : Int)) = true := decide_eq_true hx
        have hsw : SentAt wr (.slice A m cc) s.sent gs := HM.out ▸ HS.out.same (fun b' e => by
          rcases HS.out with ⟨_, _, e2⟩ | ⟨b2, off, cap, cs, e1, _, h3, _⟩
          · exact absurd (e.symm.trans e2) (by simp)
          · obtain rfl : b' = b2 := Option.some.inj (e.symm.trans e1)
            exact map_far HA.out HGR.out h3)
        obtain ⟨A', c', e, _, hCs⟩ := hsw.C
        rw [← HM.out] at e hCs
        injection e with e1 e2 e3
        subst e1
        obtain ⟨ad, e, hcl⟩ := Kd.at_int hCs i hi0 hx
        cases e
        have kk2 : wr.cell? ⟨g, 2, none⟩ = some (.map (some ma)) := (World.cell?_of_block (a := ⟨g, 2, none⟩) hgw).trans k2
        have hsucc := hearL_succ N B s.sent i hi0 (by have := HM.out; omega) s.acked
        have hki : i.toNat < s.sent.length := by have := HM.out; omega
        have hxr : 0 ≤ rd s.sent i ∧ rd s.sent i < 65536 := by
          have := HOK.out.2.2.2.2.2.1 (rd s.sent i) (by rw [← Int.toNat_of_nonneg hi0, rd_get' hki]; exact List.getElem_mem hki)
          exact this
        generalize rd s.sent i = x at hcl hsucc hxr
        obtain ⟨w2, hup, hgr2, him2⟩ := HIM.out.add x
        have hkx : IntKind.u16.wrap (N - x) = (N - x) % 65536 := by rw [IntKind.wrap_u16]
        have hkr : 0 ≤ (N - x) % 65536 ∧ (N - x) % 65536 < 65536 := by omega
        rw [show hit N B x = (decide (IntKind.u16.wrap (N - x) = 0) || (decide (IntKind.u16.wrap (N - x) ≤ 32) && decide (B / (2 : Int) ^ ((IntKind.u16.wrap (N - x)).toNat - 1) % 2 = 1))) by unfold hit; rw [hkx]] at hsucc
        have HSU := Aside0.mk hsucc; have HG2 := Aside0.mk hgr2; have HI2 := Aside0.mk him2
        rw [← hkx] at hkr
        clear hsucc hgr2 him2 hsw hCs hgw hkx
        by_cases hk0 : IntKind.u16.wrap (N - x) = 0
        · have d0 : decide (IntKind.u16.wrap (N - x) = 0) = true := decide_eq_true hk0
          have d0' : (IntKind.u16.wrap (N - x) == 0) = true := beq_iff_eq.2 hk0
          go_wp2
          exact ⟨⟨i + 1, rfl, by omega, by omega, ⟨grown_trans HGR.out HG2.out⟩, ⟨by rw [HSU.out, if_pos (by simp [hk0])]; exact HI2.out⟩⟩, by simp only [intOf]; omega⟩
        · have d0 : decide (IntKind.u16.wrap (N - x) = 0) = false := decide_eq_false hk0
          have d0' : (IntKind.u16.wrap (N - x) == 0) = false := beq_eq_false_iff_ne.2 hk0
          by_cases hk32 : IntKind.u16.wrap (N - x) ≤ 32
          · have d1 : decide (IntKind.u16.wrap (N - x) ≤ 32) = true := decide_eq_true hk32
            have hshr : 0 ≤ B / (2 : Int) ^ ((IntKind.u16.wrap (N - x)).toNat - 1) ∧ B / (2 : Int) ^ ((IntKind.u16.wrap (N - x)).toNat - 1) < 4294967296 := by
              have hp : (0 : Int) < 2 ^ ((IntKind.u16.wrap (N - x)).toNat - 1) := Int.pow_pos (by decide)
              exact ⟨Int.ediv_nonneg hB.1 (Int.le_of_lt hp), Int.lt_of_le_of_lt (Int.ediv_le_self _ hB.1) hB.2⟩
            have hand := u32_and1 _ hshr.1 hshr.2
            by_cases hbit : B / (2 : Int) ^ ((IntKind.u16.wrap (N - x)).toNat - 1) % 2 = 1
            · have f1 : bits .and .u32 (B / (2 : Int) ^ ((IntKind.u16.wrap (N - x)).toNat - 1)) 1 = 1 := by rw [hand]; exact hbit
              have f2 : decide (bits .and .u32 (B / (2 : Int) ^ ((IntKind.u16.wrap (N - x)).toNat - 1)) 1 = 1) = true := decide_eq_true f1
              have f3 : (bits .and .u32 (B / (2 : Int) ^ ((IntKind.u16.wrap (N - x)).toNat - 1)) 1 == 1) = true := beq_iff_eq.2 f1
              have HBIT := Aside0.mk hbit
              clear hshr hand hbit
              go_wp2
              exact ⟨⟨i + 1, rfl, by omega, by omega, ⟨grown_trans HGR.out HG2.out⟩, ⟨by rw [HSU.out, if_pos (by simp [hk0, hk32, HBIT.out])]; exact HI2.out⟩⟩, by simp only [intOf]; omega⟩
            · have f1 : ¬ bits .and .u32 (B / (2 : Int) ^ ((IntKind.u16.wrap (N - x)).toNat - 1)) 1 = 1 := by rw [hand]; exact hbit
              have f2 : decide (bits .and .u32 (B / (2 : Int) ^ ((IntKind.u16.wrap (N - x)).toNat - 1)) 1 = 1) = false := decide_eq_false f1
              have f3 : (bits .and .u32 (B / (2 : Int) ^ ((IntKind.u16.wrap (N - x)).toNat - 1)) 1 == 1) = false := beq_eq_false_iff_ne.2 f1
              have HBIT := Aside0.mk hbit
              clear hshr hand hbit
              go_wp2
              exact ⟨⟨i + 1, rfl, by omega, by omega, HGR, ⟨by rw [HSU.out, if_neg (by have := HBIT.out; simp [hk0, hk32]; simpa using this)]; exact HIM.out⟩⟩, by simp only [intOf]; omega⟩
          · have d1 : decide (IntKind.u16.wrap (N - x) ≤ 32) = false := decide_eq_false hk32
            go_wp2
            exact ⟨⟨i + 1, rfl, by omega, by omega, HGR, ⟨by rw [HSU.out, if_neg (by simp [hk0, hk32])]; exact HIM.out⟩⟩, by simp only [intOf]; omega⟩
      · have dx : decide (i < (m : Int)) = false := decide_eq_false hx
        have htk : s.sent.take i.toNat = s.sent := List.take_of_length_le (by have := HM.out; omega)
        rw [htk] at HIM
        clear htk
        go_wp2
        (try simp only [Exit.inBlock, Exit.then])
        refine Go.Great.bodyPost_end0 rfl rfl ⟨rfl, ⟨_, ma, mp, gs, mb, hgw.trans HG.out, ?_, by show IM .u16 RT wr ma (hearL (x1 * 256 + x2) (x3 * 16777216 + x4 * 65536 + x5 * 256 + x6) s.sent s.acked); rw [HNN.out, HBB.out]; exact HIM.out, ?_, HW.out, HNE.out, HWS.out, HOK.out⟩, Keeps.of_grown HGR.out (by rw [HWS.out]; simp [wset])⟩
        · show SentAt wr (.slice A s.sent.length cc) s.sent gs
          refine HS.out.same (fun b' e => ?_)
          exact (by
            rcases HS.out with ⟨_, _, e2⟩ | ⟨b2, off, cap, cs, e1, _, h3, _⟩
            · exact absurd (e.symm.trans e2) (by simp)
            · obtain rfl : b' = b2 := Option.some.inj (e.symm.trans e1)
              exact map_far HA.out HGR.out h3)
        · refine HP.out.same (fun b' e => ?_) (fun b' cs hb' => map_far HA.out HGR.out hb')
          rcases HP.out with ⟨_, _, e2⟩ | ⟨b2, e1, _, hi⟩
          · exact absurd (e.symm.trans e2) (by simp)
          · obtain rfl : b' = b2 := Option.some.inj (e.symm.trans e1)
            exact HGR.out.block b' hi.lt (fun e2 => HNE.out (by rw [e]; exact e2))
end Go.Proofs.YtbdocgddidcfeaaDoor
namespace Go.Proofs.YtbdocgddidcfeaaDoor
open Go.RowKit Go.Proofs.YtbdocgddidcfeaaDoorW.PrintWords Go.Proofs.YtbdocgddidcfeaaDoorW.PrintLast Go.Proofs.YtbdocgddidcfeaaDoorW.PrintMore
set_option linter.unusedVariables false
set_option linter.unusedSimpArgs false
theorem zeros_iff (b : List Int) (hl : 11 ≤ b.length) : (∀ x ∈ (b.drop 1).take 6, x = 0) ↔ ∀ j : Nat, j < 6 → rd b ((1 + j : Nat) : Int) = 0 := by
  constructor
  · intro h j hj
    have hj2 : 1 + j < b.length := by omega
    rw [rd_get' hj2]
    refine h _ ?_
    rw [List.mem_iff_getElem?]
    refine ⟨j, ?_⟩
    rw [List.getElem?_take, if_pos hj, List.getElem?_drop, List.getElem?_eq_getElem hj2]
  · intro h x hx
    obtain ⟨j, hj⟩ := List.mem_iff_getElem?.1 hx
    rw [List.getElem?_take] at hj
    split at hj
    · rename_i hj6
      rw [List.getElem?_drop] at hj
      have hj2 : 1 + j < b.length := by omega
      rw [List.getElem?_eq_getElem hj2] at hj
      injection hj with hj
      rw [← hj, ← rd_get' hj2]
      exact h j hj6
    · cases hj
set_option maxHeartbeats 8000000 in
set_option maxRecDepth 100000 in
theorem formed_calls (A : Option Addr) (L c : Nat) (b : List Int) (w : World) (hC : Kd.C (Kd.int .u8) w A L b) (hLc : L ≤ c) (hA : 0 < L → ∃ gp, A = some ⟨gp, 0, none⟩) (hb : ∀ x ∈ b, 0 ≤ x ∧ x < 256) (hLm : L ≤ 140737488355328) :
    Calls Tryd.prog 27 #[.slice A L c] w fun e w' => e = .returned (.bool (formedF b)) ∧ ∃ n, w' = w.drewN n := by
  have hbl : b.length = L := hC.1
  by_cases hL : L < 11
  · have hf : formedF b = false := by
      unfold formedF
      rw [if_pos (.inl (by omega))]
    rw [hf]
    have e1 : decide ((L : Int) < 11) = true := decide_eq_true (by omega)
    clear hC hb hA hbl hf
    go_enter Tryd.func27, Tryd.ntmps27
    go_wp2
    go_ret
    exact ⟨rfl, 0, rfl⟩
  · obtain ⟨gp, rfl⟩ := hA (by omega)
    have e1 : decide ((L : Int) < 11) = false := decide_eq_false (by omega)
    have hcell : ∀ i : Nat, i < L → w.cell? ⟨gp, i, none⟩ = some (.int .u8 (rd b (i : Int))) := fun i hi => by
      obtain ⟨ad, e, hc⟩ := Kd.at_int hC (i : Int) (by omega) (by omega)
      cases e
      rw [Int.toNat_natCast, add_plain] at hc
      exact hc
    have rdr : ∀ i : Nat, i < 11 → 0 ≤ rd b (i : Int) ∧ rd b (i : Int) < 256 := fun i hi => rd_mem hb (by omega) (by omega)
    have c0 : w.cell? ⟨gp, 0, none⟩ = some (.int .u8 (rd b 0)) := hcell 0 (by omega)
    have c9 : w.cell? ⟨gp, 9, none⟩ = some (.int .u8 (rd b 9)) := hcell 9 (by omega)
    have c10 : w.cell? ⟨gp, 10, none⟩ = some (.int .u8 (rd b 10)) := hcell 10 (by omega)
    have r0 : 0 ≤ rd b 0 ∧ rd b 0 < 256 := rdr 0 (by omega)
    have r9 : 0 ≤ rd b 9 ∧ rd b 9 < 256 := rdr 9 (by omega)
    have r10 : 0 ≤ rd b 10 ∧ rd b 10 < 256 := rdr 10 (by omega)
    have hzi := zeros_iff b (by omega)
    have hf : formedF b = if 1 < rd b 0 then false else if rd b 0 = 0 ∧ ¬ (∀ j : Nat, j < 6 → rd b ((1 + j : Nat) : Int) = 0) then false else
        if rd b 10 < 1 ∨ 10 < rd b 10 ∨ rd b 10 ≤ rd b 9 ∨ 200 < (L : Int) - 11 then false else
        if rd b 9 < rd b 10 - 1 then decide ((L : Int) - 11 = 200) else decide (rd b 10 = 1 ∨ 0 < (L : Int) - 11) := by
      unfold formedF
      rw [hbl]
      simp only [hL, false_or, hzi]
    have HCELL := Aside0.mk hcell
    clear hcell rdr hzi hb hC hA
    generalize hx9 : rd b 9 = x9 at c9 r9 hf
    generalize hx10 : rd b 10 = x10 at c10 r10 hf
    generalize hx0 : rd b 0 = x0 at c0 r0 hf
    clear hx9 hx10 hx0
    obtain ⟨ff, hff⟩ : ∃ ff, ff = formedF b := ⟨_, rfl⟩
    rw [← hff] at hf ⊢
    clear hff
    have HF := Aside0.mk hf
    clear hf
    have hr9 : wrap64 x9 = x9 := by simp only [wrap64]; omega
    have hr10 : wrap64 x10 = x10 := by simp only [wrap64]; omega
    have s11 : ((L : Int) - 11) = ((L - 11 : Nat) : Int) := by omega
    go_enter Tryd.func27, Tryd.ntmps27
    by_cases q0 : 1 < x0
    · have p0 : decide (1 < x0) = true := decide_eq_true q0
      have hv : ff = false := by rw [HF.out, if_pos q0]
      rw [hv]
      go_wp2
      go_ret
      exact ⟨rfl, 0, rfl⟩
    · have p0 : decide (1 < x0) = false := decide_eq_false q0
      go_wp2
      go_quiet (fail)
      by_cases q1 : x0 = 0
      · have p1 : decide (x0 = 0) = true := decide_eq_true q1
        have p1' : (x0 == 0) = true := beq_iff_eq.2 q1
        go_wp2
        go_loop [35] (fun vi => ∃ i : Int, vi = .int .i64 i ∧ 0 ≤ i ∧ i ≤ 6 ∧ Aside0 (∀ j : Nat, (j : Int) < i → rd b ((1 + j : Nat) : Int) = 0)) (fun vi => (6 - intOf vi).toNat)
        case atStart => exact ⟨0, rfl, by omega, by omega, ⟨fun j hj => by omega⟩⟩
        case round =>
          obtain ⟨i, rfl, hi0, hi1, HZ⟩ := hrel
          by_cases hx : i < 6
          · have dx : decide (i < 6) = true := decide_eq_true hx
            have hcl : w.cell? ⟨gp, 1 + i.toNat, none⟩ = some (.int .u8 (rd b ((1 + i.toNat : Nat) : Int))) := HCELL.out _ (by omega)
            obtain ⟨y, hy⟩ : ∃ y, y = rd b ((1 + i.toNat : Nat) : Int) := ⟨_, rfl⟩
            rw [← hy] at hcl
            have HYY := Aside0.mk hy; clear hy
            by_cases hy0 : y = 0
            · have d0 : decide (y = 0) = true := decide_eq_true hy0
              subst hy0
              go_wp2
              refine ⟨⟨i + 1, rfl, by omega, by omega, ⟨fun j hj => ?_⟩⟩, by simp only [intOf]; omega⟩
              by_cases hji : (j : Int) < i
              · exact HZ.out j hji
              · rw [show j = i.toNat by omega]
                exact HYY.out.symm
            · have d0 : decide (y = 0) = false := decide_eq_false hy0
              have d1 : (y == 0) = false := beq_eq_false_iff_ne.2 hy0
              have d2 : (y != 0) = true := bne_iff_ne.2 hy0
              have hv : ff = false := by
                rw [HF.out, if_neg (by omega), if_pos ⟨q1, fun h => hy0 (by rw [HYY.out]; exact h i.toNat (by omega))⟩]
              have HV := Aside0.mk hv; clear hv
              go_wp2
              go_ret
              exact ⟨ret_bool HV.out.symm, _, rfl⟩
          · have dx : decide (i < 6) = false := decide_eq_false hx
            have hv := HF.out
            rw [if_neg (by omega), if_neg (fun h => h.2 (fun j hj => HZ.out j (by omega)))] at hv
            have HV := Aside0.mk hv; clear hv
            go_wp2
            all_goals
              have hv := HV.out
              go_ret
              refine ⟨ret_bool ?_, _, rfl⟩
              rw [hv]
              repeat' split
              all_goals first | rfl | (exfalso; omega) | omega | (rw [Bool.eq_iff_iff]; simp; omega)
      · have p1 : decide (x0 = 0) = false := decide_eq_false q1
        have p1' : (x0 == 0) = false := beq_eq_false_iff_ne.2 q1
        have hv := HF.out
        rw [if_neg (by omega), if_neg (fun h => q1 h.1)] at hv
        have HV := Aside0.mk hv; clear hv
        go_wp2
        all_goals
          have hv := HV.out
          go_ret
          refine ⟨ret_bool ?_, _, rfl⟩
          rw [hv]
          repeat' split
          all_goals first | rfl | (exfalso; omega) | omega | (rw [Bool.eq_iff_iff]; simp; omega)
end Go.Proofs.YtbdocgddidcfeaaDoor
namespace Go.Proofs.YtbdocgddidcfeaaDoor
open Go.RowKit Go.Proofs.YtbdocgddidcfeaaDoorW.PrintWords Go.Proofs.YtbdocgddidcfeaaDoorW.PrintLast Go.Proofs.YtbdocgddidcfeaaDoorW.PrintMore
set_option linter.unusedVariables false
set_option linter.unusedSimpArgs false
theorem wp_scope_fwd {P : Program} {c rest : Code} {Q : Exit → Act → World → Prop} {a : Act} {w : World} (l : Nat) (hf : findLabel c l = some rest)
    (first : c.wp P (Exit.jump l (fun a' w' => rest.wp P (Exit.jump l (fun _ _ => False) Q) a' w') Q) a w) : (Code.scope c).wp P Q a w :=
  wp_scope_jumps l _ (fun _ _ => 0) hf first (fun a w h => Code.wp_mono (fun e a w h => by
    cases e with
    | goto l' => exact ⟨h.1, h.2.elim⟩
    | _ => exact h) h)
theorem LinkM.lt [Inhabited OkB] {W : World} {g : Nat} {s : LS} {ws : List Nat} (h : LinkM W g s ws) : ∀ k ∈ ws, k < W.heap.size := by
  obtain ⟨sv, ma, mp, gs, mb, h1, h2, h3, h4, h5, h6, h7, h8⟩ := h
  intro b hm
  rw [h7] at hm
  simp only [wset, List.mem_append, List.mem_cons, List.not_mem_nil, or_false, Option.mem_toList] at hm
  rcases hm with ((rfl | rfl) | hm) | hm
  · exact (Array.getElem?_eq_some_iff.1 h1).1
  · exact h3.lt
  · rcases h2 with ⟨_, _, e⟩ | ⟨b', _, _, _, e, _, e3, _⟩
    · rw [e] at hm; cases hm
    · rw [e] at hm; cases hm; exact (Array.getElem?_eq_some_iff.1 e3).1
  · rcases h4 with ⟨_, _, e⟩ | ⟨b', e, _, e3⟩
    · rw [e] at hm; cases hm
    · rw [e] at hm; cases hm; exact e3.lt
theorem LinkM.noU8 [Inhabited OkB] {W : World} {g : Nat} {s : LS} {ws : List Nat} (h : LinkM W g s ws) : ∀ k ∈ ws, ∀ cs : Array Value, W.heap[k]? ≠ some (Obj.cells cs 5 (0, 0)) := by
  obtain ⟨sv, ma, mp, gs, mb, h1, h2, h3, h4, h5, h6, h7, h8⟩ := h
  intro b hm cs hc
  rw [h7] at hm
  simp only [wset, List.mem_append, List.mem_cons, List.not_mem_nil, or_false, Option.mem_toList] at hm
  rcases hm with ((rfl | rfl) | hm) | hm
  · rw [h1] at hc; injection hc with hc; injection hc with _ hc; cases hc
  · obtain ⟨es, clock, e, _⟩ := h3; rw [e] at hc; cases hc
  · rcases h2 with ⟨_, _, e⟩ | ⟨b', _, _, _, e, _, e3, _⟩
    · rw [e] at hm; cases hm
    · rw [e] at hm; cases hm; rw [e3] at hc; injection hc with hc; injection hc with _ hc; cases hc
  · rcases h4 with ⟨_, _, e⟩ | ⟨b', e, _, es, clock, e3, _⟩
    · rw [e] at hm; cases hm
    · rw [e] at hm; cases hm; rw [e3] at hc; cases hc
theorem LinkM.ok [Inhabited OkB] {W : World} {g : Nat} {s : LS} {ws : List Nat} (h : LinkM W g s ws) : Okay s := by
  obtain ⟨sv, ma, mp, gs, mb, h1, h2, h3, h4, h5, h6, h7, h8⟩ := h
  exact h8
theorem Keeps.u8 [Inhabited OkB] {w w' : World} {g : Nat} {s : LS} {ws : List Nat} (h : Keeps w w' ws) (hl : LinkM w g s ws) {b : Nat} {cs : Array Value} (hb : w.heap[b]? = some (Obj.cells cs 5 (0, 0))) : w'.heap[b]? = some (Obj.cells cs 5 (0, 0)) :=
  (h.2.2.2.2 b (Array.getElem?_eq_some_iff.1 hb).1 (fun hm => hl.noU8 b hm cs hb)).trans hb
theorem PartR.C [Inhabited OkB] {W : World} {v : Value} {l : List Int} (h : PartR W v l) (hl : l.length ≤ 9223372036854775807) : ∃ A c, v = .slice A l.length c ∧ Kd.C (Kd.int .u8) W A l.length l := by
  rcases h with ⟨rfl, A, c, rfl⟩ | ⟨b, off, c, cs, rfl, h2, h3, _⟩
  · exact ⟨A, c, rfl, rfl, by simp, fun h => absurd h (Nat.lt_irrefl 0)⟩
  · refine ⟨_, _, rfl, rfl, hl, fun _ => ⟨_, rfl, fun j p hj => ⟨[.int .u8 p], rfl, rfl, fun i u hu => ?_⟩⟩⟩
    cases i with
    | zero =>
      simp only [List.getElem?_cons_zero, Option.some.injEq] at hu
      subst hu
      have ha : (⟨b, off, none⟩ : Addr).add (j * 1 + 0) = ⟨b, off + j, none⟩ := by
        rw [Nat.mul_one, Nat.add_zero]; unfold Addr.add; split <;> simp_all
      show W.cell? ((⟨b, off, none⟩ : Addr).add (j * 1 + 0)) = _
      rw [ha, blk_cell h2, h3 j p hj]
    | succ i => simp at hu
theorem zslice (W : World) : (zeroValue 30).run Tryd.prog W = .ok (.slice none 0 0) W := by
  have hz : (Tryd.prog.info? 30).map (·.zero) = some (some (.slice none 0 0)) := by kernel_rfl
  obtain ⟨i, hi, hz⟩ := Option.map_eq_some_iff.1 hz
  simp [zeroValue, typeInfo, hi, hz, Result.andThen]
theorem cut11 (gb L c : Nat) (h : 11 ≤ L) (hc : L ≤ c) : ∃ off, (off = 11 ∨ L = 11) ∧ ∀ W, (Instr.slice 30 (.slice (some ⟨gb, 0, none⟩) L c) (some (.int .i64 11)) none none).run Tryd.prog W = .ok (.slice (some ⟨gb, off, none⟩) (L - 11) (c - 11)) W := by
  obtain ⟨i0, hi0, _, hsz0, _⟩ := info_parts infoB
  have ht := Tryd.underlying30
  have hel : Tryd.prog.elem 30 = 5 := by simp [Program.elem, ht]
  have hu : Tryd.prog.underlying 30 = some (.slice (Tryd.prog.elem 30)) := by rw [hel]; exact ht
  by_cases he : c = 11
  · refine ⟨0, .inr (by omega), fun W => ?_⟩
    rw [run_slice_l W 30 (some ⟨gb, 0, none⟩) L c hu .i64 (11 : Int) (by omega) (by omega), hel]
    simp [sizeOf, typeInfo, hi0, hsz0, sliced, Result.andThen, he]
  · refine ⟨11, .inl rfl, fun W => ?_⟩
    rw [run_slice_l W 30 (some ⟨gb, 0, none⟩) L c hu .i64 (11 : Int) (by omega) (by omega), hel]
    simp [sizeOf, typeInfo, hi0, hsz0, sliced, Result.andThen, he, Addr.add]
theorem part_of [Inhabited OkB] {W : World} {gb c off L : Nat} {b sp : List Int} (hb : W.heap[gb]? = some (Obj.cells ((b ++ sp).map (Value.int .u8)).toArray 5 (0, 0))) (hL : b.length = L) (h11 : 11 ≤ L) (ho : off = 11 ∨ L = 11) (hokb : (default : OkB).ok gb) : PartR W (.slice (some ⟨gb, off, none⟩) (L - 11) c) (b.drop 11) := by
  have hl : (b.drop 11).length = L - 11 := by rw [List.length_drop, hL]
  by_cases h0 : L = 11
  · refine .inl ⟨List.drop_of_length_le (by omega), some ⟨gb, off, none⟩, c, ?_⟩
    rw [show L - 11 = 0 by omega]
  · have ho' : off = 11 := ho.resolve_right h0
    subst ho'
    refine .inr ⟨gb, 11, c, _, by rw [hl], hb, fun j x hx => ?_, hokb⟩
    rw [List.getElem?_drop] at hx
    have hj := (List.getElem?_eq_some_iff.1 hx).1
    simp only [List.getElem?_toArray, List.map_append]
    rw [List.getElem?_append_left (by simpa using hj), List.getElem?_map, hx]
    rfl
theorem IM.put1 {α : Type} {R : Value → α → Prop} {w : World} {b : Nat} {p : List (Int × α)} {t k e : TypeId} (h : IM .i64 R w b p) (ht : Tryd.prog.underlying t = some (.map k e)) (hk : Tryd.prog.underlying k = some (.int .i64)) (x : Int) (hx : pget x p = none) (v : Value) (a : α) (hv : R v a) :
    ∃ w', (Instr.mapUpdate t (.map (some b)) (.int .i64 x) v).run Tryd.prog w.drew = .ok () w'.drew ∧ w.grownBy w' (some b) ∧ IM .i64 R w' b (p ++ [(x, a)]) := by
  obtain ⟨es, clock, h1, h2⟩ := h
  have h1' : w.drew.heap[b]? = some (.map es clock) := h1
  have hck := fun e => MapKept.run_checkKey (P := Tryd.prog) (w := w.drew) hk (show MapKept.IsKey (.int .i64) (.int .i64 x) by simp [MapKept.IsKey]) e 9999
  rcases h2.find x 0 with ⟨g1, g2⟩ | ⟨a, v, j, g1, _⟩
  · refine ⟨{ w with heap := w.heap.setIfInBounds b (.map (es.push { key := .int .i64 x, val := v, born := clock }) (clock + 1)) }, ?_, heap_put_grown h1, _, _, (MapKept.heap_set h1).1, ?_⟩
    · simp [Instr.mapUpdate, run_underlying ht, MapKept.run_getObj_map (P := Tryd.prog) h1', hck, MapKept.run_findKey hk g2, Result.andThen, MapKept.run_setObj_map (P := Tryd.prog) _ h1']
      rfl
    · rw [Array.toList_push]
      exact Fits.push rfl hv h2
  · rw [hx] at g1; cases g1
theorem IM.lookS {α : Type} {q : IntKind} {R : Value → α → Prop} {w : World} {b : Nat} {p : List (Int × α)} {t k e : TypeId} (h : IM q R w b p) (ht : Tryd.prog.underlying t = some (.map k e)) (hk : Tryd.prog.underlying k = some (.int q)) {z : Value} (hz : ∀ w, (zeroValue e).run Tryd.prog w = .ok z w) (x : Int) :
    (pget x p = none ∧ ∀ c W, W.heap[b]? = w.heap[b]? → (Instr.lookup t (.map (some b)) (.int q x) c).run Tryd.prog W = .ok (if c then .tuple #[z, .bool false] else z) W) ∨
    ∃ a v, pget x p = some a ∧ R v a ∧ ∀ c W, W.heap[b]? = w.heap[b]? → (Instr.lookup t (.map (some b)) (.int q x) c).run Tryd.prog W = .ok (if c then .tuple #[v, .bool true] else v) W := by
  obtain ⟨es, clock, h1, h2⟩ := h
  rcases h2.find x 0 with ⟨g1, g2⟩ | ⟨a, v, j, g1, g2, g3, _⟩
  · refine .inl ⟨g1, fun c W hW => ?_⟩
    have h1' := hW.trans h1
    have hck := fun e => MapKept.run_checkKey (P := Tryd.prog) (w := W) hk (show MapKept.IsKey (.int q) (.int q x) by simp [MapKept.IsKey]) e 9999
    simp [Instr.lookup, run_underlying ht, MapKept.run_getObj_map (P := Tryd.prog) h1', hck, MapKept.run_findKey hk g2, Result.andThen, hz]
  · refine .inr ⟨a, v, g1, g2, fun c W hW => ?_⟩
    have h1' := hW.trans h1
    have hck := fun e => MapKept.run_checkKey (P := Tryd.prog) (w := W) hk (show MapKept.IsKey (.int q) (.int q x) by simp [MapKept.IsKey]) e 9999
    simp [Instr.lookup, run_underlying ht, MapKept.run_getObj_map (P := Tryd.prog) h1', hck, MapKept.run_findKey hk g3, Result.andThen]
theorem IM.lenS {α : Type} {q : IntKind} {R : Value → α → Prop} {w : World} {b : Nat} {p : List (Int × α)} {t k e ty : TypeId} (h : IM q R w b p) (ht : Tryd.prog.underlying t = some (.map k e)) (W : World) (hW : W.heap[b]? = w.heap[b]?) : (Builtin.len_ #[t] ty #[.map (some b)]).run Tryd.prog W = .ok (goInt p.length) W :=
  (h.same hW).len ht
theorem waiting [Inhabited OkB] {W : World} {g : Nat} {s : LS} {ws : List Nat} (h : LinkM W g s ws) (hw : s.waits = true) : ∃ mb, W.cell? ⟨g, 8, none⟩ = some (.int .i64 s.many) ∧ W.cell? ⟨g, 9, none⟩ = some (.map (some mb)) ∧ IM .i64 (PartR W) W mb s.parts ∧ g < W.heap.size := by
  obtain ⟨sv, ma, mp, gs, mb, h1, h2, h3, h4, h5, h6, h7, h8⟩ := h
  obtain ⟨_, _, _, _, _, _, _, _, k8, k9⟩ := lcell h1
  rcases h4 with ⟨_, _, e⟩ | ⟨b, e1, rfl, him⟩
  · exact absurd e (h5 hw)
  · exact ⟨b, k8, k9, him, (Array.getElem?_eq_some_iff.1 h1).1⟩
theorem pget_mem {x : Int} {a : List Int} : ∀ {p : List (Int × List Int)}, pget x p = some a → (x, a) ∈ p
  | [], h => by cases h
  | y :: ys, h => by
    unfold pget at h
    by_cases e : x = y.1
    · rw [if_pos e] at h
      injection h with h
      subst e h
      exact List.mem_cons_self ..
    · rw [if_neg e] at h
      exact List.mem_cons_of_mem _ (pget_mem h)
theorem flat_succ (P : List (Int × List Int)) (i : Int) (h0 : 0 ≤ i) : (List.range (i + 1).toNat).flatMap (fun j : Nat => (pget (j : Int) P).getD []) = (List.range i.toNat).flatMap (fun j : Nat => (pget (j : Int) P).getD []) ++ (pget i P).getD [] := by
  rw [show (i + 1).toNat = i.toNat + 1 by omega, List.range_succ, List.flatMap_append]
  simp only [List.flatMap_cons, List.flatMap_nil, List.append_nil, Int.toNat_of_nonneg h0]
theorem flat_len {P : List (Int × List Int)} (h : ∀ j : Nat, ((pget (j : Int) P).getD []).length ≤ 200) : ∀ n : Nat, ((List.range n).flatMap (fun j : Nat => (pget (j : Int) P).getD [])).length ≤ 200 * n
  | 0 => by simp
  | n + 1 => by
    rw [List.range_succ, List.flatMap_append, List.length_append]
    have := flat_len h n
    have h1 := h n
    simp only [List.flatMap_cons, List.flatMap_nil, List.append_nil]
    omega
theorem tell_gap {a b : Int} (h : newerF a b = true) : 1 ≤ (a - b) % 65536 := by
  unfold newerF at h
  have := of_decide_eq_true h
  omega
theorem unwait [Inhabited OkB] {W : World} {g : Nat} {s : LS} {ws : List Nat} (h : LinkM W g s ws) : LinkM (W.setCell ⟨g, 6, none⟩ (.bool false)) g { s with waits := false } ws ∧ Keeps W (W.setCell ⟨g, 6, none⟩ (.bool false)) ws := by
  have hin := h.g_in
  obtain ⟨sv, ma, mp, gs, mb, h1, h2, h3, h4, h5, h6, h7, h8⟩ := h
  have hgr := grown_set (j := 6) (v := .bool false) (World.grownBy.refl W (some g))
  obtain ⟨q1, q2, q3⟩ := struct_keeps h1 hgr
  refine ⟨⟨sv, ma, mp, gs, mb, blk_put h1 6 (.bool false) rfl, q1 _ _ _ h2, q2 _ _ h3, q3 _ _ _ h4, by simp, h6, h7, h8⟩, Keeps.of_grown hgr hin.1⟩
theorem new_parts [Inhabited OkB] {W : World} {g : Nat} {s : LS} {ws : List Nat} (h : LinkM W g s ws) (N m : Int) (hN : 0 ≤ N ∧ N < 65536) (hm : 0 ≤ m ∧ m ≤ 10) (X : World)
    (hX : X = (((((W.alloc (.map #[] 0)).setCell ⟨g, 6, none⟩ (.bool true)).setCell ⟨g, 7, none⟩ (.int .u16 N)).setCell ⟨g, 8, none⟩ (.int .i64 m)).setCell ⟨g, 9, none⟩ (.map (some W.heap.size)))) :
    ∃ ws2, LinkM X g { s with waits := true, n := N, many := m, parts := [] } ws2 ∧ (∀ k ∈ ws2, k ∈ ws ∨ W.heap.size ≤ k) ∧ Keeps W X ws := by
  subst hX
  have hin := h.g_in
  have hb := below_alloc (Below.refl W.heap.size W) (.map #[] 0)
  have hlt := h.lt
  have h' := h.below hb
  obtain ⟨sv, ma, mp, gs, mb, h1, h2, h3, h4, h5, h6, h7, h8⟩ := h'
  have hgr := grown_set (j := 9) (v := .map (some W.heap.size)) (grown_set (j := 8) (v := .int .i64 m) (grown_set (j := 7) (v := .int .u16 N) (grown_set (j := 6) (v := .bool true) (World.grownBy.refl (W.alloc (.map #[] 0)) (some g)))))
  obtain ⟨q1, q2, q3⟩ := struct_keeps h1 hgr
  have hma : ma ∈ ws := by rw [h7]; simp [wset]
  have hnew : W.heap.size ≠ g := by have := hin.2; omega
  refine ⟨wset g ma gs (some W.heap.size), ⟨sv, ma, .map (some W.heap.size), gs, some W.heap.size, blk_put (blk_put (blk_put (blk_put h1 6 (.bool true) rfl) 7 (.int .u16 N) rfl) 8 (.int .i64 m) rfl) 9 (.map (some W.heap.size)) rfl, q1 _ _ _ h2, q2 _ _ h3, .inr ⟨_, rfl, rfl, ?_⟩, by simp, fun e => by injection e with e; have := hlt ma hma; omega, rfl, ?_⟩, ?_, ?_⟩
  · refine IM.same (IM.made W) (hgr.block _ (by simp) (fun e => by injection e with e; exact hnew e))
  · obtain ⟨o1, o2, o3, o4, o5, o6, o7, o8⟩ := h8
    exact ⟨o1, o2, o3, hN, hm, o6, o7, by simp⟩
  · intro k hk
    simp only [wset, List.mem_append, List.mem_cons, List.not_mem_nil, or_false, Option.mem_toList] at hk
    rcases hk with ((rfl | rfl) | hk) | hk
    · exact .inl hin.1
    · exact .inl hma
    · exact .inl (by rw [h7]; simp [wset, hk])
    · injection hk with hk; exact .inr (by omega)
  · exact (Keeps.of_below hb ws).then (Keeps.of_grown hgr hin.1)
theorem more_parts [Inhabited OkB] {W W' : World} {g : Nat} {s : LS} {ws : List Nat} {mb : Nat} {p : List (Int × List Int)} (h : LinkM W g s ws) (hk9 : W.cell? ⟨g, 9, none⟩ = some (.map (some mb))) (hgr : W.grownBy W' (some mb)) (him : IM .i64 (PartR W) W' mb p)
    (hp : ∀ q ∈ p, q.2.length ≤ 200 ∧ ∀ y ∈ q.2, 0 ≤ y ∧ y < 256) : LinkM W' g { s with parts := p } ws ∧ Keeps W W' ws := by
  obtain ⟨sv, ma, mp, gs, mb', h1, h2, h3, h4, h5, h6, h7, h8⟩ := h
  have hmp : mp = .map (some mb) := by
    have := blk_cell h1 9
    rw [hk9] at this
    injection this with this
    exact this.symm
  subst hmp
  rcases h4 with ⟨e, _⟩ | ⟨b, e1, e2, h4⟩
  · cases e
  · injection e2 with e2
    injection e2 with e2
    subst e2
    subst e1
    obtain ⟨es, clock, hmo, _⟩ := h4
    have far : ∀ (b : Nat) (cs : Array Value) (t : TypeId), W.heap[b]? = some (Obj.cells cs t (0, 0)) → W'.heap[b]? = W.heap[b]? := fun b cs t hb =>
      hgr.block b (Array.getElem?_eq_some_iff.1 hb).1 (fun e => by injection e with e; subst e; rw [hmo] at hb; cases hb)
    refine ⟨⟨sv, ma, _, gs, some mb, (far g _ _ h1).trans h1, h2.same (fun b e => ?_), h3.same (hgr.block ma h3.lt (fun e => h6 e.symm)), .inr ⟨mb, rfl, rfl, him.imp (PartR.same (fun b cs hb => far b cs _ hb))⟩, h5, h6, h7, ?_⟩, Keeps.of_grown hgr (by rw [h7]; simp [wset])⟩
    · rcases h2 with ⟨_, _, e2⟩ | ⟨b', off, cap, cs, e1, _, h3, _⟩
      · exact absurd (e.symm.trans e2) (by simp)
      · obtain rfl : b = b' := Option.some.inj (e.symm.trans e1)
        exact far b _ _ h3
    · obtain ⟨o1, o2, o3, o4, o5, o6, o7, o8⟩ := h8
      exact ⟨o1, o2, o3, o4, o5, o6, o7, hp⟩
end Go.Proofs.YtbdocgddidcfeaaDoor
namespace Go.Proofs.YtbdocgddidcfeaaDoor
open Go.RowKit Go.Proofs.YtbdocgddidcfeaaDoorW.PrintWords Go.Proofs.YtbdocgddidcfeaaDoorW.PrintLast Go.Proofs.YtbdocgddidcfeaaDoorW.PrintMore
set_option linter.unusedVariables false
set_option linter.unusedSimpArgs false
theorem formed_facts {b : List Int} (h : formedF b = true) : 11 ≤ b.length ∧ 1 ≤ rd b 10 ∧ rd b 10 ≤ 10 ∧ rd b 9 < rd b 10 ∧ (b.length : Int) - 11 ≤ 200 := by
  unfold formedF at h
  split at h
  · cases h
  · split at h
    · cases h
    · split at h
      · cases h
      · omega
def RcvPost [Inhabited OkB] (w : World) (g : Nat) (ws : List Nat) (s' : LS) (out : List Int) (told : Bool) (err : Int) (e : Ending) (w' : World) : Prop :=
  ∃ v ws', e = .returned (.tuple #[v, .bool told, .int .i64 err]) ∧ RS w.heap.size w' v out ∧ LinkM w' g s' ws' ∧ (∀ k ∈ ws', k ∈ ws ∨ w.heap.size ≤ k) ∧ Keeps w w' ws
set_option maxHeartbeats 8000000 in
set_option maxRecDepth 100000 in
theorem rcv_shut [Inhabited OkB] (A : Option Addr) (c : Nat) (d : List Int) (g : Nat) (s : LS) (ws : List Nat) (w : World) (h : LinkM w g s ws) (hC : Kd.C (Kd.int .u8) w A d.length d) (hc : d.length ≤ c) (hd : ∀ x ∈ d, 0 ≤ x ∧ x < 256) (hl : d.length ≤ 140737488351232) (hT : Tab w) (h2 : (opF d).2 = false) : Calls Tryd.prog 13 #[.pointer (some ⟨g, 0, none⟩), .slice A d.length c] w (RcvPost w g ws s [] false 70) := by
  have hO := Open_callsF A c d w hC hc (by omega) hT
  rw [h2] at hO
  go_enter Tryd.func13, Tryd.ntmps13
  go_wp2
  refine wp_scope_fwd 0 rfl ?_
  go_wp2_with fail
  ((with_reducible refine hO.mono ?_); rintro e_ W1 ⟨v0, rfl, ⟨sp, ho_⟩, hb_⟩)
  have HL := Aside0.mk (h.below hb_); have HB := Aside0.mk hb_
  clear h ho_ hb_ hO
  go_wp2
  go_step3
  refine ⟨rfl, ?_⟩
  go_wp2
  (try simp only [Exit.jump])
  go_ret3
  exact ⟨_, ws, rfl, RS.nil _ _, HL.out, fun k hk => .inl hk, Keeps.of_below HB.out ws⟩
set_option maxHeartbeats 8000000 in
set_option maxRecDepth 100000 in
theorem rcv_unformed [Inhabited OkB] (A : Option Addr) (c : Nat) (d : List Int) (g : Nat) (s : LS) (ws : List Nat) (w : World) (h : LinkM w g s ws) (hC : Kd.C (Kd.int .u8) w A d.length d) (hc : d.length ≤ c) (hd : ∀ x ∈ d, 0 ≤ x ∧ x < 256) (hl : d.length ≤ 140737488351232) (hT : Tab w) (hbl : (opF d).1.length ≤ 140737488355328) (h2 : (opF d).2 = true) (h3 : formedF (opF d).1 = false) : Calls Tryd.prog 13 #[.pointer (some ⟨g, 0, none⟩), .slice A d.length c] w (RcvPost w g ws s [] false 70) := by
  obtain ⟨b, hbe⟩ : ∃ b, b = (opF d).1 := ⟨_, rfl⟩
  have hbr : ∀ x ∈ b, 0 ≤ x ∧ x < 256 := by rw [hbe]; exact opF_range d hd
  have hO := Open_callsF A c d w hC hc (by omega) hT
  rw [h2, ← hbe] at hO
  rw [← hbe] at h3 hbl
  obtain ⟨L, hL⟩ : ∃ L, L = b.length := ⟨_, rfl⟩
  rw [← hL] at hbl
  have HBE := Aside0.mk hbe; have HLN := Aside0.mk hL; have HBR := Aside0.mk hbr
  clear hbe hL hbr
  go_enter Tryd.func13, Tryd.ntmps13
  go_wp2
  refine wp_scope_fwd 0 rfl ?_
  go_wp2_with fail
  ((with_reducible refine hO.mono ?_); rintro e_ W1 ⟨v0, rfl, ⟨sp, ho_⟩, hb_⟩)
  obtain ⟨Ab, hv, hA, _, hcm⟩ := ho_.form
  rw [List.length_append, ← HLN.out] at hv hcm
  subst hv
  have hRR := Kd.R_reads' ho_.R
  rw [← HLN.out] at hRR
  generalize hq_ : sp.length = q at hRR hcm ⊢
  have HQ := Aside0.mk hq_; clear hq_
  have HL := Aside0.mk (h.below hb_); have HB := Aside0.mk hb_
  have hA' : 0 < L → ∃ gp, Ab = some ⟨gp, 0, none⟩ := by
    intro h0
    rcases hA with ⟨_, hn⟩ | ⟨gp, h1, _⟩
    · have := congrArg List.length hn
      simp at this
      have := HLN.out
      have : L = 0 := by rw [this]; rw [‹b = [] ∧ sp = []›.1]; rfl
      omega
    · exact ⟨gp, h1⟩
  have hF := formed_calls Ab L (L + q) b W1 hRR.2.2 hRR.2.1 hA' HBR.out hbl
  rw [h3] at hF
  clear h ho_ hb_ hO hRR hA hA' hcm
  go_wp2_with fail
  ((with_reducible refine hF.mono ?_); rintro e_ W2 ⟨rfl, q_, rfl⟩)
  clear hF
  go_wp2
  go_step3
  refine ⟨rfl, ?_⟩
  go_wp2
  (try simp only [Exit.jump])
  go_ret3
  exact ⟨_, ws, rfl, RS.nil _ _, HL.out.below (pw_below_drewN (Below.refl _ _) _), fun k hk => .inl hk, Keeps.of_below (pw_below_drewN HB.out _) ws⟩
set_option maxHeartbeats 8000000 in
set_option maxRecDepth 100000 in
theorem rcv_stale1 [Inhabited OkB] (A : Option Addr) (c : Nat) (d : List Int) (g : Nat) (s : LS) (ws : List Nat) (w : World) (h : LinkM w g s ws) (hC : Kd.C (Kd.int .u8) w A d.length d) (hc : d.length ≤ c) (hd : ∀ x ∈ d, 0 ≤ x ∧ x < 256) (hl : d.length ≤ 140737488351232) (hT : Tab w) (hokb : ∀ k, w.heap.size ≤ k → (default : OkB).ok k)
    (b : List Int) (N x9 x10 : Int) (hbe : b = (opF d).1) (hNx : N = rd b 7 * 256 + rd b 8) (hx9 : x9 = rd b 9) (hx10 : x10 = rd b 10) (hbl : b.length ≤ 140737488355328) (h2 : (opF d).2 = true) (h3 : formedF b = true) (hany : s.any = true) (hnw : newerF N s.last = false) : Calls Tryd.prog 13 #[.pointer (some ⟨g, 0, none⟩), .slice A d.length c] w (RcvPost w g ws { s with acked := hearF s b } [] false 71) := by
  have HOKB := Aside0.mk hokb; clear hokb
  have HX9 := Aside0.mk hx9; have HX10 := Aside0.mk hx10; have HNX := Aside0.mk hNx
  clear hx9 hx10 hNx
  have hbr : ∀ x ∈ b, 0 ≤ x ∧ x < 256 := by rw [hbe]; exact opF_range d hd
  have hO := Open_callsF A c d w hC hc (by omega) hT
  rw [h2, ← hbe] at hO
  obtain ⟨L, hL⟩ : ∃ L, L = b.length := ⟨_, rfl⟩
  rw [← hL] at hbl
  have HLN := Aside0.mk hL; have HBR := Aside0.mk hbr
  clear hbe hL hbr h2 hC hd hc hT
  go_enter Tryd.func13, Tryd.ntmps13
  go_wp2
  refine wp_scope_fwd 1 rfl ?_
  go_wp2_with fail
  ((with_reducible refine hO.mono ?_); rintro e_ W1 ⟨v0, rfl, ⟨sp, ho_⟩, hb_⟩)
  obtain ⟨Ab, hv, hA, _, hcm⟩ := ho_.form
  rw [List.length_append, ← HLN.out] at hv hcm
  subst hv
  have hRR := Kd.R_reads' ho_.R
  rw [← HLN.out] at hRR
  obtain ⟨h11, hm1, hm10, hpm, hsz⟩ := formed_facts h3
  rw [← HLN.out] at h11 hsz
  obtain ⟨gb, hgb, hbk⟩ := hA.resolve_left (fun hn => by
    have h1 := HLN.out
    rw [(List.append_eq_nil_iff.1 hn.2).1] at h1
    simp at h1
    omega)
  subst hgb
  have HBK := Aside0.mk hbk
  generalize hq_ : sp.length = q at hRR hcm ⊢
  clear hq_
  have hF := formed_calls (some ⟨gb, 0, none⟩) L (L + q) b W1 hRR.2.2 hRR.2.1 (fun _ => ⟨gb, rfl⟩) HBR.out hbl
  rw [h3] at hF
  have hgbn := ho_.base gb rfl
  have HL1 := Aside0.mk (h.below hb_); have HB := Aside0.mk hb_; have HH := Aside0.mk h; have HGB := Aside0.mk hgbn
  have HSZ := Aside0.mk hsz; have hLq := hRR.2.1
  clear h hbk ho_ hb_ hO hRR hA h3 hgbn hsz
  go_wp2_with fail
  ((with_reducible refine hF.mono ?_); rintro e_ W2 ⟨rfl, q_, rfl⟩)
  clear hF
  have HL2 := Aside0.mk (HL1.out.below (pw_below_drewN (Below.refl _ _) q_))
  have hcellf : ∀ (W : World), W.heap[gb]? = some (Obj.cells ((b ++ sp).map (Value.int .u8)).toArray 5 (0, 0)) → ∀ i : Nat, i < L → W.cell? ⟨gb, i, none⟩ = some (.int .u8 (rd b (i : Int))) := by
    intro W hW i hi
    have hi' : i < b.length := by have := HLN.out; omega
    rw [blk_cell hW, rd_get' hi']
    simp only [List.getElem?_toArray, List.map_append]
    rw [List.getElem?_append_left (by simpa using hi'), List.getElem?_map, List.getElem?_eq_getElem hi']
    rfl
  have HCF := Aside0.mk hcellf; clear hcellf
  have hh := hear_calls g s ws gb L (L + q) b (W1.drewN q_) HL2.out HLN.out.symm (HCF.out _ HBK.out) h11 HBR.out
  go_wp2_with fail
  ((with_reducible refine hh.mono ?_); rintro e_ W3 ⟨rfl, hm3, hk3⟩)
  clear hh
  have hbk3 := hk3.u8 HL2.out HBK.out
  have HBK3 := Aside0.mk hbk3
  have HK3 : Aside0 (Keeps w W3 ws) := ⟨(Keeps.of_below (pw_below_drewN HB.out q_) ws).then hk3⟩
  have HM3 := Aside0.mk hm3
  have c7 : W3.cell? ⟨gb, 7, none⟩ = some (.int .u8 (rd b 7)) := HCF.out _ hbk3 7 (by omega)
  have c8 : W3.cell? ⟨gb, 8, none⟩ = some (.int .u8 (rd b 8)) := HCF.out _ hbk3 8 (by omega)
  have c9 : W3.cell? ⟨gb, 9, none⟩ = some (.int .u8 (rd b 9)) := HCF.out _ hbk3 9 (by omega)
  have c10 : W3.cell? ⟨gb, 10, none⟩ = some (.int .u8 (rd b 10)) := HCF.out _ hbk3 10 (by omega)
  have rdr : ∀ i : Nat, i < 11 → 0 ≤ rd b (i : Int) ∧ rd b (i : Int) < 256 := fun i hi => rd_mem HBR.out (by omega) (by have := HLN.out; omega)
  have r7 : 0 ≤ rd b 7 ∧ rd b 7 < 256 := rdr 7 (by omega)
  have r8 : 0 ≤ rd b 8 ∧ rd b 8 < 256 := rdr 8 (by omega)
  have r9 : 0 ≤ rd b 9 ∧ rd b 9 < 256 := rdr 9 (by omega)
  have r10 : 0 ≤ rd b 10 ∧ rd b 10 < 256 := rdr 10 (by omega)
  obtain ⟨sv, ma, mp, gs, mb, hg3, hs3, ha3, hp3, hw3, hne3, hws3, hok3⟩ := hm3
  obtain ⟨mo, rfl⟩ : ∃ o, mp = .map o := by
    rcases hp3 with ⟨e, _⟩ | ⟨b', _, e, _⟩
    · exact ⟨_, e⟩
    · exact ⟨_, e⟩
  obtain ⟨_, _, _, k3, k4, _, k6, k7, k8, k9⟩ := lcell hg3
  change W3.cell? ⟨g, 3, none⟩ = some (.bool s.any) at k3
  change W3.cell? ⟨g, 4, none⟩ = some (.int .u16 s.last) at k4
  change W3.cell? ⟨g, 6, none⟩ = some (.bool s.waits) at k6
  change W3.cell? ⟨g, 7, none⟩ = some (.int .u16 s.n) at k7
  change W3.cell? ⟨g, 8, none⟩ = some (.int .i64 s.many) at k8
  have hNe : bits .or .u16 (rd b 7 * 256) (rd b 8) = rd b 7 * 256 + rd b 8 := or_add16 _ _ r7 r8
  have hfz : ∀ j, W3.frozen? ⟨g, j, none⟩ = false := fun j => blk_frozen hg3 j
  have hgl : g < W3.heap.size := (Array.getElem?_eq_some_iff.1 hg3).1
  have hsamea : ∀ (o : Obj) (n : Nat), ((W3.drewN n).alloc o).heap[g]? = W3.heap[g]? := fun o n => (MapKept.heap_alloc (W3.drewN n) o).2 g hgl
  have al : ∀ (o : Obj) (n j : Nat), ((W3.drewN n).alloc o).cell? ⟨g, j, none⟩ = W3.cell? ⟨g, j, none⟩ ∧ ((W3.drewN n).alloc o).frozen? ⟨g, j, none⟩ = W3.frozen? ⟨g, j, none⟩ := fun o n j => ⟨World.cell?_of_block (a := ⟨g, j, none⟩) (hsamea o n), World.frozen?_of_block (a := ⟨g, j, none⟩) (hsamea o n)⟩
  have hok := HH.out.ok
  have HOK := Aside0.mk hok; clear hok
  have HAL := Aside0.mk al
  clear al hsamea hg3 hs3 ha3 hp3 hw3 hne3 hws3 hok3 hbk3 hk3 rdr
  have hx9 := HX9.out; have hx10 := HX10.out; have hNx := HNX.out
  rw [← hNx] at hNe
  have hNr : 0 ≤ N ∧ N < 65536 := by omega
  obtain ⟨x7, hx7⟩ : ∃ x, x = rd b 7 := ⟨_, rfl⟩
  obtain ⟨x8, hx8⟩ : ∃ x, x = rd b 8 := ⟨_, rfl⟩
  rw [← hx7] at c7 r7 hNe; rw [← hx8] at c8 r8 hNe; rw [← hx9] at c9 r9 hpm; rw [← hx10] at c10 r10 hm1 hm10 hpm
  clear hx7 hx8 hx9 hx10 hNx
  rw [hany] at k3
  clear hany
  go_wp2
  go_quiet (fail)
  go_wp2_with fail
  ((with_reducible refine (newer_calls _ _ _).mono ?_); rintro e_ Wn ⟨rfl, rfl⟩)
  rw [hnw]
  go_wp2
  go_step3
  refine ⟨rfl, ?_⟩
  go_wp2
  (try simp only [Exit.jump])
  go_ret3
  exact ⟨_, ws, rfl, RS.nil _ _, HM3.out.below (pw_below_drewN (Below.refl _ _) _), fun k hk => .inl hk, HK3.out⟩
set_option maxHeartbeats 8000000 in
set_option maxRecDepth 100000 in
theorem rcv_stale2 [Inhabited OkB] (A : Option Addr) (c : Nat) (d : List Int) (g : Nat) (s : LS) (ws : List Nat) (w : World) (h : LinkM w g s ws) (hC : Kd.C (Kd.int .u8) w A d.length d) (hc : d.length ≤ c) (hd : ∀ x ∈ d, 0 ≤ x ∧ x < 256) (hl : d.length ≤ 140737488351232) (hT : Tab w) (hokb : ∀ k, w.heap.size ≤ k → (default : OkB).ok k)
    (b : List Int) (N x9 x10 : Int) (hbe : b = (opF d).1) (hNx : N = rd b 7 * 256 + rd b 8) (hx9 : x9 = rd b 9) (hx10 : x10 = rd b 10) (hbl : b.length ≤ 140737488355328) (h2 : (opF d).2 = true) (h3 : formedF b = true) (hany : s.any = false) (hw : s.waits = true) (hne : N ≠ s.n) (hnn : newerF N s.n = false) : Calls Tryd.prog 13 #[.pointer (some ⟨g, 0, none⟩), .slice A d.length c] w (RcvPost w g ws { s with acked := hearF s b } [] false 71) := by
  have HANY := Aside0.mk hany; clear hany
  have HWA := Aside0.mk hw; clear hw
  have HOKB := Aside0.mk hokb; clear hokb
  have HX9 := Aside0.mk hx9; have HX10 := Aside0.mk hx10; have HNX := Aside0.mk hNx
  clear hx9 hx10 hNx
  have hbr : ∀ x ∈ b, 0 ≤ x ∧ x < 256 := by rw [hbe]; exact opF_range d hd
  have hO := Open_callsF A c d w hC hc (by omega) hT
  rw [h2, ← hbe] at hO
  obtain ⟨L, hL⟩ : ∃ L, L = b.length := ⟨_, rfl⟩
  rw [← hL] at hbl
  have HLN := Aside0.mk hL; have HBR := Aside0.mk hbr
  clear hbe hL hbr h2 hC hd hc hT
  go_enter Tryd.func13, Tryd.ntmps13
  go_wp2
  refine wp_scope_fwd 1 rfl ?_
  go_wp2_with fail
  ((with_reducible refine hO.mono ?_); rintro e_ W1 ⟨v0, rfl, ⟨sp, ho_⟩, hb_⟩)
  obtain ⟨Ab, hv, hA, _, hcm⟩ := ho_.form
  rw [List.length_append, ← HLN.out] at hv hcm
  subst hv
  have hRR := Kd.R_reads' ho_.R
  rw [← HLN.out] at hRR
  obtain ⟨h11, hm1, hm10, hpm, hsz⟩ := formed_facts h3
  rw [← HLN.out] at h11 hsz
  obtain ⟨gb, hgb, hbk⟩ := hA.resolve_left (fun hn => by
    have h1 := HLN.out
    rw [(List.append_eq_nil_iff.1 hn.2).1] at h1
    simp at h1
    omega)
  subst hgb
  have HBK := Aside0.mk hbk
  generalize hq_ : sp.length = q at hRR hcm ⊢
  clear hq_
  have hF := formed_calls (some ⟨gb, 0, none⟩) L (L + q) b W1 hRR.2.2 hRR.2.1 (fun _ => ⟨gb, rfl⟩) HBR.out hbl
  rw [h3] at hF
  have hgbn := ho_.base gb rfl
  have HL1 := Aside0.mk (h.below hb_); have HB := Aside0.mk hb_; have HH := Aside0.mk h; have HGB := Aside0.mk hgbn
  have HSZ := Aside0.mk hsz; have hLq := hRR.2.1
  clear h hbk ho_ hb_ hO hRR hA h3 hgbn hsz
  go_wp2_with fail
  ((with_reducible refine hF.mono ?_); rintro e_ W2 ⟨rfl, q_, rfl⟩)
  clear hF
  have HL2 := Aside0.mk (HL1.out.below (pw_below_drewN (Below.refl _ _) q_))
  have hcellf : ∀ (W : World), W.heap[gb]? = some (Obj.cells ((b ++ sp).map (Value.int .u8)).toArray 5 (0, 0)) → ∀ i : Nat, i < L → W.cell? ⟨gb, i, none⟩ = some (.int .u8 (rd b (i : Int))) := by
    intro W hW i hi
    have hi' : i < b.length := by have := HLN.out; omega
    rw [blk_cell hW, rd_get' hi']
    simp only [List.getElem?_toArray, List.map_append]
    rw [List.getElem?_append_left (by simpa using hi'), List.getElem?_map, List.getElem?_eq_getElem hi']
    rfl
  have HCF := Aside0.mk hcellf; clear hcellf
  have hh := hear_calls g s ws gb L (L + q) b (W1.drewN q_) HL2.out HLN.out.symm (HCF.out _ HBK.out) h11 HBR.out
  go_wp2_with fail
  ((with_reducible refine hh.mono ?_); rintro e_ W3 ⟨rfl, hm3, hk3⟩)
  clear hh
  have hbk3 := hk3.u8 HL2.out HBK.out
  have HBK3 := Aside0.mk hbk3
  have HK3 : Aside0 (Keeps w W3 ws) := ⟨(Keeps.of_below (pw_below_drewN HB.out q_) ws).then hk3⟩
  have HM3 := Aside0.mk hm3
  have c7 : W3.cell? ⟨gb, 7, none⟩ = some (.int .u8 (rd b 7)) := HCF.out _ hbk3 7 (by omega)
  have c8 : W3.cell? ⟨gb, 8, none⟩ = some (.int .u8 (rd b 8)) := HCF.out _ hbk3 8 (by omega)
  have c9 : W3.cell? ⟨gb, 9, none⟩ = some (.int .u8 (rd b 9)) := HCF.out _ hbk3 9 (by omega)
  have c10 : W3.cell? ⟨gb, 10, none⟩ = some (.int .u8 (rd b 10)) := HCF.out _ hbk3 10 (by omega)
  have rdr : ∀ i : Nat, i < 11 → 0 ≤ rd b (i : Int) ∧ rd b (i : Int) < 256 := fun i hi => rd_mem HBR.out (by omega) (by have := HLN.out; omega)
  have r7 : 0 ≤ rd b 7 ∧ rd b 7 < 256 := rdr 7 (by omega)
  have r8 : 0 ≤ rd b 8 ∧ rd b 8 < 256 := rdr 8 (by omega)
  have r9 : 0 ≤ rd b 9 ∧ rd b 9 < 256 := rdr 9 (by omega)
  have r10 : 0 ≤ rd b 10 ∧ rd b 10 < 256 := rdr 10 (by omega)
  obtain ⟨sv, ma, mp, gs, mb, hg3, hs3, ha3, hp3, hw3, hne3, hws3, hok3⟩ := hm3
  obtain ⟨mo, rfl⟩ : ∃ o, mp = .map o := by
    rcases hp3 with ⟨e, _⟩ | ⟨b', _, e, _⟩
    · exact ⟨_, e⟩
    · exact ⟨_, e⟩
  obtain ⟨_, _, _, k3, k4, _, k6, k7, k8, k9⟩ := lcell hg3
  change W3.cell? ⟨g, 3, none⟩ = some (.bool s.any) at k3
  change W3.cell? ⟨g, 4, none⟩ = some (.int .u16 s.last) at k4
  change W3.cell? ⟨g, 6, none⟩ = some (.bool s.waits) at k6
  change W3.cell? ⟨g, 7, none⟩ = some (.int .u16 s.n) at k7
  change W3.cell? ⟨g, 8, none⟩ = some (.int .i64 s.many) at k8
  have hNe : bits .or .u16 (rd b 7 * 256) (rd b 8) = rd b 7 * 256 + rd b 8 := or_add16 _ _ r7 r8
  have hfz : ∀ j, W3.frozen? ⟨g, j, none⟩ = false := fun j => blk_frozen hg3 j
  have hgl : g < W3.heap.size := (Array.getElem?_eq_some_iff.1 hg3).1
  have hsamea : ∀ (o : Obj) (n : Nat), ((W3.drewN n).alloc o).heap[g]? = W3.heap[g]? := fun o n => (MapKept.heap_alloc (W3.drewN n) o).2 g hgl
  have al : ∀ (o : Obj) (n j : Nat), ((W3.drewN n).alloc o).cell? ⟨g, j, none⟩ = W3.cell? ⟨g, j, none⟩ ∧ ((W3.drewN n).alloc o).frozen? ⟨g, j, none⟩ = W3.frozen? ⟨g, j, none⟩ := fun o n j => ⟨World.cell?_of_block (a := ⟨g, j, none⟩) (hsamea o n), World.frozen?_of_block (a := ⟨g, j, none⟩) (hsamea o n)⟩
  have hok := HH.out.ok
  have HOK := Aside0.mk hok; clear hok
  have HAL := Aside0.mk al
  clear al hsamea hg3 hs3 ha3 hp3 hw3 hne3 hws3 hok3 hbk3 hk3 rdr
  have hx9 := HX9.out; have hx10 := HX10.out; have hNx := HNX.out
  rw [← hNx] at hNe
  have hNr : 0 ≤ N ∧ N < 65536 := by omega
  obtain ⟨x7, hx7⟩ : ∃ x, x = rd b 7 := ⟨_, rfl⟩
  obtain ⟨x8, hx8⟩ : ∃ x, x = rd b 8 := ⟨_, rfl⟩
  rw [← hx7] at c7 r7 hNe; rw [← hx8] at c8 r8 hNe; rw [← hx9] at c9 r9 hpm; rw [← hx10] at c10 r10 hm1 hm10 hpm
  clear hx7 hx8 hx9 hx10 hNx
  rw [HWA.out] at k6
  have n1 : decide (N = s.n) = false := decide_eq_false hne
  have n2 : (N == s.n) = false := beq_eq_false_iff_ne.2 hne
  have n3 : (N != s.n) = true := bne_iff_ne.2 hne
  rw [HANY.out] at k3
  go_wp2
  go_quiet (fail)
  go_wp2_with fail
  ((with_reducible refine (newer_calls _ _ _).mono ?_); rintro e_ Wn ⟨rfl, rfl⟩)
  rw [hnn]
  go_wp2
  go_step3
  refine ⟨rfl, ?_⟩
  go_wp2
  (try simp only [Exit.jump])
  go_ret3
  exact ⟨_, ws, rfl, RS.nil _ _, HM3.out.below (pw_below_drewN (Below.refl _ _) _), fun k hk => .inl hk, HK3.out⟩
set_option maxHeartbeats 8000000 in
set_option maxRecDepth 100000 in
theorem rcv_stale2a [Inhabited OkB] (A : Option Addr) (c : Nat) (d : List Int) (g : Nat) (s : LS) (ws : List Nat) (w : World) (h : LinkM w g s ws) (hC : Kd.C (Kd.int .u8) w A d.length d) (hc : d.length ≤ c) (hd : ∀ x ∈ d, 0 ≤ x ∧ x < 256) (hl : d.length ≤ 140737488351232) (hT : Tab w) (hokb : ∀ k, w.heap.size ≤ k → (default : OkB).ok k)
    (b : List Int) (N x9 x10 : Int) (hbe : b = (opF d).1) (hNx : N = rd b 7 * 256 + rd b 8) (hx9 : x9 = rd b 9) (hx10 : x10 = rd b 10) (hbl : b.length ≤ 140737488355328) (h2 : (opF d).2 = true) (h3 : formedF b = true) (hany : s.any = true) (hnw : newerF N s.last = true) (hw : s.waits = true) (hne : N ≠ s.n) (hnn : newerF N s.n = false) : Calls Tryd.prog 13 #[.pointer (some ⟨g, 0, none⟩), .slice A d.length c] w (RcvPost w g ws { s with acked := hearF s b } [] false 71) := by
  have HANY := Aside0.mk hany; clear hany
  have HNW := Aside0.mk hnw; clear hnw
  have HWA := Aside0.mk hw; clear hw
  have HOKB := Aside0.mk hokb; clear hokb
  have HX9 := Aside0.mk hx9; have HX10 := Aside0.mk hx10; have HNX := Aside0.mk hNx
  clear hx9 hx10 hNx
  have hbr : ∀ x ∈ b, 0 ≤ x ∧ x < 256 := by rw [hbe]; exact opF_range d hd
  have hO := Open_callsF A c d w hC hc (by omega) hT
  rw [h2, ← hbe] at hO
  obtain ⟨L, hL⟩ : ∃ L, L = b.length := ⟨_, rfl⟩
  rw [← hL] at hbl
  have HLN := Aside0.mk hL; have HBR := Aside0.mk hbr
  clear hbe hL hbr h2 hC hd hc hT
  go_enter Tryd.func13, Tryd.ntmps13
  go_wp2
  refine wp_scope_fwd 1 rfl ?_
  go_wp2_with fail
  ((with_reducible refine hO.mono ?_); rintro e_ W1 ⟨v0, rfl, ⟨sp, ho_⟩, hb_⟩)
  obtain ⟨Ab, hv, hA, _, hcm⟩ := ho_.form
  rw [List.length_append, ← HLN.out] at hv hcm
  subst hv
  have hRR := Kd.R_reads' ho_.R
  rw [← HLN.out] at hRR
  obtain ⟨h11, hm1, hm10, hpm, hsz⟩ := formed_facts h3
  rw [← HLN.out] at h11 hsz
  obtain ⟨gb, hgb, hbk⟩ := hA.resolve_left (fun hn => by
    have h1 := HLN.out
    rw [(List.append_eq_nil_iff.1 hn.2).1] at h1
    simp at h1
    omega)
  subst hgb
  have HBK := Aside0.mk hbk
  generalize hq_ : sp.length = q at hRR hcm ⊢
  clear hq_
  have hF := formed_calls (some ⟨gb, 0, none⟩) L (L + q) b W1 hRR.2.2 hRR.2.1 (fun _ => ⟨gb, rfl⟩) HBR.out hbl
  rw [h3] at hF
  have hgbn := ho_.base gb rfl
  have HL1 := Aside0.mk (h.below hb_); have HB := Aside0.mk hb_; have HH := Aside0.mk h; have HGB := Aside0.mk hgbn
  have HSZ := Aside0.mk hsz; have hLq := hRR.2.1
  clear h hbk ho_ hb_ hO hRR hA h3 hgbn hsz
  go_wp2_with fail
  ((with_reducible refine hF.mono ?_); rintro e_ W2 ⟨rfl, q_, rfl⟩)
  clear hF
  have HL2 := Aside0.mk (HL1.out.below (pw_below_drewN (Below.refl _ _) q_))
  have hcellf : ∀ (W : World), W.heap[gb]? = some (Obj.cells ((b ++ sp).map (Value.int .u8)).toArray 5 (0, 0)) → ∀ i : Nat, i < L → W.cell? ⟨gb, i, none⟩ = some (.int .u8 (rd b (i : Int))) := by
    intro W hW i hi
    have hi' : i < b.length := by have := HLN.out; omega
    rw [blk_cell hW, rd_get' hi']
    simp only [List.getElem?_toArray, List.map_append]
    rw [List.getElem?_append_left (by simpa using hi'), List.getElem?_map, List.getElem?_eq_getElem hi']
    rfl
  have HCF := Aside0.mk hcellf; clear hcellf
  have hh := hear_calls g s ws gb L (L + q) b (W1.drewN q_) HL2.out HLN.out.symm (HCF.out _ HBK.out) h11 HBR.out
  go_wp2_with fail
  ((with_reducible refine hh.mono ?_); rintro e_ W3 ⟨rfl, hm3, hk3⟩)
  clear hh
  have hbk3 := hk3.u8 HL2.out HBK.out
  have HBK3 := Aside0.mk hbk3
  have HK3 : Aside0 (Keeps w W3 ws) := ⟨(Keeps.of_below (pw_below_drewN HB.out q_) ws).then hk3⟩
  have HM3 := Aside0.mk hm3
  have c7 : W3.cell? ⟨gb, 7, none⟩ = some (.int .u8 (rd b 7)) := HCF.out _ hbk3 7 (by omega)
  have c8 : W3.cell? ⟨gb, 8, none⟩ = some (.int .u8 (rd b 8)) := HCF.out _ hbk3 8 (by omega)
  have c9 : W3.cell? ⟨gb, 9, none⟩ = some (.int .u8 (rd b 9)) := HCF.out _ hbk3 9 (by omega)
  have c10 : W3.cell? ⟨gb, 10, none⟩ = some (.int .u8 (rd b 10)) := HCF.out _ hbk3 10 (by omega)
  have rdr : ∀ i : Nat, i < 11 → 0 ≤ rd b (i : Int) ∧ rd b (i : Int) < 256 := fun i hi => rd_mem HBR.out (by omega) (by have := HLN.out; omega)
  have r7 : 0 ≤ rd b 7 ∧ rd b 7 < 256 := rdr 7 (by omega)
  have r8 : 0 ≤ rd b 8 ∧ rd b 8 < 256 := rdr 8 (by omega)
  have r9 : 0 ≤ rd b 9 ∧ rd b 9 < 256 := rdr 9 (by omega)
  have r10 : 0 ≤ rd b 10 ∧ rd b 10 < 256 := rdr 10 (by omega)
  obtain ⟨sv, ma, mp, gs, mb, hg3, hs3, ha3, hp3, hw3, hne3, hws3, hok3⟩ := hm3
  obtain ⟨mo, rfl⟩ : ∃ o, mp = .map o := by
    rcases hp3 with ⟨e, _⟩ | ⟨b', _, e, _⟩
    · exact ⟨_, e⟩
    · exact ⟨_, e⟩
  obtain ⟨_, _, _, k3, k4, _, k6, k7, k8, k9⟩ := lcell hg3
  change W3.cell? ⟨g, 3, none⟩ = some (.bool s.any) at k3
  change W3.cell? ⟨g, 4, none⟩ = some (.int .u16 s.last) at k4
  change W3.cell? ⟨g, 6, none⟩ = some (.bool s.waits) at k6
  change W3.cell? ⟨g, 7, none⟩ = some (.int .u16 s.n) at k7
  change W3.cell? ⟨g, 8, none⟩ = some (.int .i64 s.many) at k8
  have hNe : bits .or .u16 (rd b 7 * 256) (rd b 8) = rd b 7 * 256 + rd b 8 := or_add16 _ _ r7 r8
  have hfz : ∀ j, W3.frozen? ⟨g, j, none⟩ = false := fun j => blk_frozen hg3 j
  have hgl : g < W3.heap.size := (Array.getElem?_eq_some_iff.1 hg3).1
  have hsamea : ∀ (o : Obj) (n : Nat), ((W3.drewN n).alloc o).heap[g]? = W3.heap[g]? := fun o n => (MapKept.heap_alloc (W3.drewN n) o).2 g hgl
  have al : ∀ (o : Obj) (n j : Nat), ((W3.drewN n).alloc o).cell? ⟨g, j, none⟩ = W3.cell? ⟨g, j, none⟩ ∧ ((W3.drewN n).alloc o).frozen? ⟨g, j, none⟩ = W3.frozen? ⟨g, j, none⟩ := fun o n j => ⟨World.cell?_of_block (a := ⟨g, j, none⟩) (hsamea o n), World.frozen?_of_block (a := ⟨g, j, none⟩) (hsamea o n)⟩
  have hok := HH.out.ok
  have HOK := Aside0.mk hok; clear hok
  have HAL := Aside0.mk al
  clear al hsamea hg3 hs3 ha3 hp3 hw3 hne3 hws3 hok3 hbk3 hk3 rdr
  have hx9 := HX9.out; have hx10 := HX10.out; have hNx := HNX.out
  rw [← hNx] at hNe
  have hNr : 0 ≤ N ∧ N < 65536 := by omega
  obtain ⟨x7, hx7⟩ : ∃ x, x = rd b 7 := ⟨_, rfl⟩
  obtain ⟨x8, hx8⟩ : ∃ x, x = rd b 8 := ⟨_, rfl⟩
  rw [← hx7] at c7 r7 hNe; rw [← hx8] at c8 r8 hNe; rw [← hx9] at c9 r9 hpm; rw [← hx10] at c10 r10 hm1 hm10 hpm
  clear hx7 hx8 hx9 hx10 hNx
  rw [HWA.out] at k6
  have n1 : decide (N = s.n) = false := decide_eq_false hne
  have n2 : (N == s.n) = false := beq_eq_false_iff_ne.2 hne
  have n3 : (N != s.n) = true := bne_iff_ne.2 hne
  rw [HANY.out] at k3
  have hnw := HNW.out
  go_wp2
  go_quiet (fail)
  go_wp2_with fail
  ((with_reducible refine (newer_calls _ _ _).mono ?_); rintro e_ Wn ⟨rfl, rfl⟩)
  rw [hnw]
  go_wp2_with fail
  ((with_reducible refine (newer_calls _ _ _).mono ?_); rintro e_ Wn ⟨rfl, rfl⟩)
  rw [hnn]
  go_wp2
  go_step3
  refine ⟨rfl, ?_⟩
  go_wp2
  (try simp only [Exit.jump])
  go_ret3
  exact ⟨_, ws, rfl, RS.nil _ _, HM3.out.below (pw_below_drewN (Below.refl _ _) _), fun k hk => .inl hk, HK3.out⟩
end Go.Proofs.YtbdocgddidcfeaaDoor
namespace Go.Proofs.YtbdocgddidcfeaaDoor
open Go.RowKit Go.Proofs.YtbdocgddidcfeaaDoorW.PrintWords Go.Proofs.YtbdocgddidcfeaaDoorW.PrintLast Go.Proofs.YtbdocgddidcfeaaDoorW.PrintMore
set_option linter.unusedVariables false
set_option linter.unusedSimpArgs false
set_option maxHeartbeats 8000000 in
set_option maxRecDepth 100000 in
theorem rcv_new_pending [Inhabited OkB] (A : Option Addr) (c : Nat) (d : List Int) (g : Nat) (s : LS) (ws : List Nat) (w : World) (h : LinkM w g s ws) (hC : Kd.C (Kd.int .u8) w A d.length d) (hc : d.length ≤ c) (hd : ∀ x ∈ d, 0 ≤ x ∧ x < 256) (hl : d.length ≤ 140737488351232) (hT : Tab w) (hokb : ∀ k, w.heap.size ≤ k → (default : OkB).ok k)
    (b : List Int) (N x9 x10 : Int) (hbe : b = (opF d).1) (hNx : N = rd b 7 * 256 + rd b 8) (hx9 : x9 = rd b 9) (hx10 : x10 = rd b 10) (hbl : b.length ≤ 140737488355328) (h2 : (opF d).2 = true) (h3 : formedF b = true) (hany : s.any = false) (hw : s.waits = false) (hless : 1 < x10) : Calls Tryd.prog 13 #[.pointer (some ⟨g, 0, none⟩), .slice A d.length c] w (RcvPost w g ws { s with acked := hearF s b, waits := true, n := N, many := x10, parts := [(x9, b.drop 11)] } [] false 0) := by
  have HANY := Aside0.mk hany; clear hany
  have HWA := Aside0.mk hw; clear hw
  have HOKB := Aside0.mk hokb; clear hokb
  have HX9 := Aside0.mk hx9; have HX10 := Aside0.mk hx10; have HNX := Aside0.mk hNx
  clear hx9 hx10 hNx
  have hbr : ∀ x ∈ b, 0 ≤ x ∧ x < 256 := by rw [hbe]; exact opF_range d hd
  have hO := Open_callsF A c d w hC hc (by omega) hT
  rw [h2, ← hbe] at hO
  obtain ⟨L, hL⟩ : ∃ L, L = b.length := ⟨_, rfl⟩
  rw [← hL] at hbl
  have HLN := Aside0.mk hL; have HBR := Aside0.mk hbr
  clear hbe hL hbr h2 hC hd hc hT
  go_enter Tryd.func13, Tryd.ntmps13
  go_wp2
  refine wp_scope_fwd 1 rfl ?_
  go_wp2_with fail
  ((with_reducible refine hO.mono ?_); rintro e_ W1 ⟨v0, rfl, ⟨sp, ho_⟩, hb_⟩)
  obtain ⟨Ab, hv, hA, _, hcm⟩ := ho_.form
  rw [List.length_append, ← HLN.out] at hv hcm
  subst hv
  have hRR := Kd.R_reads' ho_.R
  rw [← HLN.out] at hRR
  obtain ⟨h11, hm1, hm10, hpm, hsz⟩ := formed_facts h3
  rw [← HLN.out] at h11 hsz
  obtain ⟨gb, hgb, hbk⟩ := hA.resolve_left (fun hn => by
    have h1 := HLN.out
    rw [(List.append_eq_nil_iff.1 hn.2).1] at h1
    simp at h1
    omega)
  subst hgb
  have HBK := Aside0.mk hbk
  generalize hq_ : sp.length = q at hRR hcm ⊢
  clear hq_
  have hF := formed_calls (some ⟨gb, 0, none⟩) L (L + q) b W1 hRR.2.2 hRR.2.1 (fun _ => ⟨gb, rfl⟩) HBR.out hbl
  rw [h3] at hF
  have hgbn := ho_.base gb rfl
  have HL1 := Aside0.mk (h.below hb_); have HB := Aside0.mk hb_; have HH := Aside0.mk h; have HGB := Aside0.mk hgbn
  have HSZ := Aside0.mk hsz; have hLq := hRR.2.1
  clear h hbk ho_ hb_ hO hRR hA h3 hgbn hsz
  go_wp2_with fail
  ((with_reducible refine hF.mono ?_); rintro e_ W2 ⟨rfl, q_, rfl⟩)
  clear hF
  have HL2 := Aside0.mk (HL1.out.below (pw_below_drewN (Below.refl _ _) q_))
  have hcellf : ∀ (W : World), W.heap[gb]? = some (Obj.cells ((b ++ sp).map (Value.int .u8)).toArray 5 (0, 0)) → ∀ i : Nat, i < L → W.cell? ⟨gb, i, none⟩ = some (.int .u8 (rd b (i : Int))) := by
    intro W hW i hi
    have hi' : i < b.length := by have := HLN.out; omega
    rw [blk_cell hW, rd_get' hi']
    simp only [List.getElem?_toArray, List.map_append]
    rw [List.getElem?_append_left (by simpa using hi'), List.getElem?_map, List.getElem?_eq_getElem hi']
    rfl
  have HCF := Aside0.mk hcellf; clear hcellf
  have hh := hear_calls g s ws gb L (L + q) b (W1.drewN q_) HL2.out HLN.out.symm (HCF.out _ HBK.out) h11 HBR.out
  go_wp2_with fail
  ((with_reducible refine hh.mono ?_); rintro e_ W3 ⟨rfl, hm3, hk3⟩)
  clear hh
  have hbk3 := hk3.u8 HL2.out HBK.out
  have HBK3 := Aside0.mk hbk3
  have HK3 : Aside0 (Keeps w W3 ws) := ⟨(Keeps.of_below (pw_below_drewN HB.out q_) ws).then hk3⟩
  have HM3 := Aside0.mk hm3
  have c7 : W3.cell? ⟨gb, 7, none⟩ = some (.int .u8 (rd b 7)) := HCF.out _ hbk3 7 (by omega)
  have c8 : W3.cell? ⟨gb, 8, none⟩ = some (.int .u8 (rd b 8)) := HCF.out _ hbk3 8 (by omega)
  have c9 : W3.cell? ⟨gb, 9, none⟩ = some (.int .u8 (rd b 9)) := HCF.out _ hbk3 9 (by omega)
  have c10 : W3.cell? ⟨gb, 10, none⟩ = some (.int .u8 (rd b 10)) := HCF.out _ hbk3 10 (by omega)
  have rdr : ∀ i : Nat, i < 11 → 0 ≤ rd b (i : Int) ∧ rd b (i : Int) < 256 := fun i hi => rd_mem HBR.out (by omega) (by have := HLN.out; omega)
  have r7 : 0 ≤ rd b 7 ∧ rd b 7 < 256 := rdr 7 (by omega)
  have r8 : 0 ≤ rd b 8 ∧ rd b 8 < 256 := rdr 8 (by omega)
  have r9 : 0 ≤ rd b 9 ∧ rd b 9 < 256 := rdr 9 (by omega)
  have r10 : 0 ≤ rd b 10 ∧ rd b 10 < 256 := rdr 10 (by omega)
  obtain ⟨sv, ma, mp, gs, mb, hg3, hs3, ha3, hp3, hw3, hne3, hws3, hok3⟩ := hm3
  obtain ⟨mo, rfl⟩ : ∃ o, mp = .map o := by
    rcases hp3 with ⟨e, _⟩ | ⟨b', _, e, _⟩
    · exact ⟨_, e⟩
    · exact ⟨_, e⟩
  obtain ⟨_, _, _, k3, k4, _, k6, k7, k8, k9⟩ := lcell hg3
  change W3.cell? ⟨g, 3, none⟩ = some (.bool s.any) at k3
  change W3.cell? ⟨g, 4, none⟩ = some (.int .u16 s.last) at k4
  change W3.cell? ⟨g, 6, none⟩ = some (.bool s.waits) at k6
  change W3.cell? ⟨g, 7, none⟩ = some (.int .u16 s.n) at k7
  change W3.cell? ⟨g, 8, none⟩ = some (.int .i64 s.many) at k8
  have hNe : bits .or .u16 (rd b 7 * 256) (rd b 8) = rd b 7 * 256 + rd b 8 := or_add16 _ _ r7 r8
  have hfz : ∀ j, W3.frozen? ⟨g, j, none⟩ = false := fun j => blk_frozen hg3 j
  have hgl : g < W3.heap.size := (Array.getElem?_eq_some_iff.1 hg3).1
  have hsamea : ∀ (o : Obj) (n : Nat), ((W3.drewN n).alloc o).heap[g]? = W3.heap[g]? := fun o n => (MapKept.heap_alloc (W3.drewN n) o).2 g hgl
  have al : ∀ (o : Obj) (n j : Nat), ((W3.drewN n).alloc o).cell? ⟨g, j, none⟩ = W3.cell? ⟨g, j, none⟩ ∧ ((W3.drewN n).alloc o).frozen? ⟨g, j, none⟩ = W3.frozen? ⟨g, j, none⟩ := fun o n j => ⟨World.cell?_of_block (a := ⟨g, j, none⟩) (hsamea o n), World.frozen?_of_block (a := ⟨g, j, none⟩) (hsamea o n)⟩
  have hok := HH.out.ok
  have HOK := Aside0.mk hok; clear hok
  have HAL := Aside0.mk al
  clear al hsamea hg3 hs3 ha3 hp3 hw3 hne3 hws3 hok3 hbk3 hk3 rdr
  have hx9 := HX9.out; have hx10 := HX10.out; have hNx := HNX.out
  rw [← hNx] at hNe
  have hNr : 0 ≤ N ∧ N < 65536 := by omega
  obtain ⟨x7, hx7⟩ : ∃ x, x = rd b 7 := ⟨_, rfl⟩
  obtain ⟨x8, hx8⟩ : ∃ x, x = rd b 8 := ⟨_, rfl⟩
  rw [← hx7] at c7 r7 hNe; rw [← hx8] at c8 r8 hNe; rw [← hx9] at c9 r9 hpm; rw [← hx10] at c10 r10 hm1 hm10 hpm
  clear hx7 hx8 hx9 hx10 hNx
  have fz6 : ∀ (o : Obj) (n j : Nat), ((W3.drewN n).alloc o).frozen? ⟨g, j, none⟩ = false := fun o n j => (HAL.out o n j).2.trans (hfz j)
  have a6 : ∀ (o : Obj) (n : Nat), ((W3.drewN n).alloc o).cell? ⟨g, 6, none⟩ = some (.bool s.waits) := fun o n => (HAL.out o n 6).1.trans k6
  have a7 : ∀ (o : Obj) (n : Nat), ((W3.drewN n).alloc o).cell? ⟨g, 7, none⟩ = some (.int .u16 s.n) := fun o n => (HAL.out o n 7).1.trans k7
  have a8 : ∀ (o : Obj) (n : Nat), ((W3.drewN n).alloc o).cell? ⟨g, 8, none⟩ = some (.int .i64 s.many) := fun o n => (HAL.out o n 8).1.trans k8
  have a9 : ∀ (o : Obj) (n : Nat), ((W3.drewN n).alloc o).cell? ⟨g, 9, none⟩ = some (.map mo) := fun o n => (HAL.out o n 9).1.trans k9
  have hmm : ∀ W : World, (Instr.makeMap 62 none).run Tryd.prog W = .ok (.map (some W.heap.size)) (W.alloc (.map #[] 0)) := by
    intro W
    simp [Instr.makeMap, Result.andThen]
  rw [HWA.out] at k6 a6
  rw [HANY.out] at k3
  go_wp2
  go_quiet (fail)
  go_wp2
  have hnp := fun X hX => new_parts (HM3.out.below (pw_below_drewN (Below.refl _ _) nq)) N x10 hNr (by omega) X hX
  have hb4 : ((((((W3.drewN nq).alloc (Obj.map #[] 0)).setCell ⟨g, 6, none⟩ (Value.bool true)).setCell ⟨g, 7, none⟩ (Value.int IntKind.u16 N)).setCell ⟨g, 8, none⟩ (Value.int IntKind.i64 x10)).setCell ⟨g, 9, none⟩ (Value.map (some W3.heap.size))) = ((((((W3.drewN nq).alloc (Obj.map #[] 0)).setCell ⟨g, 6, none⟩ (Value.bool true)).setCell ⟨g, 7, none⟩ (Value.int IntKind.u16 N)).setCell ⟨g, 8, none⟩ (Value.int IntKind.i64 x10)).setCell ⟨g, 9, none⟩ (Value.map (some W3.heap.size))) := rfl
  generalize hW4 : ((((((W3.drewN nq).alloc (Obj.map #[] 0)).setCell ⟨g, 6, none⟩ (Value.bool true)).setCell ⟨g, 7, none⟩ (Value.int IntKind.u16 N)).setCell ⟨g, 8, none⟩ (Value.int IntKind.i64 x10)).setCell ⟨g, 9, none⟩ (Value.map (some W3.heap.size))) = W4
  obtain ⟨ws2, hm4, hws2, hk4⟩ := hnp W4 hW4.symm
  clear hnp hb4 hW4 hmm a6 a7 a8 a9 fz6
  have HKK : Aside0 (Keeps w W4 ws) := ⟨HK3.out.then hk4⟩
  have HWS : Aside0 (∀ k ∈ ws2, k ∈ ws ∨ w.heap.size ≤ k) := ⟨fun k hk => (hws2 k hk).imp id (fun h => Nat.le_trans HK3.out.2.2.2.1 h)⟩
  have hbk4 : W4.heap[gb]? = some (Obj.cells ((b ++ sp).map (Value.int .u8)).toArray 5 (0, 0)) := hk4.u8 (HM3.out.below (pw_below_drewN (Below.refl _ _) nq)) HBK3.out
  have c10' : W4.cell? ⟨gb, 10, none⟩ = some (.int .u8 x10) := by rw [HX10.out]; exact HCF.out _ hbk4 10 (by omega)
  obtain ⟨s2, hs2⟩ : ∃ x : LS, x = { s with acked := hearF s b, waits := true, n := N, many := x10, parts := [] } := ⟨_, rfl⟩
  rw [← hs2] at hm4
  obtain ⟨mbb, j8, j9, him, hgl4⟩ := waiting hm4 (by rw [hs2])
  have e_parts : s2.parts = [] := by rw [hs2]
  have e_many : s2.many = x10 := by rw [hs2]
  rw [e_many] at j8
  have hok4 := hm4.ok
  have HS2 := Aside0.mk hs2; have HM4 := Aside0.mk hm4; have HIM := Aside0.mk him; have HBK4 := Aside0.mk hbk4; have HEP := Aside0.mk e_parts; have HEM := Aside0.mk e_many; have HOK4 := Aside0.mk hok4
  have hlk := him.lookS Tryd.underlying62 Tryd.underlying3 zslice x9
  rw [e_parts] at hlk
  have hnone : pget x9 s2.parts = none := by rw [e_parts]; rfl
  have hl2 : ∀ n, (Instr.lookup 62 (.map (some mbb)) (.int .i64 x9) true).run Tryd.prog (W4.drewN n) = .ok (.tuple #[.slice none 0 0, .bool false]) (W4.drewN n) := fun n => (hlk.resolve_right (fun ⟨a, _, h, _⟩ => by rw [e_parts] at hnone; rw [hnone] at h; cases h)).2 true _ rfl
  have HNONE := Aside0.mk hnone
  clear hs2 hm4 him hbk4 e_parts e_many hok4 hlk hnone
  have m1 : decide (x10 = x10) = true := decide_eq_true rfl
  have m3 : (x10 != x10) = false := bne_self_eq_false x10
  go_quiet (fail)
  go_wp2
  generalize hW5 : W4.drewN nq = W5
  have hh5 : W5.heap = W4.heap := by rw [← hW5]; rfl
  have hb5 : Below W4.heap.size W4 W5 := by rw [← hW5]; exact pw_below_drewN (Below.refl _ _) _
  have hm5 := HM4.out.below hb5
  have j95 : W5.cell? ⟨g, 9, none⟩ = some (.map (some mbb)) := (World.cell?_of_block (a := ⟨g, 9, none⟩) (by rw [hh5])).trans j9
  have hbk5 : W5.heap[gb]? = some (Obj.cells ((b ++ sp).map (Value.int .u8)).toArray 5 (0, 0)) := by rw [hh5]; exact HBK4.out
  have him5 : IM .i64 (PartR W5) W5 mbb s2.parts := (HIM.out.same (by rw [hh5])).imp (PartR.same (fun b cs _ => by rw [hh5]))
  obtain ⟨off, hoff, hcut⟩ := cut11 gb L (L + q) h11 hLq
  have hpr : PartR W5 (.slice (some ⟨gb, off, none⟩) (L - 11) (L + q - 11)) (b.drop 11) := part_of hbk5 HLN.out.symm h11 hoff (HOKB.out gb HGB.out)
  obtain ⟨W6, hup, hgr6, him6⟩ := him5.put1 Tryd.underlying62 Tryd.underlying3 x9 HNONE.out _ (b.drop 11) hpr
  have hpp : ∀ y ∈ s2.parts ++ [(x9, b.drop 11)], y.2.length ≤ 200 ∧ ∀ z ∈ y.2, 0 ≤ z ∧ z < 256 := by
    intro y hy
    rcases List.mem_append.1 hy with hy | hy
    · exact HOK4.out.2.2.2.2.2.2.2 y hy
    · obtain rfl := List.mem_singleton.1 hy
      refine ⟨?_, fun z hz => HBR.out z (List.mem_of_mem_drop hz)⟩
      show (b.drop 11).length ≤ 200
      rw [List.length_drop, ← HLN.out]
      have := HSZ.out
      omega
  obtain ⟨hm6, hk6⟩ := more_parts hm5 j95 hgr6 him6 hpp
  have HM6 := Aside0.mk hm6
  have HK6 : Aside0 (Keeps w W6 ws) := ⟨(HKK.out.trans ((Keeps.of_below hb5 ws2).then hk6) HWS.out)⟩
  clear hh5 hb5 hm5 hbk5 him5 hpr hgr6 him6 hpp hm6 hk6 hW5 j8 j9 hl2
  go_region
  generalize hW7 : W6.drew = W7
  have hb7 : Below W6.heap.size W6 W7 := by rw [← hW7]; exact below_drew1 (Below.refl _ _)
  have hm7 := HM6.out.below hb7
  obtain ⟨mb7, u8, u9, him7, hgl7⟩ := waiting hm7 (by rw [HS2.out])
  change W7.cell? ⟨g, 8, none⟩ = some (.int .i64 s2.many) at u8
  rw [HEM.out] at u8
  have HM7 := Aside0.mk hm7; have HIM7 := Aside0.mk him7
  have HK7 : Aside0 (Keeps w W7 ws) := ⟨HK6.out.then (Keeps.of_below hb7 ws)⟩
  have hlen : ∀ ty n, (Builtin.len_ #[62] ty #[.map (some mb7)]).run Tryd.prog (W7.drewN n) = .ok (goInt ((s2.parts ++ [(x9, b.drop 11)]).length : Nat)) (W7.drewN n) := fun ty n => HIM7.out.lenS Tryd.underlying62 _ rfl
  clear hm7 him7 hb7 hW7
  have hcnt : ((s2.parts ++ [(x9, b.drop 11)]).length : Int) = 1 := by rw [HEP.out]; rfl
  generalize (s2.parts ++ [(x9, b.drop 11)]).length = cnt at hlen hcnt
  have d5 : decide ((cnt : Int) < x10) = true := decide_eq_true (by rw [hcnt]; exact hless)
  clear hcnt hless
  go_wp2
  go_quiet (fail)
  go_wp2
  go_ret3
  exact ⟨_, ws2, rfl, RS.nil _ _, by rw [HS2.out] at HM7; exact HM7.out.below (pw_below_drewN (Below.refl _ _) _), HWS.out, HK7.out⟩
set_option maxHeartbeats 8000000 in
set_option maxRecDepth 100000 in
theorem rcv_new_told [Inhabited OkB] (A : Option Addr) (c : Nat) (d : List Int) (g : Nat) (s : LS) (ws : List Nat) (w : World) (h : LinkM w g s ws) (hC : Kd.C (Kd.int .u8) w A d.length d) (hc : d.length ≤ c) (hd : ∀ x ∈ d, 0 ≤ x ∧ x < 256) (hl : d.length ≤ 140737488351232) (hT : Tab w) (hokb : ∀ k, w.heap.size ≤ k → (default : OkB).ok k)
    (b : List Int) (N x9 x10 : Int) (hbe : b = (opF d).1) (hNx : N = rd b 7 * 256 + rd b 8) (hx9 : x9 = rd b 9) (hx10 : x10 = rd b 10) (hbl : b.length ≤ 140737488355328) (h2 : (opF d).2 = true) (h3 : formedF b = true) (hany : s.any = false) (hw : s.waits = false) (hless : ¬ 1 < x10) : Calls Tryd.prog 13 #[.pointer (some ⟨g, 0, none⟩), .slice A d.length c] w (RcvPost w g ws (tellF { s with acked := hearF s b, waits := true, n := N, many := x10, parts := [(x9, b.drop 11)] } N) (outF { s with acked := hearF s b, waits := true, n := N, many := x10, parts := [(x9, b.drop 11)] }) true 0) := by
  have HANY := Aside0.mk hany; clear hany
  have HWA := Aside0.mk hw; clear hw
  have HOKB := Aside0.mk hokb; clear hokb
  have HX9 := Aside0.mk hx9; have HX10 := Aside0.mk hx10; have HNX := Aside0.mk hNx
  clear hx9 hx10 hNx
  have hbr : ∀ x ∈ b, 0 ≤ x ∧ x < 256 := by rw [hbe]; exact opF_range d hd
  have hO := Open_callsF A c d w hC hc (by omega) hT
  rw [h2, ← hbe] at hO
  obtain ⟨L, hL⟩ : ∃ L, L = b.length := ⟨_, rfl⟩
  rw [← hL] at hbl
  have HLN := Aside0.mk hL; have HBR := Aside0.mk hbr
  clear hbe hL hbr h2 hC hd hc hT
  go_enter Tryd.func13, Tryd.ntmps13
  go_wp2
  refine wp_scope_fwd 1 rfl ?_
  go_wp2_with fail
  ((with_reducible refine hO.mono ?_); rintro e_ W1 ⟨v0, rfl, ⟨sp, ho_⟩, hb_⟩)
  obtain ⟨Ab, hv, hA, _, hcm⟩ := ho_.form
  rw [List.length_append, ← HLN.out] at hv hcm
  subst hv
  have hRR := Kd.R_reads' ho_.R
  rw [← HLN.out] at hRR
  obtain ⟨h11, hm1, hm10, hpm, hsz⟩ := formed_facts h3
  rw [← HLN.out] at h11 hsz
  obtain ⟨gb, hgb, hbk⟩ := hA.resolve_left (fun hn => by
    have h1 := HLN.out
    rw [(List.append_eq_nil_iff.1 hn.2).1] at h1
    simp at h1
    omega)
  subst hgb
  have HBK := Aside0.mk hbk
  generalize hq_ : sp.length = q at hRR hcm ⊢
  clear hq_
  have hF := formed_calls (some ⟨gb, 0, none⟩) L (L + q) b W1 hRR.2.2 hRR.2.1 (fun _ => ⟨gb, rfl⟩) HBR.out hbl
  rw [h3] at hF
  have hgbn := ho_.base gb rfl
  have HL1 := Aside0.mk (h.below hb_); have HB := Aside0.mk hb_; have HH := Aside0.mk h; have HGB := Aside0.mk hgbn
  have HSZ := Aside0.mk hsz; have hLq := hRR.2.1
  clear h hbk ho_ hb_ hO hRR hA h3 hgbn hsz
  go_wp2_with fail
  ((with_reducible refine hF.mono ?_); rintro e_ W2 ⟨rfl, q_, rfl⟩)
  clear hF
  have HL2 := Aside0.mk (HL1.out.below (pw_below_drewN (Below.refl _ _) q_))
  have hcellf : ∀ (W : World), W.heap[gb]? = some (Obj.cells ((b ++ sp).map (Value.int .u8)).toArray 5 (0, 0)) → ∀ i : Nat, i < L → W.cell? ⟨gb, i, none⟩ = some (.int .u8 (rd b (i : Int))) := by
    intro W hW i hi
    have hi' : i < b.length := by have := HLN.out; omega
    rw [blk_cell hW, rd_get' hi']
    simp only [List.getElem?_toArray, List.map_append]
    rw [List.getElem?_append_left (by simpa using hi'), List.getElem?_map, List.getElem?_eq_getElem hi']
    rfl
  have HCF := Aside0.mk hcellf; clear hcellf
  have hh := hear_calls g s ws gb L (L + q) b (W1.drewN q_) HL2.out HLN.out.symm (HCF.out _ HBK.out) h11 HBR.out
  go_wp2_with fail
  ((with_reducible refine hh.mono ?_); rintro e_ W3 ⟨rfl, hm3, hk3⟩)
  clear hh
  have hbk3 := hk3.u8 HL2.out HBK.out
  have HBK3 := Aside0.mk hbk3
  have HK3 : Aside0 (Keeps w W3 ws) := ⟨(Keeps.of_below (pw_below_drewN HB.out q_) ws).then hk3⟩
  have HM3 := Aside0.mk hm3
  have c7 : W3.cell? ⟨gb, 7, none⟩ = some (.int .u8 (rd b 7)) := HCF.out _ hbk3 7 (by omega)
  have c8 : W3.cell? ⟨gb, 8, none⟩ = some (.int .u8 (rd b 8)) := HCF.out _ hbk3 8 (by omega)
  have c9 : W3.cell? ⟨gb, 9, none⟩ = some (.int .u8 (rd b 9)) := HCF.out _ hbk3 9 (by omega)
  have c10 : W3.cell? ⟨gb, 10, none⟩ = some (.int .u8 (rd b 10)) := HCF.out _ hbk3 10 (by omega)
  have rdr : ∀ i : Nat, i < 11 → 0 ≤ rd b (i : Int) ∧ rd b (i : Int) < 256 := fun i hi => rd_mem HBR.out (by omega) (by have := HLN.out; omega)
  have r7 : 0 ≤ rd b 7 ∧ rd b 7 < 256 := rdr 7 (by omega)
  have r8 : 0 ≤ rd b 8 ∧ rd b 8 < 256 := rdr 8 (by omega)
  have r9 : 0 ≤ rd b 9 ∧ rd b 9 < 256 := rdr 9 (by omega)
  have r10 : 0 ≤ rd b 10 ∧ rd b 10 < 256 := rdr 10 (by omega)
  obtain ⟨sv, ma, mp, gs, mb, hg3, hs3, ha3, hp3, hw3, hne3, hws3, hok3⟩ := hm3
  obtain ⟨mo, rfl⟩ : ∃ o, mp = .map o := by
    rcases hp3 with ⟨e, _⟩ | ⟨b', _, e, _⟩
    · exact ⟨_, e⟩
    · exact ⟨_, e⟩
  obtain ⟨_, _, _, k3, k4, _, k6, k7, k8, k9⟩ := lcell hg3
  change W3.cell? ⟨g, 3, none⟩ = some (.bool s.any) at k3
  change W3.cell? ⟨g, 4, none⟩ = some (.int .u16 s.last) at k4
  change W3.cell? ⟨g, 6, none⟩ = some (.bool s.waits) at k6
  change W3.cell? ⟨g, 7, none⟩ = some (.int .u16 s.n) at k7
  change W3.cell? ⟨g, 8, none⟩ = some (.int .i64 s.many) at k8
  have hNe : bits .or .u16 (rd b 7 * 256) (rd b 8) = rd b 7 * 256 + rd b 8 := or_add16 _ _ r7 r8
  have hfz : ∀ j, W3.frozen? ⟨g, j, none⟩ = false := fun j => blk_frozen hg3 j
  have hgl : g < W3.heap.size := (Array.getElem?_eq_some_iff.1 hg3).1
  have hsamea : ∀ (o : Obj) (n : Nat), ((W3.drewN n).alloc o).heap[g]? = W3.heap[g]? := fun o n => (MapKept.heap_alloc (W3.drewN n) o).2 g hgl
  have al : ∀ (o : Obj) (n j : Nat), ((W3.drewN n).alloc o).cell? ⟨g, j, none⟩ = W3.cell? ⟨g, j, none⟩ ∧ ((W3.drewN n).alloc o).frozen? ⟨g, j, none⟩ = W3.frozen? ⟨g, j, none⟩ := fun o n j => ⟨World.cell?_of_block (a := ⟨g, j, none⟩) (hsamea o n), World.frozen?_of_block (a := ⟨g, j, none⟩) (hsamea o n)⟩
  have hok := HH.out.ok
  have HOK := Aside0.mk hok; clear hok
  have HAL := Aside0.mk al
  clear al hsamea hg3 hs3 ha3 hp3 hw3 hne3 hws3 hok3 hbk3 hk3 rdr
  have hx9 := HX9.out; have hx10 := HX10.out; have hNx := HNX.out
  rw [← hNx] at hNe
  have hNr : 0 ≤ N ∧ N < 65536 := by omega
  obtain ⟨x7, hx7⟩ : ∃ x, x = rd b 7 := ⟨_, rfl⟩
  obtain ⟨x8, hx8⟩ : ∃ x, x = rd b 8 := ⟨_, rfl⟩
  rw [← hx7] at c7 r7 hNe; rw [← hx8] at c8 r8 hNe; rw [← hx9] at c9 r9 hpm; rw [← hx10] at c10 r10 hm1 hm10 hpm
  clear hx7 hx8 hx9 hx10 hNx
  have fz6 : ∀ (o : Obj) (n j : Nat), ((W3.drewN n).alloc o).frozen? ⟨g, j, none⟩ = false := fun o n j => (HAL.out o n j).2.trans (hfz j)
  have a6 : ∀ (o : Obj) (n : Nat), ((W3.drewN n).alloc o).cell? ⟨g, 6, none⟩ = some (.bool s.waits) := fun o n => (HAL.out o n 6).1.trans k6
  have a7 : ∀ (o : Obj) (n : Nat), ((W3.drewN n).alloc o).cell? ⟨g, 7, none⟩ = some (.int .u16 s.n) := fun o n => (HAL.out o n 7).1.trans k7
  have a8 : ∀ (o : Obj) (n : Nat), ((W3.drewN n).alloc o).cell? ⟨g, 8, none⟩ = some (.int .i64 s.many) := fun o n => (HAL.out o n 8).1.trans k8
  have a9 : ∀ (o : Obj) (n : Nat), ((W3.drewN n).alloc o).cell? ⟨g, 9, none⟩ = some (.map mo) := fun o n => (HAL.out o n 9).1.trans k9
  have hmm : ∀ W : World, (Instr.makeMap 62 none).run Tryd.prog W = .ok (.map (some W.heap.size)) (W.alloc (.map #[] 0)) := by
    intro W
    simp [Instr.makeMap, Result.andThen]
  rw [HWA.out] at k6 a6
  rw [HANY.out] at k3
  go_wp2
  go_quiet (fail)
  go_wp2
  have hnp := fun X hX => new_parts (HM3.out.below (pw_below_drewN (Below.refl _ _) nq)) N x10 hNr (by omega) X hX
  have hb4 : ((((((W3.drewN nq).alloc (Obj.map #[] 0)).setCell ⟨g, 6, none⟩ (Value.bool true)).setCell ⟨g, 7, none⟩ (Value.int IntKind.u16 N)).setCell ⟨g, 8, none⟩ (Value.int IntKind.i64 x10)).setCell ⟨g, 9, none⟩ (Value.map (some W3.heap.size))) = ((((((W3.drewN nq).alloc (Obj.map #[] 0)).setCell ⟨g, 6, none⟩ (Value.bool true)).setCell ⟨g, 7, none⟩ (Value.int IntKind.u16 N)).setCell ⟨g, 8, none⟩ (Value.int IntKind.i64 x10)).setCell ⟨g, 9, none⟩ (Value.map (some W3.heap.size))) := rfl
  generalize hW4 : ((((((W3.drewN nq).alloc (Obj.map #[] 0)).setCell ⟨g, 6, none⟩ (Value.bool true)).setCell ⟨g, 7, none⟩ (Value.int IntKind.u16 N)).setCell ⟨g, 8, none⟩ (Value.int IntKind.i64 x10)).setCell ⟨g, 9, none⟩ (Value.map (some W3.heap.size))) = W4
  obtain ⟨ws2, hm4, hws2, hk4⟩ := hnp W4 hW4.symm
  clear hnp hb4 hW4 hmm a6 a7 a8 a9 fz6
  have HKK : Aside0 (Keeps w W4 ws) := ⟨HK3.out.then hk4⟩
  have HWS : Aside0 (∀ k ∈ ws2, k ∈ ws ∨ w.heap.size ≤ k) := ⟨fun k hk => (hws2 k hk).imp id (fun h => Nat.le_trans HK3.out.2.2.2.1 h)⟩
  have hbk4 : W4.heap[gb]? = some (Obj.cells ((b ++ sp).map (Value.int .u8)).toArray 5 (0, 0)) := hk4.u8 (HM3.out.below (pw_below_drewN (Below.refl _ _) nq)) HBK3.out
  have c10' : W4.cell? ⟨gb, 10, none⟩ = some (.int .u8 x10) := by rw [HX10.out]; exact HCF.out _ hbk4 10 (by omega)
  obtain ⟨s2, hs2⟩ : ∃ x : LS, x = { s with acked := hearF s b, waits := true, n := N, many := x10, parts := [] } := ⟨_, rfl⟩
  rw [← hs2] at hm4
  obtain ⟨mbb, j8, j9, him, hgl4⟩ := waiting hm4 (by rw [hs2])
  have e_parts : s2.parts = [] := by rw [hs2]
  have e_many : s2.many = x10 := by rw [hs2]
  rw [e_many] at j8
  have hok4 := hm4.ok
  have HS2 := Aside0.mk hs2; have HM4 := Aside0.mk hm4; have HIM := Aside0.mk him; have HBK4 := Aside0.mk hbk4; have HEP := Aside0.mk e_parts; have HEM := Aside0.mk e_many; have HOK4 := Aside0.mk hok4
  have hlk := him.lookS Tryd.underlying62 Tryd.underlying3 zslice x9
  rw [e_parts] at hlk
  have hnone : pget x9 s2.parts = none := by rw [e_parts]; rfl
  have hl2 : ∀ n, (Instr.lookup 62 (.map (some mbb)) (.int .i64 x9) true).run Tryd.prog (W4.drewN n) = .ok (.tuple #[.slice none 0 0, .bool false]) (W4.drewN n) := fun n => (hlk.resolve_right (fun ⟨a, _, h, _⟩ => by rw [e_parts] at hnone; rw [hnone] at h; cases h)).2 true _ rfl
  have HNONE := Aside0.mk hnone
  clear hs2 hm4 him hbk4 e_parts e_many hok4 hlk hnone
  have m1 : decide (x10 = x10) = true := decide_eq_true rfl
  have m3 : (x10 != x10) = false := bne_self_eq_false x10
  go_quiet (fail)
  go_wp2
  generalize hW5 : W4.drewN nq = W5
  have hh5 : W5.heap = W4.heap := by rw [← hW5]; rfl
  have hb5 : Below W4.heap.size W4 W5 := by rw [← hW5]; exact pw_below_drewN (Below.refl _ _) _
  have hm5 := HM4.out.below hb5
  have j95 : W5.cell? ⟨g, 9, none⟩ = some (.map (some mbb)) := (World.cell?_of_block (a := ⟨g, 9, none⟩) (by rw [hh5])).trans j9
  have hbk5 : W5.heap[gb]? = some (Obj.cells ((b ++ sp).map (Value.int .u8)).toArray 5 (0, 0)) := by rw [hh5]; exact HBK4.out
  have him5 : IM .i64 (PartR W5) W5 mbb s2.parts := (HIM.out.same (by rw [hh5])).imp (PartR.same (fun b cs _ => by rw [hh5]))
  obtain ⟨off, hoff, hcut⟩ := cut11 gb L (L + q) h11 hLq
  have hpr : PartR W5 (.slice (some ⟨gb, off, none⟩) (L - 11) (L + q - 11)) (b.drop 11) := part_of hbk5 HLN.out.symm h11 hoff (HOKB.out gb HGB.out)
  obtain ⟨W6, hup, hgr6, him6⟩ := him5.put1 Tryd.underlying62 Tryd.underlying3 x9 HNONE.out _ (b.drop 11) hpr
  have hpp : ∀ y ∈ s2.parts ++ [(x9, b.drop 11)], y.2.length ≤ 200 ∧ ∀ z ∈ y.2, 0 ≤ z ∧ z < 256 := by
    intro y hy
    rcases List.mem_append.1 hy with hy | hy
    · exact HOK4.out.2.2.2.2.2.2.2 y hy
    · obtain rfl := List.mem_singleton.1 hy
      refine ⟨?_, fun z hz => HBR.out z (List.mem_of_mem_drop hz)⟩
      show (b.drop 11).length ≤ 200
      rw [List.length_drop, ← HLN.out]
      have := HSZ.out
      omega
  obtain ⟨hm6, hk6⟩ := more_parts hm5 j95 hgr6 him6 hpp
  have HM6 := Aside0.mk hm6
  have HK6 : Aside0 (Keeps w W6 ws) := ⟨(HKK.out.trans ((Keeps.of_below hb5 ws2).then hk6) HWS.out)⟩
  clear hh5 hb5 hm5 hbk5 him5 hpr hgr6 him6 hpp hm6 hk6 hW5 j8 j9 hl2
  go_region
  generalize hW7 : W6.drew = W7
  have hb7 : Below W6.heap.size W6 W7 := by rw [← hW7]; exact below_drew1 (Below.refl _ _)
  have hm7 := HM6.out.below hb7
  obtain ⟨mb7, u8, u9, him7, hgl7⟩ := waiting hm7 (by rw [HS2.out])
  change W7.cell? ⟨g, 8, none⟩ = some (.int .i64 s2.many) at u8
  rw [HEM.out] at u8
  have HM7 := Aside0.mk hm7; have HIM7 := Aside0.mk him7
  have HK7 : Aside0 (Keeps w W7 ws) := ⟨HK6.out.then (Keeps.of_below hb7 ws)⟩
  have hlen : ∀ ty n, (Builtin.len_ #[62] ty #[.map (some mb7)]).run Tryd.prog (W7.drewN n) = .ok (goInt ((s2.parts ++ [(x9, b.drop 11)]).length : Nat)) (W7.drewN n) := fun ty n => HIM7.out.lenS Tryd.underlying62 _ rfl
  clear hm7 him7 hb7 hW7
  have hcnt : ((s2.parts ++ [(x9, b.drop 11)]).length : Int) = 1 := by rw [HEP.out]; rfl
  generalize (s2.parts ++ [(x9, b.drop 11)]).length = cnt at hlen hcnt
  have d5 : decide ((cnt : Int) < x10) = false := decide_eq_false (by rw [hcnt]; omega)
  clear hcnt hless
  go_wp2
  go_quiet (fail)
  go_wp2
  generalize hW8 : W7.drewN nq = W8
  have hb8 : Below W7.heap.size W7 W8 := by rw [← hW8]; exact pw_below_drewN (Below.refl _ _) _
  have hm8 := HM7.out.below hb8
  have hs3 : ({ s2 with parts := s2.parts ++ [(x9, b.drop 11)] } : LS) = { s with acked := hearF s b, waits := true, n := N, many := x10, parts := [(x9, b.drop 11)] } := by rw [HS2.out]; first | done | rfl
  rw [hs3] at hm8
  have HM8 := Aside0.mk hm8
  have HK8 : Aside0 (Keeps w W8 ws) := ⟨HK7.out.then (Keeps.of_below hb8 ws)⟩
  have him8 : IM .i64 (PartR W8) W8 mb7 (s2.parts ++ [(x9, b.drop 11)]) := (HIM7.out.same (by rw [← hW8]; rfl)).imp (PartR.same (fun b cs _ => by rw [← hW8]; rfl))
  have y9 : W8.cell? ⟨g, 9, none⟩ = some (.map (some mb7)) := by rw [← hW8]; exact u9
  have hP : s2.parts ++ [(x9, b.drop 11)] = [(x9, b.drop 11)] := by rw [HS2.out]; first | done | rfl
  rw [hP] at him8
  have HIM8 := Aside0.mk him8
  have hgl8 : g < W8.heap.size := HM8.out.g_in.2
  have hpl : ∀ (j : Nat), (((pget (j : Int) ([(x9, b.drop 11)])).getD []).length ≤ 200) := by
    intro j
    cases hj : pget (j : Int) ([(x9, b.drop 11)]) with
    | none => simp
    | some a => exact (HM8.out.ok.2.2.2.2.2.2.2 _ (pget_mem hj)).1
  generalize hPP : ([(x9, b.drop 11)] : List (Int × List Int)) = P at HIM8 hpl
  have HPL := Aside0.mk hpl; have HPP := Aside0.mk hPP; have HGL8 := Aside0.mk hgl8
  clear hm8 hs3 him8 hP hpl hPP hgl8 hb8 hW8 u8 u9 hlen
  go_loopw [9, 141] (fun v vi wr => ∃ i : Int, vi = .int .i64 i ∧ 0 ≤ i ∧ i ≤ x10 ∧ Aside0 (RS W8.heap.size wr v ((List.range i.toNat).flatMap (fun j : Nat => (pget (j : Int) P).getD []))) ∧ Aside0 (Below W8.heap.size W8 wr)) (fun _ vi _ => (x10 - intOf vi).toNat)
  case atStart => exact ⟨0, rfl, by omega, by omega, ⟨RS.nil _ _⟩, ⟨Below.refl _ _⟩⟩
  case round =>
    obtain ⟨i, rfl, hi0, hi1, HO, HBW⟩ := hrel
    by_cases hx : i < x10
    · have dx : decide (i < x10) = true := decide_eq_true hx
      have y9w : wr.cell? ⟨g, 9, none⟩ = some (.map (some mb7)) := (HBW.out.cell (p := ⟨g, 9, none⟩) HGL8.out).trans y9
      have hsm : wr.heap[mb7]? = W8.heap[mb7]? := HBW.out.block _ HIM8.out.lt
      have hsucc := flat_succ P i hi0
      have hfl := flat_len HPL.out i.toNat
      generalize (List.range i.toNat).flatMap (fun j : Nat => (pget (j : Int) P).getD []) = acc at HO hsucc hfl
      have HSU := Aside0.mk hsucc; have HFL := Aside0.mk hfl
      clear hsucc hfl
      rcases HIM8.out.lookS Tryd.underlying62 Tryd.underlying3 zslice i with ⟨hg1, hl⟩ | ⟨a, v2, hg1, hv2, hl⟩
      · have hl0 := hl false wr hsm
        have HG1 := Aside0.mk hg1
        clear hl hg1 hsm
        go_wp2_with (first | ((with_reducible refine gate_builtin (b := .append) (xs := #[.tmp 144, .tmp 150]) rfl ?_); at_builtin; obtain ⟨sp0, ho_⟩ := HO.out; refine wp_rf_rows (w0 := W8) W8.heap.size rfl (.tmp 144) (.tmp 150) rfl _ acc sp0 [] _ _ _ rfl rfl ho_ (Kd.C_nil _ _) HBW.out (below_size HBW.out) (by have := HFL.out; omega) ?_; intro v1 w1 sp1 ho hb hg; have HO1 : Aside0 (RS W8.heap.size w1 v1 _) := Aside0.mk ⟨sp1, ho⟩; clear HBW; have HBW := Aside0.mk hb; clear ho_ ho hb hg))
        exact ⟨⟨i + 1, rfl, by omega, by omega, ⟨by rw [HSU.out, HG1.out]; exact HO1.out⟩, HBW⟩, by simp only [intOf]; omega⟩
      · have hl0 := hl false wr hsm
        have hal : a.length ≤ 200 := by have := HPL.out i.toNat; rw [Int.toNat_of_nonneg hi0, hg1] at this; exact this
        obtain ⟨A2, c2, rfl, hC2⟩ := (PartR.same (fun b cs hb => HBW.out.block b (Array.getElem?_eq_some_iff.1 hb).1) _ _ hv2 : PartR wr v2 a).C (by omega)
        have HG1 := Aside0.mk hg1; have HC2 := Aside0.mk hC2
        clear hl hg1 hsm hv2 hC2
        go_wp2_with (first | ((with_reducible refine gate_builtin (b := .append) (xs := #[.tmp 144, .tmp 150]) rfl ?_); at_builtin; obtain ⟨sp0, ho_⟩ := HO.out; refine wp_rf_rows (w0 := W8) W8.heap.size rfl (.tmp 144) (.tmp 150) rfl _ acc sp0 a _ _ _ rfl rfl ho_ HC2.out HBW.out (below_size HBW.out) (by have := HFL.out; omega) ?_; intro v1 w1 sp1 ho hb hg; have HO1 : Aside0 (RS W8.heap.size w1 v1 _) := Aside0.mk ⟨sp1, ho⟩; clear HBW; have HBW := Aside0.mk hb; clear ho_ ho hb hg))
        exact ⟨⟨i + 1, rfl, by omega, by omega, ⟨by rw [HSU.out, HG1.out]; exact HO1.out⟩, HBW⟩, by simp only [intOf]; omega⟩
    · have dx : decide (i < x10) = false := decide_eq_false hx
      have hie : i = x10 := by omega
      rw [hie] at HO
      clear hx dx hi0 hi1
      have hm9 := HM8.out.below HBW.out
      have ht := tell_calls g _ ws2 N wr hm9 hNr (by intro h; exact absurd (h.symm.trans HANY.out) (by simp))
      have HO9 := Aside0.mk HO.out
      go_wp2_with fail
      ((with_reducible refine ht.mono ?_); rintro e_ W9 ⟨rfl, hm10', hgr9⟩)
      clear ht
      go_wp2
      go_ret3
      refine ⟨_, ws2, rfl, ?_, hm10', HWS.out, ?_⟩
      · have hout : outF { s with acked := hearF s b, waits := true, n := N, many := x10, parts := [(x9, b.drop 11)] } = (List.range x10.toNat).flatMap (fun j : Nat => (pget (j : Int) P).getD []) := by rw [← HPP.out]; rfl
        rw [hout]
        refine (HO9.out.lower (Keeps.then HK8.out (Keeps.refl _ _)).2.2.2.1).move (fun b hb hlt => hgr9.block b hlt (fun e => ?_))
        injection e with e
        have h1 := (HO9.out.own b hb).1
        have h2 := HGL8.out
        omega
      · exact (HK8.out.then (Keeps.of_below HBW.out ws)).trans (Keeps.of_grown hgr9 hm9.g_in.1) HWS.out
set_option maxHeartbeats 8000000 in
set_option maxRecDepth 100000 in
theorem rcv_new_pendinga [Inhabited OkB] (A : Option Addr) (c : Nat) (d : List Int) (g : Nat) (s : LS) (ws : List Nat) (w : World) (h : LinkM w g s ws) (hC : Kd.C (Kd.int .u8) w A d.length d) (hc : d.length ≤ c) (hd : ∀ x ∈ d, 0 ≤ x ∧ x < 256) (hl : d.length ≤ 140737488351232) (hT : Tab w) (hokb : ∀ k, w.heap.size ≤ k → (default : OkB).ok k)
    (b : List Int) (N x9 x10 : Int) (hbe : b = (opF d).1) (hNx : N = rd b 7 * 256 + rd b 8) (hx9 : x9 = rd b 9) (hx10 : x10 = rd b 10) (hbl : b.length ≤ 140737488355328) (h2 : (opF d).2 = true) (h3 : formedF b = true) (hany : s.any = true) (hnw : newerF N s.last = true) (hw : s.waits = false) (hless : 1 < x10) : Calls Tryd.prog 13 #[.pointer (some ⟨g, 0, none⟩), .slice A d.length c] w (RcvPost w g ws { s with acked := hearF s b, waits := true, n := N, many := x10, parts := [(x9, b.drop 11)] } [] false 0) := by
  have HANY := Aside0.mk hany; clear hany
  have HNW := Aside0.mk hnw; clear hnw
  have HWA := Aside0.mk hw; clear hw
  have HOKB := Aside0.mk hokb; clear hokb
  have HX9 := Aside0.mk hx9; have HX10 := Aside0.mk hx10; have HNX := Aside0.mk hNx
  clear hx9 hx10 hNx
  have hbr : ∀ x ∈ b, 0 ≤ x ∧ x < 256 := by rw [hbe]; exact opF_range d hd
  have hO := Open_callsF A c d w hC hc (by omega) hT
  rw [h2, ← hbe] at hO
  obtain ⟨L, hL⟩ : ∃ L, L = b.length := ⟨_, rfl⟩
  rw [← hL] at hbl
  have HLN := Aside0.mk hL; have HBR := Aside0.mk hbr
  clear hbe hL hbr h2 hC hd hc hT
  go_enter Tryd.func13, Tryd.ntmps13
  go_wp2
  refine wp_scope_fwd 1 rfl ?_
  go_wp2_with fail
  ((with_reducible refine hO.mono ?_); rintro e_ W1 ⟨v0, rfl, ⟨sp, ho_⟩, hb_⟩)
  obtain ⟨Ab, hv, hA, _, hcm⟩ := ho_.form
  rw [List.length_append, ← HLN.out] at hv hcm
  subst hv
  have hRR := Kd.R_reads' ho_.R
  rw [← HLN.out] at hRR
  obtain ⟨h11, hm1, hm10, hpm, hsz⟩ := formed_facts h3
  rw [← HLN.out] at h11 hsz
  obtain ⟨gb, hgb, hbk⟩ := hA.resolve_left (fun hn => by
    have h1 := HLN.out
    rw [(List.append_eq_nil_iff.1 hn.2).1] at h1
    simp at h1
    omega)
  subst hgb
  have HBK := Aside0.mk hbk
  generalize hq_ : sp.length = q at hRR hcm ⊢
  clear hq_
  have hF := formed_calls (some ⟨gb, 0, none⟩) L (L + q) b W1 hRR.2.2 hRR.2.1 (fun _ => ⟨gb, rfl⟩) HBR.out hbl
  rw [h3] at hF
  have hgbn := ho_.base gb rfl
  have HL1 := Aside0.mk (h.below hb_); have HB := Aside0.mk hb_; have HH := Aside0.mk h; have HGB := Aside0.mk hgbn
  have HSZ := Aside0.mk hsz; have hLq := hRR.2.1
  clear h hbk ho_ hb_ hO hRR hA h3 hgbn hsz
  go_wp2_with fail
  ((with_reducible refine hF.mono ?_); rintro e_ W2 ⟨rfl, q_, rfl⟩)
  clear hF
  have HL2 := Aside0.mk (HL1.out.below (pw_below_drewN (Below.refl _ _) q_))
  have hcellf : ∀ (W : World), W.heap[gb]? = some (Obj.cells ((b ++ sp).map (Value.int .u8)).toArray 5 (0, 0)) → ∀ i : Nat, i < L → W.cell? ⟨gb, i, none⟩ = some (.int .u8 (rd b (i : Int))) := by
    intro W hW i hi
    have hi' : i < b.length := by have := HLN.out; omega
    rw [blk_cell hW, rd_get' hi']
    simp only [List.getElem?_toArray, List.map_append]
    rw [List.getElem?_append_left (by simpa using hi'), List.getElem?_map, List.getElem?_eq_getElem hi']
    rfl
  have HCF := Aside0.mk hcellf; clear hcellf
  have hh := hear_calls g s ws gb L (L + q) b (W1.drewN q_) HL2.out HLN.out.symm (HCF.out _ HBK.out) h11 HBR.out
  go_wp2_with fail
  ((with_reducible refine hh.mono ?_); rintro e_ W3 ⟨rfl, hm3, hk3⟩)
  clear hh
  have hbk3 := hk3.u8 HL2.out HBK.out
  have HBK3 := Aside0.mk hbk3
  have HK3 : Aside0 (Keeps w W3 ws) := ⟨(Keeps.of_below (pw_below_drewN HB.out q_) ws).then hk3⟩
  have HM3 := Aside0.mk hm3
  have c7 : W3.cell? ⟨gb, 7, none⟩ = some (.int .u8 (rd b 7)) := HCF.out _ hbk3 7 (by omega)
  have c8 : W3.cell? ⟨gb, 8, none⟩ = some (.int .u8 (rd b 8)) := HCF.out _ hbk3 8 (by omega)
  have c9 : W3.cell? ⟨gb, 9, none⟩ = some (.int .u8 (rd b 9)) := HCF.out _ hbk3 9 (by omega)
  have c10 : W3.cell? ⟨gb, 10, none⟩ = some (.int .u8 (rd b 10)) := HCF.out _ hbk3 10 (by omega)
  have rdr : ∀ i : Nat, i < 11 → 0 ≤ rd b (i : Int) ∧ rd b (i : Int) < 256 := fun i hi => rd_mem HBR.out (by omega) (by have := HLN.out; omega)
  have r7 : 0 ≤ rd b 7 ∧ rd b 7 < 256 := rdr 7 (by omega)
  have r8 : 0 ≤ rd b 8 ∧ rd b 8 < 256 := rdr 8 (by omega)
  have r9 : 0 ≤ rd b 9 ∧ rd b 9 < 256 := rdr 9 (by omega)
  have r10 : 0 ≤ rd b 10 ∧ rd b 10 < 256 := rdr 10 (by omega)
  obtain ⟨sv, ma, mp, gs, mb, hg3, hs3, ha3, hp3, hw3, hne3, hws3, hok3⟩ := hm3
  obtain ⟨mo, rfl⟩ : ∃ o, mp = .map o := by
    rcases hp3 with ⟨e, _⟩ | ⟨b', _, e, _⟩
    · exact ⟨_, e⟩
    · exact ⟨_, e⟩
  obtain ⟨_, _, _, k3, k4, _, k6, k7, k8, k9⟩ := lcell hg3
  change W3.cell? ⟨g, 3, none⟩ = some (.bool s.any) at k3
  change W3.cell? ⟨g, 4, none⟩ = some (.int .u16 s.last) at k4
  change W3.cell? ⟨g, 6, none⟩ = some (.bool s.waits) at k6
  change W3.cell? ⟨g, 7, none⟩ = some (.int .u16 s.n) at k7
  change W3.cell? ⟨g, 8, none⟩ = some (.int .i64 s.many) at k8
  have hNe : bits .or .u16 (rd b 7 * 256) (rd b 8) = rd b 7 * 256 + rd b 8 := or_add16 _ _ r7 r8
  have hfz : ∀ j, W3.frozen? ⟨g, j, none⟩ = false := fun j => blk_frozen hg3 j
  have hgl : g < W3.heap.size := (Array.getElem?_eq_some_iff.1 hg3).1
  have hsamea : ∀ (o : Obj) (n : Nat), ((W3.drewN n).alloc o).heap[g]? = W3.heap[g]? := fun o n => (MapKept.heap_alloc (W3.drewN n) o).2 g hgl
  have al : ∀ (o : Obj) (n j : Nat), ((W3.drewN n).alloc o).cell? ⟨g, j, none⟩ = W3.cell? ⟨g, j, none⟩ ∧ ((W3.drewN n).alloc o).frozen? ⟨g, j, none⟩ = W3.frozen? ⟨g, j, none⟩ := fun o n j => ⟨World.cell?_of_block (a := ⟨g, j, none⟩) (hsamea o n), World.frozen?_of_block (a := ⟨g, j, none⟩) (hsamea o n)⟩
  have hok := HH.out.ok
  have HOK := Aside0.mk hok; clear hok
  have HAL := Aside0.mk al
  clear al hsamea hg3 hs3 ha3 hp3 hw3 hne3 hws3 hok3 hbk3 hk3 rdr
  have hx9 := HX9.out; have hx10 := HX10.out; have hNx := HNX.out
  rw [← hNx] at hNe
  have hNr : 0 ≤ N ∧ N < 65536 := by omega
  obtain ⟨x7, hx7⟩ : ∃ x, x = rd b 7 := ⟨_, rfl⟩
  obtain ⟨x8, hx8⟩ : ∃ x, x = rd b 8 := ⟨_, rfl⟩
  rw [← hx7] at c7 r7 hNe; rw [← hx8] at c8 r8 hNe; rw [← hx9] at c9 r9 hpm; rw [← hx10] at c10 r10 hm1 hm10 hpm
  clear hx7 hx8 hx9 hx10 hNx
  have fz6 : ∀ (o : Obj) (n j : Nat), ((W3.drewN n).alloc o).frozen? ⟨g, j, none⟩ = false := fun o n j => (HAL.out o n j).2.trans (hfz j)
  have a6 : ∀ (o : Obj) (n : Nat), ((W3.drewN n).alloc o).cell? ⟨g, 6, none⟩ = some (.bool s.waits) := fun o n => (HAL.out o n 6).1.trans k6
  have a7 : ∀ (o : Obj) (n : Nat), ((W3.drewN n).alloc o).cell? ⟨g, 7, none⟩ = some (.int .u16 s.n) := fun o n => (HAL.out o n 7).1.trans k7
  have a8 : ∀ (o : Obj) (n : Nat), ((W3.drewN n).alloc o).cell? ⟨g, 8, none⟩ = some (.int .i64 s.many) := fun o n => (HAL.out o n 8).1.trans k8
  have a9 : ∀ (o : Obj) (n : Nat), ((W3.drewN n).alloc o).cell? ⟨g, 9, none⟩ = some (.map mo) := fun o n => (HAL.out o n 9).1.trans k9
  have hmm : ∀ W : World, (Instr.makeMap 62 none).run Tryd.prog W = .ok (.map (some W.heap.size)) (W.alloc (.map #[] 0)) := by
    intro W
    simp [Instr.makeMap, Result.andThen]
  rw [HWA.out] at k6 a6
  rw [HANY.out] at k3
  have hnw := HNW.out
  go_wp2
  go_quiet (fail)
  go_wp2_with fail
  ((with_reducible refine (newer_calls _ _ _).mono ?_); rintro e_ Wn ⟨rfl, rfl⟩)
  rw [hnw]
  go_wp2
  have hnp := fun X hX => new_parts (HM3.out.below (pw_below_drewN (Below.refl _ _) nq)) N x10 hNr (by omega) X hX
  have hb4 : ((((((W3.drewN nq).alloc (Obj.map #[] 0)).setCell ⟨g, 6, none⟩ (Value.bool true)).setCell ⟨g, 7, none⟩ (Value.int IntKind.u16 N)).setCell ⟨g, 8, none⟩ (Value.int IntKind.i64 x10)).setCell ⟨g, 9, none⟩ (Value.map (some W3.heap.size))) = ((((((W3.drewN nq).alloc (Obj.map #[] 0)).setCell ⟨g, 6, none⟩ (Value.bool true)).setCell ⟨g, 7, none⟩ (Value.int IntKind.u16 N)).setCell ⟨g, 8, none⟩ (Value.int IntKind.i64 x10)).setCell ⟨g, 9, none⟩ (Value.map (some W3.heap.size))) := rfl
  generalize hW4 : ((((((W3.drewN nq).alloc (Obj.map #[] 0)).setCell ⟨g, 6, none⟩ (Value.bool true)).setCell ⟨g, 7, none⟩ (Value.int IntKind.u16 N)).setCell ⟨g, 8, none⟩ (Value.int IntKind.i64 x10)).setCell ⟨g, 9, none⟩ (Value.map (some W3.heap.size))) = W4
  obtain ⟨ws2, hm4, hws2, hk4⟩ := hnp W4 hW4.symm
  clear hnp hb4 hW4 hmm a6 a7 a8 a9 fz6
  have HKK : Aside0 (Keeps w W4 ws) := ⟨HK3.out.then hk4⟩
  have HWS : Aside0 (∀ k ∈ ws2, k ∈ ws ∨ w.heap.size ≤ k) := ⟨fun k hk => (hws2 k hk).imp id (fun h => Nat.le_trans HK3.out.2.2.2.1 h)⟩
  have hbk4 : W4.heap[gb]? = some (Obj.cells ((b ++ sp).map (Value.int .u8)).toArray 5 (0, 0)) := hk4.u8 (HM3.out.below (pw_below_drewN (Below.refl _ _) nq)) HBK3.out
  have c10' : W4.cell? ⟨gb, 10, none⟩ = some (.int .u8 x10) := by rw [HX10.out]; exact HCF.out _ hbk4 10 (by omega)
  obtain ⟨s2, hs2⟩ : ∃ x : LS, x = { s with acked := hearF s b, waits := true, n := N, many := x10, parts := [] } := ⟨_, rfl⟩
  rw [← hs2] at hm4
  obtain ⟨mbb, j8, j9, him, hgl4⟩ := waiting hm4 (by rw [hs2])
  have e_parts : s2.parts = [] := by rw [hs2]
  have e_many : s2.many = x10 := by rw [hs2]
  rw [e_many] at j8
  have hok4 := hm4.ok
  have HS2 := Aside0.mk hs2; have HM4 := Aside0.mk hm4; have HIM := Aside0.mk him; have HBK4 := Aside0.mk hbk4; have HEP := Aside0.mk e_parts; have HEM := Aside0.mk e_many; have HOK4 := Aside0.mk hok4
  have hlk := him.lookS Tryd.underlying62 Tryd.underlying3 zslice x9
  rw [e_parts] at hlk
  have hnone : pget x9 s2.parts = none := by rw [e_parts]; rfl
  have hl2 : ∀ n, (Instr.lookup 62 (.map (some mbb)) (.int .i64 x9) true).run Tryd.prog (W4.drewN n) = .ok (.tuple #[.slice none 0 0, .bool false]) (W4.drewN n) := fun n => (hlk.resolve_right (fun ⟨a, _, h, _⟩ => by rw [e_parts] at hnone; rw [hnone] at h; cases h)).2 true _ rfl
  have HNONE := Aside0.mk hnone
  clear hs2 hm4 him hbk4 e_parts e_many hok4 hlk hnone
  have m1 : decide (x10 = x10) = true := decide_eq_true rfl
  have m3 : (x10 != x10) = false := bne_self_eq_false x10
  go_quiet (fail)
  go_wp2
  generalize hW5 : W4.drewN nq = W5
  have hh5 : W5.heap = W4.heap := by rw [← hW5]; rfl
  have hb5 : Below W4.heap.size W4 W5 := by rw [← hW5]; exact pw_below_drewN (Below.refl _ _) _
  have hm5 := HM4.out.below hb5
  have j95 : W5.cell? ⟨g, 9, none⟩ = some (.map (some mbb)) := (World.cell?_of_block (a := ⟨g, 9, none⟩) (by rw [hh5])).trans j9
  have hbk5 : W5.heap[gb]? = some (Obj.cells ((b ++ sp).map (Value.int .u8)).toArray 5 (0, 0)) := by rw [hh5]; exact HBK4.out
  have him5 : IM .i64 (PartR W5) W5 mbb s2.parts := (HIM.out.same (by rw [hh5])).imp (PartR.same (fun b cs _ => by rw [hh5]))
  obtain ⟨off, hoff, hcut⟩ := cut11 gb L (L + q) h11 hLq
  have hpr : PartR W5 (.slice (some ⟨gb, off, none⟩) (L - 11) (L + q - 11)) (b.drop 11) := part_of hbk5 HLN.out.symm h11 hoff (HOKB.out gb HGB.out)
  obtain ⟨W6, hup, hgr6, him6⟩ := him5.put1 Tryd.underlying62 Tryd.underlying3 x9 HNONE.out _ (b.drop 11) hpr
  have hpp : ∀ y ∈ s2.parts ++ [(x9, b.drop 11)], y.2.length ≤ 200 ∧ ∀ z ∈ y.2, 0 ≤ z ∧ z < 256 := by
    intro y hy
    rcases List.mem_append.1 hy with hy | hy
    · exact HOK4.out.2.2.2.2.2.2.2 y hy
    · obtain rfl := List.mem_singleton.1 hy
      refine ⟨?_, fun z hz => HBR.out z (List.mem_of_mem_drop hz)⟩
      show (b.drop 11).length ≤ 200
      rw [List.length_drop, ← HLN.out]
      have := HSZ.out
      omega
  obtain ⟨hm6, hk6⟩ := more_parts hm5 j95 hgr6 him6 hpp
  have HM6 := Aside0.mk hm6
  have HK6 : Aside0 (Keeps w W6 ws) := ⟨(HKK.out.trans ((Keeps.of_below hb5 ws2).then hk6) HWS.out)⟩
  clear hh5 hb5 hm5 hbk5 him5 hpr hgr6 him6 hpp hm6 hk6 hW5 j8 j9 hl2
  go_region
  generalize hW7 : W6.drew = W7
  have hb7 : Below W6.heap.size W6 W7 := by rw [← hW7]; exact below_drew1 (Below.refl _ _)
  have hm7 := HM6.out.below hb7
  obtain ⟨mb7, u8, u9, him7, hgl7⟩ := waiting hm7 (by rw [HS2.out])
  change W7.cell? ⟨g, 8, none⟩ = some (.int .i64 s2.many) at u8
  rw [HEM.out] at u8
  have HM7 := Aside0.mk hm7; have HIM7 := Aside0.mk him7
  have HK7 : Aside0 (Keeps w W7 ws) := ⟨HK6.out.then (Keeps.of_below hb7 ws)⟩
  have hlen : ∀ ty n, (Builtin.len_ #[62] ty #[.map (some mb7)]).run Tryd.prog (W7.drewN n) = .ok (goInt ((s2.parts ++ [(x9, b.drop 11)]).length : Nat)) (W7.drewN n) := fun ty n => HIM7.out.lenS Tryd.underlying62 _ rfl
  clear hm7 him7 hb7 hW7
  have hcnt : ((s2.parts ++ [(x9, b.drop 11)]).length : Int) = 1 := by rw [HEP.out]; rfl
  generalize (s2.parts ++ [(x9, b.drop 11)]).length = cnt at hlen hcnt
  have d5 : decide ((cnt : Int) < x10) = true := decide_eq_true (by rw [hcnt]; exact hless)
  clear hcnt hless
  go_wp2
  go_quiet (fail)
  go_wp2
  go_ret3
  exact ⟨_, ws2, rfl, RS.nil _ _, by rw [HS2.out] at HM7; exact HM7.out.below (pw_below_drewN (Below.refl _ _) _), HWS.out, HK7.out⟩
set_option maxHeartbeats 8000000 in
set_option maxRecDepth 100000 in
theorem rcv_new_tolda [Inhabited OkB] (A : Option Addr) (c : Nat) (d : List Int) (g : Nat) (s : LS) (ws : List Nat) (w : World) (h : LinkM w g s ws) (hC : Kd.C (Kd.int .u8) w A d.length d) (hc : d.length ≤ c) (hd : ∀ x ∈ d, 0 ≤ x ∧ x < 256) (hl : d.length ≤ 140737488351232) (hT : Tab w) (hokb : ∀ k, w.heap.size ≤ k → (default : OkB).ok k)
    (b : List Int) (N x9 x10 : Int) (hbe : b = (opF d).1) (hNx : N = rd b 7 * 256 + rd b 8) (hx9 : x9 = rd b 9) (hx10 : x10 = rd b 10) (hbl : b.length ≤ 140737488355328) (h2 : (opF d).2 = true) (h3 : formedF b = true) (hany : s.any = true) (hnw : newerF N s.last = true) (hw : s.waits = false) (hless : ¬ 1 < x10) : Calls Tryd.prog 13 #[.pointer (some ⟨g, 0, none⟩), .slice A d.length c] w (RcvPost w g ws (tellF { s with acked := hearF s b, waits := true, n := N, many := x10, parts := [(x9, b.drop 11)] } N) (outF { s with acked := hearF s b, waits := true, n := N, many := x10, parts := [(x9, b.drop 11)] }) true 0) := by
  have HANY := Aside0.mk hany; clear hany
  have HNW := Aside0.mk hnw; clear hnw
  have HWA := Aside0.mk hw; clear hw
  have HOKB := Aside0.mk hokb; clear hokb
  have HX9 := Aside0.mk hx9; have HX10 := Aside0.mk hx10; have HNX := Aside0.mk hNx
  clear hx9 hx10 hNx
  have hbr : ∀ x ∈ b, 0 ≤ x ∧ x < 256 := by rw [hbe]; exact opF_range d hd
  have hO := Open_callsF A c d w hC hc (by omega) hT
  rw [h2, ← hbe] at hO
  obtain ⟨L, hL⟩ : ∃ L, L = b.length := ⟨_, rfl⟩
  rw [← hL] at hbl
  have HLN := Aside0.mk hL; have HBR := Aside0.mk hbr
  clear hbe hL hbr h2 hC hd hc hT
  go_enter Tryd.func13, Tryd.ntmps13
  go_wp2
  refine wp_scope_fwd 1 rfl ?_
  go_wp2_with fail
  ((with_reducible refine hO.mono ?_); rintro e_ W1 ⟨v0, rfl, ⟨sp, ho_⟩, hb_⟩)
  obtain ⟨Ab, hv, hA, _, hcm⟩ := ho_.form
  rw [List.length_append, ← HLN.out] at hv hcm
  subst hv
  have hRR := Kd.R_reads' ho_.R
  rw [← HLN.out] at hRR
  obtain ⟨h11, hm1, hm10, hpm, hsz⟩ := formed_facts h3
  rw [← HLN.out] at h11 hsz
  obtain ⟨gb, hgb, hbk⟩ := hA.resolve_left (fun hn => by
    have h1 := HLN.out
    rw [(List.append_eq_nil_iff.1 hn.2).1] at h1
    simp at h1
    omega)
  subst hgb
  have HBK := Aside0.mk hbk
  generalize hq_ : sp.length = q at hRR hcm ⊢
  clear hq_
  have hF := formed_calls (some ⟨gb, 0, none⟩) L (L + q) b W1 hRR.2.2 hRR.2.1 (fun _ => ⟨gb, rfl⟩) HBR.out hbl
  rw [h3] at hF
  have hgbn := ho_.base gb rfl
  have HL1 := Aside0.mk (h.below hb_); have HB := Aside0.mk hb_; have HH := Aside0.mk h; have HGB := Aside0.mk hgbn
  have HSZ := Aside0.mk hsz; have hLq := hRR.2.1
  clear h hbk ho_ hb_ hO hRR hA h3 hgbn hsz
  go_wp2_with fail
  ((with_reducible refine hF.mono ?_); rintro e_ W2 ⟨rfl, q_, rfl⟩)
  clear hF
  have HL2 := Aside0.mk (HL1.out.below (pw_below_drewN (Below.refl _ _) q_))
  have hcellf : ∀ (W : World), W.heap[gb]? = some (Obj.cells ((b ++ sp).map (Value.int .u8)).toArray 5 (0, 0)) → ∀ i : Nat, i < L → W.cell? ⟨gb, i, none⟩ = some (.int .u8 (rd b (i : Int))) := by
    intro W hW i hi
    have hi' : i < b.length := by have := HLN.out; omega
    rw [blk_cell hW, rd_get' hi']
    simp only [List.getElem?_toArray, List.map_append]
    rw [List.getElem?_append_left (by simpa using hi'), List.getElem?_map, List.getElem?_eq_getElem hi']
    rfl
  have HCF := Aside0.mk hcellf; clear hcellf
  have hh := hear_calls g s ws gb L (L + q) b (W1.drewN q_) HL2.out HLN.out.symm (HCF.out _ HBK.out) h11 HBR.out
  go_wp2_with fail
  ((with_reducible refine hh.mono ?_); rintro e_ W3 ⟨rfl, hm3, hk3⟩)
  clear hh
  have hbk3 := hk3.u8 HL2.out HBK.out
  have HBK3 := Aside0.mk hbk3
  have HK3 : Aside0 (Keeps w W3 ws) := ⟨(Keeps.of_below (pw_below_drewN HB.out q_) ws).then hk3⟩
  have HM3 := Aside0.mk hm3
  have c7 : W3.cell? ⟨gb, 7, none⟩ = some (.int .u8 (rd b 7)) := HCF.out _ hbk3 7 (by omega)
  have c8 : W3.cell? ⟨gb, 8, none⟩ = some (.int .u8 (rd b 8)) := HCF.out _ hbk3 8 (by omega)
  have c9 : W3.cell? ⟨gb, 9, none⟩ = some (.int .u8 (rd b 9)) := HCF.out _ hbk3 9 (by omega)
  have c10 : W3.cell? ⟨gb, 10, none⟩ = some (.int .u8 (rd b 10)) := HCF.out _ hbk3 10 (by omega)
  have rdr : ∀ i : Nat, i < 11 → 0 ≤ rd b (i : Int) ∧ rd b (i : Int) < 256 := fun i hi => rd_mem HBR.out (by omega) (by have := HLN.out; omega)
  have r7 : 0 ≤ rd b 7 ∧ rd b 7 < 256 := rdr 7 (by omega)
  have r8 : 0 ≤ rd b 8 ∧ rd b 8 < 256 := rdr 8 (by omega)
  have r9 : 0 ≤ rd b 9 ∧ rd b 9 < 256 := rdr 9 (by omega)
  have r10 : 0 ≤ rd b 10 ∧ rd b 10 < 256 := rdr 10 (by omega)
  obtain ⟨sv, ma, mp, gs, mb, hg3, hs3, ha3, hp3, hw3, hne3, hws3, hok3⟩ := hm3
  obtain ⟨mo, rfl⟩ : ∃ o, mp = .map o := by
    rcases hp3 with ⟨e, _⟩ | ⟨b', _, e, _⟩
    · exact ⟨_, e⟩
    · exact ⟨_, e⟩
  obtain ⟨_, _, _, k3, k4, _, k6, k7, k8, k9⟩ := lcell hg3
  change W3.cell? ⟨g, 3, none⟩ = some (.bool s.any) at k3
  change W3.cell? ⟨g, 4, none⟩ = some (.int .u16 s.last) at k4
  change W3.cell? ⟨g, 6, none⟩ = some (.bool s.waits) at k6
  change W3.cell? ⟨g, 7, none⟩ = some (.int .u16 s.n) at k7
  change W3.cell? ⟨g, 8, none⟩ = some (.int .i64 s.many) at k8
  have hNe : bits .or .u16 (rd b 7 * 256) (rd b 8) = rd b 7 * 256 + rd b 8 := or_add16 _ _ r7 r8
  have hfz : ∀ j, W3.frozen? ⟨g, j, none⟩ = false := fun j => blk_frozen hg3 j
  have hgl : g < W3.heap.size := (Array.getElem?_eq_some_iff.1 hg3).1
  have hsamea : ∀ (o : Obj) (n : Nat), ((W3.drewN n).alloc o).heap[g]? = W3.heap[g]? := fun o n => (MapKept.heap_alloc (W3.drewN n) o).2 g hgl
  have al : ∀ (o : Obj) (n j : Nat), ((W3.drewN n).alloc o).cell? ⟨g, j, none⟩ = W3.cell? ⟨g, j, none⟩ ∧ ((W3.drewN n).alloc o).frozen? ⟨g, j, none⟩ = W3.frozen? ⟨g, j, none⟩ := fun o n j => ⟨World.cell?_of_block (a := ⟨g, j, none⟩) (hsamea o n), World.frozen?_of_block (a := ⟨g, j, none⟩) (hsamea o n)⟩
  have hok := HH.out.ok
  have HOK := Aside0.mk hok; clear hok
  have HAL := Aside0.mk al
  clear al hsamea hg3 hs3 ha3 hp3 hw3 hne3 hws3 hok3 hbk3 hk3 rdr
  have hx9 := HX9.out; have hx10 := HX10.out; have hNx := HNX.out
  rw [← hNx] at hNe
  have hNr : 0 ≤ N ∧ N < 65536 := by omega
  obtain ⟨x7, hx7⟩ : ∃ x, x = rd b 7 := ⟨_, rfl⟩
  obtain ⟨x8, hx8⟩ : ∃ x, x = rd b 8 := ⟨_, rfl⟩
  rw [← hx7] at c7 r7 hNe; rw [← hx8] at c8 r8 hNe; rw [← hx9] at c9 r9 hpm; rw [← hx10] at c10 r10 hm1 hm10 hpm
  clear hx7 hx8 hx9 hx10 hNx
  have fz6 : ∀ (o : Obj) (n j : Nat), ((W3.drewN n).alloc o).frozen? ⟨g, j, none⟩ = false := fun o n j => (HAL.out o n j).2.trans (hfz j)
  have a6 : ∀ (o : Obj) (n : Nat), ((W3.drewN n).alloc o).cell? ⟨g, 6, none⟩ = some (.bool s.waits) := fun o n => (HAL.out o n 6).1.trans k6
  have a7 : ∀ (o : Obj) (n : Nat), ((W3.drewN n).alloc o).cell? ⟨g, 7, none⟩ = some (.int .u16 s.n) := fun o n => (HAL.out o n 7).1.trans k7
  have a8 : ∀ (o : Obj) (n : Nat), ((W3.drewN n).alloc o).cell? ⟨g, 8, none⟩ = some (.int .i64 s.many) := fun o n => (HAL.out o n 8).1.trans k8
  have a9 : ∀ (o : Obj) (n : Nat), ((W3.drewN n).alloc o).cell? ⟨g, 9, none⟩ = some (.map mo) := fun o n => (HAL.out o n 9).1.trans k9
  have hmm : ∀ W : World, (Instr.makeMap 62 none).run Tryd.prog W = .ok (.map (some W.heap.size)) (W.alloc (.map #[] 0)) := by
    intro W
    simp [Instr.makeMap, Result.andThen]
  rw [HWA.out] at k6 a6
  rw [HANY.out] at k3
  have hnw := HNW.out
  go_wp2
  go_quiet (fail)
  go_wp2_with fail
  ((with_reducible refine (newer_calls _ _ _).mono ?_); rintro e_ Wn ⟨rfl, rfl⟩)
  rw [hnw]
  go_wp2
  have hnp := fun X hX => new_parts (HM3.out.below (pw_below_drewN (Below.refl _ _) nq)) N x10 hNr (by omega) X hX
  have hb4 : ((((((W3.drewN nq).alloc (Obj.map #[] 0)).setCell ⟨g, 6, none⟩ (Value.bool true)).setCell ⟨g, 7, none⟩ (Value.int IntKind.u16 N)).setCell ⟨g, 8, none⟩ (Value.int IntKind.i64 x10)).setCell ⟨g, 9, none⟩ (Value.map (some W3.heap.size))) = ((((((W3.drewN nq).alloc (Obj.map #[] 0)).setCell ⟨g, 6, none⟩ (Value.bool true)).setCell ⟨g, 7, none⟩ (Value.int IntKind.u16 N)).setCell ⟨g, 8, none⟩ (Value.int IntKind.i64 x10)).setCell ⟨g, 9, none⟩ (Value.map (some W3.heap.size))) := rfl
  generalize hW4 : ((((((W3.drewN nq).alloc (Obj.map #[] 0)).setCell ⟨g, 6, none⟩ (Value.bool true)).setCell ⟨g, 7, none⟩ (Value.int IntKind.u16 N)).setCell ⟨g, 8, none⟩ (Value.int IntKind.i64 x10)).setCell ⟨g, 9, none⟩ (Value.map (some W3.heap.size))) = W4
  obtain ⟨ws2, hm4, hws2, hk4⟩ := hnp W4 hW4.symm
  clear hnp hb4 hW4 hmm a6 a7 a8 a9 fz6
  have HKK : Aside0 (Keeps w W4 ws) := ⟨HK3.out.then hk4⟩
  have HWS : Aside0 (∀ k ∈ ws2, k ∈ ws ∨ w.heap.size ≤ k) := ⟨fun k hk => (hws2 k hk).imp id (fun h => Nat.le_trans HK3.out.2.2.2.1 h)⟩
  have hbk4 : W4.heap[gb]? = some (Obj.cells ((b ++ sp).map (Value.int .u8)).toArray 5 (0, 0)) := hk4.u8 (HM3.out.below (pw_below_drewN (Below.refl _ _) nq)) HBK3.out
  have c10' : W4.cell? ⟨gb, 10, none⟩ = some (.int .u8 x10) := by rw [HX10.out]; exact HCF.out _ hbk4 10 (by omega)
  obtain ⟨s2, hs2⟩ : ∃ x : LS, x = { s with acked := hearF s b, waits := true, n := N, many := x10, parts := [] } := ⟨_, rfl⟩
  rw [← hs2] at hm4
  obtain ⟨mbb, j8, j9, him, hgl4⟩ := waiting hm4 (by rw [hs2])
  have e_parts : s2.parts = [] := by rw [hs2]
  have e_many : s2.many = x10 := by rw [hs2]
  rw [e_many] at j8
  have hok4 := hm4.ok
  have HS2 := Aside0.mk hs2; have HM4 := Aside0.mk hm4; have HIM := Aside0.mk him; have HBK4 := Aside0.mk hbk4; have HEP := Aside0.mk e_parts; have HEM := Aside0.mk e_many; have HOK4 := Aside0.mk hok4
  have hlk := him.lookS Tryd.underlying62 Tryd.underlying3 zslice x9
  rw [e_parts] at hlk
  have hnone : pget x9 s2.parts = none := by rw [e_parts]; rfl
  have hl2 : ∀ n, (Instr.lookup 62 (.map (some mbb)) (.int .i64 x9) true).run Tryd.prog (W4.drewN n) = .ok (.tuple #[.slice none 0 0, .bool false]) (W4.drewN n) := fun n => (hlk.resolve_right (fun ⟨a, _, h, _⟩ => by rw [e_parts] at hnone; rw [hnone] at h; cases h)).2 true _ rfl
  have HNONE := Aside0.mk hnone
  clear hs2 hm4 him hbk4 e_parts e_many hok4 hlk hnone
  have m1 : decide (x10 = x10) = true := decide_eq_true rfl
  have m3 : (x10 != x10) = false := bne_self_eq_false x10
  go_quiet (fail)
  go_wp2
  generalize hW5 : W4.drewN nq = W5
  have hh5 : W5.heap = W4.heap := by rw [← hW5]; rfl
  have hb5 : Below W4.heap.size W4 W5 := by rw [← hW5]; exact pw_below_drewN (Below.refl _ _) _
  have hm5 := HM4.out.below hb5
  have j95 : W5.cell? ⟨g, 9, none⟩ = some (.map (some mbb)) := (World.cell?_of_block (a := ⟨g, 9, none⟩) (by rw [hh5])).trans j9
  have hbk5 : W5.heap[gb]? = some (Obj.cells ((b ++ sp).map (Value.int .u8)).toArray 5 (0, 0)) := by rw [hh5]; exact HBK4.out
  have him5 : IM .i64 (PartR W5) W5 mbb s2.parts := (HIM.out.same (by rw [hh5])).imp (PartR.same (fun b cs _ => by rw [hh5]))
  obtain ⟨off, hoff, hcut⟩ := cut11 gb L (L + q) h11 hLq
  have hpr : PartR W5 (.slice (some ⟨gb, off, none⟩) (L - 11) (L + q - 11)) (b.drop 11) := part_of hbk5 HLN.out.symm h11 hoff (HOKB.out gb HGB.out)
  obtain ⟨W6, hup, hgr6, him6⟩ := him5.put1 Tryd.underlying62 Tryd.underlying3 x9 HNONE.out _ (b.drop 11) hpr
  have hpp : ∀ y ∈ s2.parts ++ [(x9, b.drop 11)], y.2.length ≤ 200 ∧ ∀ z ∈ y.2, 0 ≤ z ∧ z < 256 := by
    intro y hy
    rcases List.mem_append.1 hy with hy | hy
    · exact HOK4.out.2.2.2.2.2.2.2 y hy
    · obtain rfl := List.mem_singleton.1 hy
      refine ⟨?_, fun z hz => HBR.out z (List.mem_of_mem_drop hz)⟩
      show (b.drop 11).length ≤ 200
      rw [List.length_drop, ← HLN.out]
      have := HSZ.out
      omega
  obtain ⟨hm6, hk6⟩ := more_parts hm5 j95 hgr6 him6 hpp
  have HM6 := Aside0.mk hm6
  have HK6 : Aside0 (Keeps w W6 ws) := ⟨(HKK.out.trans ((Keeps.of_below hb5 ws2).then hk6) HWS.out)⟩
  clear hh5 hb5 hm5 hbk5 him5 hpr hgr6 him6 hpp hm6 hk6 hW5 j8 j9 hl2
  go_region
  generalize hW7 : W6.drew = W7
  have hb7 : Below W6.heap.size W6 W7 := by rw [← hW7]; exact below_drew1 (Below.refl _ _)
  have hm7 := HM6.out.below hb7
  obtain ⟨mb7, u8, u9, him7, hgl7⟩ := waiting hm7 (by rw [HS2.out])
  change W7.cell? ⟨g, 8, none⟩ = some (.int .i64 s2.many) at u8
  rw [HEM.out] at u8
  have HM7 := Aside0.mk hm7; have HIM7 := Aside0.mk him7
  have HK7 : Aside0 (Keeps w W7 ws) := ⟨HK6.out.then (Keeps.of_below hb7 ws)⟩
  have hlen : ∀ ty n, (Builtin.len_ #[62] ty #[.map (some mb7)]).run Tryd.prog (W7.drewN n) = .ok (goInt ((s2.parts ++ [(x9, b.drop 11)]).length : Nat)) (W7.drewN n) := fun ty n => HIM7.out.lenS Tryd.underlying62 _ rfl
  clear hm7 him7 hb7 hW7
  have hcnt : ((s2.parts ++ [(x9, b.drop 11)]).length : Int) = 1 := by rw [HEP.out]; rfl
  generalize (s2.parts ++ [(x9, b.drop 11)]).length = cnt at hlen hcnt
  have d5 : decide ((cnt : Int) < x10) = false := decide_eq_false (by rw [hcnt]; omega)
  clear hcnt hless
  go_wp2
  go_quiet (fail)
  go_wp2
  generalize hW8 : W7.drewN nq = W8
  have hb8 : Below W7.heap.size W7 W8 := by rw [← hW8]; exact pw_below_drewN (Below.refl _ _) _
  have hm8 := HM7.out.below hb8
  have hs3 : ({ s2 with parts := s2.parts ++ [(x9, b.drop 11)] } : LS) = { s with acked := hearF s b, waits := true, n := N, many := x10, parts := [(x9, b.drop 11)] } := by rw [HS2.out]; first | done | rfl
  rw [hs3] at hm8
  have HM8 := Aside0.mk hm8
  have HK8 : Aside0 (Keeps w W8 ws) := ⟨HK7.out.then (Keeps.of_below hb8 ws)⟩
  have him8 : IM .i64 (PartR W8) W8 mb7 (s2.parts ++ [(x9, b.drop 11)]) := (HIM7.out.same (by rw [← hW8]; rfl)).imp (PartR.same (fun b cs _ => by rw [← hW8]; rfl))
  have y9 : W8.cell? ⟨g, 9, none⟩ = some (.map (some mb7)) := by rw [← hW8]; exact u9
  have hP : s2.parts ++ [(x9, b.drop 11)] = [(x9, b.drop 11)] := by rw [HS2.out]; first | done | rfl
  rw [hP] at him8
  have HIM8 := Aside0.mk him8
  have hgl8 : g < W8.heap.size := HM8.out.g_in.2
  have hpl : ∀ (j : Nat), (((pget (j : Int) ([(x9, b.drop 11)])).getD []).length ≤ 200) := by
    intro j
    cases hj : pget (j : Int) ([(x9, b.drop 11)]) with
    | none => simp
    | some a => exact (HM8.out.ok.2.2.2.2.2.2.2 _ (pget_mem hj)).1
  generalize hPP : ([(x9, b.drop 11)] : List (Int × List Int)) = P at HIM8 hpl
  have HPL := Aside0.mk hpl; have HPP := Aside0.mk hPP; have HGL8 := Aside0.mk hgl8
  clear hm8 hs3 him8 hP hpl hPP hgl8 hb8 hW8 u8 u9 hlen
  go_loopw [9, 141] (fun v vi wr => ∃ i : Int, vi = .int .i64 i ∧ 0 ≤ i ∧ i ≤ x10 ∧ Aside0 (RS W8.heap.size wr v ((List.range i.toNat).flatMap (fun j : Nat => (pget (j : Int) P).getD []))) ∧ Aside0 (Below W8.heap.size W8 wr)) (fun _ vi _ => (x10 - intOf vi).toNat)
  case atStart => exact ⟨0, rfl, by omega, by omega, ⟨RS.nil _ _⟩, ⟨Below.refl _ _⟩⟩
  case round =>
    obtain ⟨i, rfl, hi0, hi1, HO, HBW⟩ := hrel
    by_cases hx : i < x10
    · have dx : decide (i < x10) = true := decide_eq_true hx
      have y9w : wr.cell? ⟨g, 9, none⟩ = some (.map (some mb7)) := (HBW.out.cell (p := ⟨g, 9, none⟩) HGL8.out).trans y9
      have hsm : wr.heap[mb7]? = W8.heap[mb7]? := HBW.out.block _ HIM8.out.lt
      have hsucc := flat_succ P i hi0
      have hfl := flat_len HPL.out i.toNat
      generalize (List.range i.toNat).flatMap (fun j : Nat => (pget (j : Int) P).getD []) = acc at HO hsucc hfl
      have HSU := Aside0.mk hsucc; have HFL := Aside0.mk hfl
      clear hsucc hfl
      rcases HIM8.out.lookS Tryd.underlying62 Tryd.underlying3 zslice i with ⟨hg1, hl⟩ | ⟨a, v2, hg1, hv2, hl⟩
      · have hl0 := hl false wr hsm
        have HG1 := Aside0.mk hg1
        clear hl hg1 hsm
        go_wp2_with (first | ((with_reducible refine gate_builtin (b := .append) (xs := #[.tmp 144, .tmp 150]) rfl ?_); at_builtin; obtain ⟨sp0, ho_⟩ := HO.out; refine wp_rf_rows (w0 := W8) W8.heap.size rfl (.tmp 144) (.tmp 150) rfl _ acc sp0 [] _ _ _ rfl rfl ho_ (Kd.C_nil _ _) HBW.out (below_size HBW.out) (by have := HFL.out; omega) ?_; intro v1 w1 sp1 ho hb hg; have HO1 : Aside0 (RS W8.heap.size w1 v1 _) := Aside0.mk ⟨sp1, ho⟩; clear HBW; have HBW := Aside0.mk hb; clear ho_ ho hb hg))
        exact ⟨⟨i + 1, rfl, by omega, by omega, ⟨by rw [HSU.out, HG1.out]; exact HO1.out⟩, HBW⟩, by simp only [intOf]; omega⟩
      · have hl0 := hl false wr hsm
        have hal : a.length ≤ 200 := by have := HPL.out i.toNat; rw [Int.toNat_of_nonneg hi0, hg1] at this; exact this
        obtain ⟨A2, c2, rfl, hC2⟩ := (PartR.same (fun b cs hb => HBW.out.block b (Array.getElem?_eq_some_iff.1 hb).1) _ _ hv2 : PartR wr v2 a).C (by omega)
        have HG1 := Aside0.mk hg1; have HC2 := Aside0.mk hC2
        clear hl hg1 hsm hv2 hC2
        go_wp2_with (first | ((with_reducible refine gate_builtin (b := .append) (xs := #[.tmp 144, .tmp 150]) rfl ?_); at_builtin; obtain ⟨sp0, ho_⟩ := HO.out; refine wp_rf_rows (w0 := W8) W8.heap.size rfl (.tmp 144) (.tmp 150) rfl _ acc sp0 a _ _ _ rfl rfl ho_ HC2.out HBW.out (below_size HBW.out) (by have := HFL.out; omega) ?_; intro v1 w1 sp1 ho hb hg; have HO1 : Aside0 (RS W8.heap.size w1 v1 _) := Aside0.mk ⟨sp1, ho⟩; clear HBW; have HBW := Aside0.mk hb; clear ho_ ho hb hg))
        exact ⟨⟨i + 1, rfl, by omega, by omega, ⟨by rw [HSU.out, HG1.out]; exact HO1.out⟩, HBW⟩, by simp only [intOf]; omega⟩
    · have dx : decide (i < x10) = false := decide_eq_false hx
      have hie : i = x10 := by omega
      rw [hie] at HO
      clear hx dx hi0 hi1
      have hm9 := HM8.out.below HBW.out
      have ht := tell_calls g _ ws2 N wr hm9 hNr (by intro _; have := tell_gap HNW.out; exact this)
      have HO9 := Aside0.mk HO.out
      go_wp2_with fail
      ((with_reducible refine ht.mono ?_); rintro e_ W9 ⟨rfl, hm10', hgr9⟩)
      clear ht
      go_wp2
      go_ret3
      refine ⟨_, ws2, rfl, ?_, hm10', HWS.out, ?_⟩
      · have hout : outF { s with acked := hearF s b, waits := true, n := N, many := x10, parts := [(x9, b.drop 11)] } = (List.range x10.toNat).flatMap (fun j : Nat => (pget (j : Int) P).getD []) := by rw [← HPP.out]; rfl
        rw [hout]
        refine (HO9.out.lower (Keeps.then HK8.out (Keeps.refl _ _)).2.2.2.1).move (fun b hb hlt => hgr9.block b hlt (fun e => ?_))
        injection e with e
        have h1 := (HO9.out.own b hb).1
        have h2 := HGL8.out
        omega
      · exact (HK8.out.then (Keeps.of_below HBW.out ws)).trans (Keeps.of_grown hgr9 hm9.g_in.1) HWS.out
end Go.Proofs.YtbdocgddidcfeaaDoor
