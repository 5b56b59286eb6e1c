/- Merged: PtA PtB PtC PtD PtE PtF PtI PtL -/
import Derived.Test.YtbdocgddidcfeaaDoorKit
import Derived.Test.YtbdocgddidcfeaaDoorWZeros
import Derived.Test.YtbdocgddidcfeaaDoorProg
import Derived.WalkSpells
import Derived.ScopeJumps
import Derived.Laws.DeepNot64
import Derived.Deep.RegionHeld3
/- slices.Grow of nil, by bytes. -/
namespace Go.Proofs.YtbdocgddidcfeaaDoor
open Go.RowKit Go.Proofs.YtbdocgddidcfeaaDoorW.PrintWords Go.Proofs.YtbdocgddidcfeaaDoorW.PrintLast Go.Proofs.YtbdocgddidcfeaaDoorW.PrintMore
set_option linter.unusedVariables false
set_option linter.unusedSimpArgs false

theorem infoB : (Tryd.prog.info? 5).map (fun i => (i.zero, i.size, i.bytes)) = some (some (.int .u8 0), 1, 1) := by kernel_rfl

set_option maxHeartbeats 2000000 in
set_option maxRecDepth 100000 in
theorem grow_nil (n : Int) (w : World) (h0 : 0 ≤ n) (hn : n ≤ 140737488355328) :
    Calls Tryd.prog 44 #[.slice none 0 0, .int .i64 n] w
      fun e w' => ∃ v, e = .returned v ∧ Kd.R (Kd.int .u8) 5 w' w.heap.size (fun _ => True) v [] ∧ Below w.heap.size w w' := by
  have HB := Aside0.mk (Below.refl w.heap.size w)
  by_cases hz : n = 0
  · subst hz
    go_enter Tryd.func44, Tryd.ntmps44
    go_wp2
    go_ret
    exact ⟨_, rfl, Kd.R_nil _ _ _ _ _, HB.out⟩
  · have hp : 0 < n := by omega
    go_enter Tryd.func44, Tryd.ntmps44
    go_wp2_with (first | ((with_reducible refine gate_builtin (b := .append) (xs := #[.tmp 20, .tmp 21]) rfl ?_); at_builtin; refine Kd.R_append_zeros (Kd.int .u8) (w0 := w) w.heap.size rfl (.tmp 20) (.tmp 21) 30 3 5 (.int .u8 0) 1 rfl Tryd.underlying30 Tryd.underlying3 infoB rfl (by decide) (by omega) (.slice none 0 0) [] (0 : Int) n (fun _ => True) rfl rfl rfl (fun _ _ => trivial) (Kd.R_nil _ _ _ _ _) h0 HB.out (Nat.le_refl _) ?aL ?_; (case aL => simp; omega); intro v1 w1 ho hb hg hat; have HO := Aside0.mk ho; clear HB; have HB := Aside0.mk hb; clear ho hb hg hat; obtain ⟨A1, c1, hv⟩ := Kd.R_slice HO.out; subst hv; obtain ⟨i0, hi0, _, hsz0, _⟩ := info_parts infoB; obtain ⟨hcut, hA⟩ := print_take_int (P := Tryd.prog) (k := .i64) 30 5 Tryd.underlying30 hi0 hsz0 A1 c1 (List.replicate n.toNat 0) 0 (by omega) (by omega) (by have := (Kd.R_reads' HO.out).2.1; simpa using this)))
    go_ret
    exact ⟨_, rfl, Kd.R_take (m := 0) HO.out (Nat.zero_le _), HB.out⟩
end Go.Proofs.YtbdocgddidcfeaaDoor

/- slices.Concat of two rows of bytes. Printed by gen_b.py. -/
namespace Go.Proofs.YtbdocgddidcfeaaDoor
open Go.RowKit Go.Proofs.YtbdocgddidcfeaaDoorW.PrintWords Go.Proofs.YtbdocgddidcfeaaDoorW.PrintLast Go.Proofs.YtbdocgddidcfeaaDoorW.PrintMore
set_option linter.unusedVariables false
set_option linter.unusedSimpArgs false

def CRel (n0 n1 : Int) (vs vi : Value) : Prop := (vi = .int .i64 0 ∧ vs = .int .i64 0) ∨ (vi = .int .i64 1 ∧ vs = .int .i64 n0) ∨ (vi = .int .i64 2 ∧ vs = .int .i64 (n0 + n1))
def CRow (w : World) (l0 l1 : List Int) (wr : World) (v vi : Value) : Prop :=
  Below w.heap.size w wr ∧ ((vi = .int .i64 0 ∧ Kd.R (Kd.int .u8) 5 wr w.heap.size (fun _ => True) v []) ∨ (vi = .int .i64 1 ∧ Kd.R (Kd.int .u8) 5 wr w.heap.size (fun _ => True) v l0) ∨
    (vi = .int .i64 2 ∧ Kd.R (Kd.int .u8) 5 wr w.heap.size (fun _ => True) v (l0 ++ l1)))

set_option maxHeartbeats 4000000 in
set_option maxRecDepth 100000 in
theorem concat_two (g : Nat) (A0 A1 : Option Addr) (c0 c1 : Nat) (l0 l1 : List Int) (w : World)
    (hg0 : w.cell? ⟨g, 0, none⟩ = some (.slice A0 l0.length c0)) (hg1 : w.cell? ⟨g, 1, none⟩ = some (.slice A1 l1.length c1))
    (hr0 : Kd.C (Kd.int .u8) w A0 l0.length l0) (hr1 : Kd.C (Kd.int .u8) w A1 l1.length l1) (hl : l0.length + l1.length ≤ 140737488355328) :
    Calls Tryd.prog 37 #[.slice (some ⟨g, 0, none⟩) 2 2] w
      fun e w' => ∃ v, e = .returned v ∧ Kd.R (Kd.int .u8) 5 w' w.heap.size (fun _ => True) v (l0 ++ l1) ∧ Below w.heap.size w w' := by
  have HB := Aside0.mk (Below.refl w.heap.size w)
  have HR0 := Aside0.mk hr0
  have HR1 := Aside0.mk hr1
  have hlt := World.block_lt_of_cell? w _ hg0
  have HLT : Aside0 (g < w.heap.size) := ⟨hlt⟩
  have HL := Aside0.mk hl
  clear hr0 hr1 hlt
  obtain ⟨n0, hn0⟩ : ∃ n : Nat, n = l0.length := ⟨_, rfl⟩
  obtain ⟨n1, hn1⟩ : ∃ n : Nat, n = l1.length := ⟨_, rfl⟩
  rw [← hn0] at hg0; rw [← hn1] at hg1; rw [← hn0, ← hn1] at hl
  have HN0 := Aside0.mk hn0; have HN1 := Aside0.mk hn1
  clear hn0 hn1
  go_enter Tryd.func37, Tryd.ntmps37
  go_wp2
  go_loop [3, 11] (fun vs vi => CRel n0 n1 vs vi) (fun _ vi => (2 - intOf vi).toNat)
  case atStart => exact .inl ⟨rfl, rfl⟩
  case round =>
    rcases hrel with ⟨rfl, rfl⟩ | ⟨rfl, rfl⟩ | ⟨rfl, rfl⟩
    · go_wp2
      exact ⟨.inr (.inl ⟨rfl, rfl⟩), by simp [intOf]⟩
    · go_wp2
      exact ⟨.inr (.inr ⟨rfl, rfl⟩), by simp [intOf]⟩
    · go_wp2_with fail
      ((with_reducible refine (grow_nil _ _ (by omega) (by omega)).mono ?_); rintro e_ W1 ⟨v0, rfl, ho_, hb_⟩)
      have HO0 := Aside0.mk ho_
      clear HB; have HB := Aside0.mk hb_; clear ho_ hb_
      have hg0w := (HB.out.cell (p := ⟨g, 0, none⟩) HLT.out).trans hg0
      have hg1w := (HB.out.cell (p := ⟨g, 1, none⟩) HLT.out).trans hg1
      have HG0 := Aside0.mk hg0; have HG1 := Aside0.mk hg1
      clear hg0 hg1
      have HR0' : Aside0 (Kd.C (Kd.int .u8) w A0 n0 l0) := ⟨by rw [HN0.out]; exact HR0.out⟩
      have HR1' : Aside0 (Kd.C (Kd.int .u8) w A1 n1 l1) := ⟨by rw [HN1.out]; exact HR1.out⟩
      clear hg0w hg1w
      go_wp2
      go_loopw [6, 27] (fun v vi wr => CRow w l0 l1 wr v vi) (fun _ vi _ => (2 - intOf vi).toNat)
      case atStart => exact ⟨HB.out, .inl ⟨rfl, HO0.out⟩⟩
      case round =>
        clear HB HO0
        obtain ⟨hb_, hcase⟩ := hrel
        have HB := Aside0.mk hb_; clear hb_
        have hg0 := (HB.out.cell (p := ⟨g, 0, none⟩) HLT.out).trans HG0.out
        have hg1 := (HB.out.cell (p := ⟨g, 1, none⟩) HLT.out).trans HG1.out
        rcases hcase with ⟨rfl, ho_⟩ | ⟨rfl, ho_⟩ | ⟨rfl, ho_⟩
        · have HO0 := Aside0.mk ho_; clear ho_
          go_wp2_with (first | ((with_reducible refine gate_builtin (b := .append) (xs := #[.tmp 31, .tmp 32]) rfl ?_); at_builtin; refine Kd.R_append_rows (Kd.int .u8) (w0 := w) w.heap.size rfl (.tmp 31) (.tmp 32) 30 5 (.int .u8 0) 1 rfl Tryd.underlying30 infoB rfl (by decide) (by omega) _ [] l0 _ _ _ (fun _ => True) (fun _ => False) rfl rfl ?aO ?aR (fun _ _ h => h) (fun _ h => h.elim) ?aF ?aB ?aS ?aL ?_; (case aR => exact (Kd.C_below HR0'.out HB.out)); (case aB => exact HB.out); (case aF => exact (fun _ _ => trivial)); (case aO => exact HO0.out); (case aS => exact (below_size HB.out)); (case aL => (have := HL.out; simp; omega)); intro v1 w1 ho hb hg hat; have HO1 := Aside0.mk ho; clear HB; have HB := Aside0.mk hb; clear ho hb hg hat))
          refine ⟨⟨HB.out, .inr (.inl ⟨rfl, HO1.out⟩)⟩, by simp [intOf]⟩
        · have HO0 := Aside0.mk ho_; clear ho_
          go_wp2_with (first | ((with_reducible refine gate_builtin (b := .append) (xs := #[.tmp 31, .tmp 32]) rfl ?_); at_builtin; refine Kd.R_append_rows (Kd.int .u8) (w0 := w) w.heap.size rfl (.tmp 31) (.tmp 32) 30 5 (.int .u8 0) 1 rfl Tryd.underlying30 infoB rfl (by decide) (by omega) _ l0 l1 _ _ _ (fun _ => True) (fun _ => False) rfl rfl ?aO ?aR (fun _ _ h => h) (fun _ h => h.elim) ?aF ?aB ?aS ?aL ?_; (case aR => exact (Kd.C_below HR1'.out HB.out)); (case aB => exact HB.out); (case aF => exact (fun _ _ => trivial)); (case aO => exact HO0.out); (case aS => exact (below_size HB.out)); (case aL => (have := HL.out; have := HN0.out; have := HN1.out; omega)); intro v1 w1 ho hb hg hat; have HO1 := Aside0.mk ho; clear HB; have HB := Aside0.mk hb; clear ho hb hg hat))
          exact ⟨⟨HB.out, .inr (.inr ⟨rfl, HO1.out⟩)⟩, by simp [intOf]⟩
        · have HO0 := Aside0.mk ho_; clear ho_
          go_wp2
          go_ret
          exact ⟨_, rfl, HO0.out, HB.out⟩
end Go.Proofs.YtbdocgddidcfeaaDoor

/- wire.put. Printed by gen_c.py. -/
namespace Go.Proofs.YtbdocgddidcfeaaDoor
open Go.RowKit Go.Proofs.YtbdocgddidcfeaaDoorW.PrintWords Go.Proofs.YtbdocgddidcfeaaDoorW.PrintLast Go.Proofs.YtbdocgddidcfeaaDoorW.PrintMore
set_option linter.unusedVariables false
set_option linter.unusedSimpArgs false

/-- A number, seven bits a byte. -/
def venc (z : Nat) : List Int := if z < 128 then [(z : Int)] else ((z % 128 + 128 : Nat) : Int) :: venc (z / 128)
theorem venc_lt {z : Nat} (h : z < 128) : venc z = [(z : Int)] := by rw [venc, if_pos h]
theorem venc_ge {z : Nat} (h : ¬ z < 128) : venc z = ((z % 128 + 128 : Nat) : Int) :: venc (z / 128) := by rw [venc, if_neg h]
theorem venc_len : ∀ (k z : Nat), z < 128 ^ (k + 1) → (venc z).length ≤ k + 1
  | 0, z, h => by rw [venc_lt (by simpa using h)]; simp
  | k + 1, z, h => by
    by_cases hz : z < 128
    · rw [venc_lt hz]; simp
    · rw [venc_ge hz, List.length_cons]
      have := venc_len k (z / 128) (Nat.div_lt_of_lt_mul (by rw [Nat.pow_succ] at h; omega))
      omega
theorem venc_pos (z : Nat) : 0 < (venc z).length := by rw [venc]; split <;> simp
theorem venc_len64 {z : Int} (h : z < 18446744073709551616) : (venc z.toNat).length ≤ 10 := venc_len 9 _ (by omega)

theorem u64_and127 (z : Int) (h0 : 0 ≤ z) (h1 : z < 18446744073709551616) : bits .and .u64 z 127 = z % 128 := by go_bits2

/-- The cells at a place hold these bytes. -/
theorem C_of_cells {w : World} {g : Nat} {xs : List Int} (hl : xs.length ≤ 9223372036854775807)
    (h : ∀ (j : Nat) (x : Int), xs[j]? = some x → w.cell? ⟨g, j, none⟩ = some (.int .u8 x)) :
    Kd.C (Kd.int .u8) w (some ⟨g, 0, none⟩) xs.length xs := by
  refine ⟨rfl, hl, fun _ => ⟨_, rfl, fun j p hj => ⟨[.int .u8 p], rfl, rfl, fun i u hu => ?_⟩⟩⟩
  cases i with
  | zero =>
    simp only [List.getElem?_cons_zero, Option.some.injEq] at hu
    subst hu
    rw [add_plain]
    show w.cell? ⟨g, j * 1 + 0, none⟩ = _
    rw [Nat.mul_one, Nat.add_zero]
    exact h j p hj
  | succ i => simp at hu
theorem C_pre (w : World) (xs : List Int) (rest : List Value) (ty : TypeId) (hl : xs.length ≤ 9223372036854775807) (w1 : World) (hw : w1 = w.alloc (Obj.cells (xs.map (Value.int .u8) ++ rest).toArray ty)) :
    Kd.C (Kd.int .u8) w1 (some ⟨w.heap.size, 0, none⟩) xs.length xs := by
  subst hw
  refine C_of_cells hl (fun j x hx => ?_)
  have hj : j < xs.length := by
    have := List.getElem?_eq_some_iff.1 hx
    exact this.1
  have h1 : (xs.map (Value.int .u8) ++ rest)[j]? = some (.int .u8 x) := by rw [List.getElem?_append_left (by simpa using hj), List.getElem?_map, hx]; rfl
  unfold World.cell?
  rw [(MapKept.heap_alloc w _).1]
  simpa using h1

theorem pair_cells (w : World) (o1 : Obj) (a b : Value) (ty : TypeId) :
    ((w.alloc o1).alloc (Obj.cells #[a, b] ty)).cell? ⟨w.heap.size + 1, 0, none⟩ = some a ∧ ((w.alloc o1).alloc (Obj.cells #[a, b] ty)).cell? ⟨w.heap.size + 1, 1, none⟩ = some b := by
  have h := (MapKept.heap_alloc (w.alloc o1) (Obj.cells #[a, b] ty)).1
  have hs : (w.alloc o1).heap.size = w.heap.size + 1 := by show (w.heap.push o1).size = _; simp
  rw [hs] at h
  unfold World.cell?
  rw [h]
  exact ⟨rfl, rfl⟩
theorem two_below (w : World) (o1 o2 : Obj) : Below w.heap.size w ((w.alloc o1).alloc o2) ∧ w.heap.size ≤ ((w.alloc o1).alloc o2).heap.size := by
  have h : Below w.heap.size w ((w.alloc o1).alloc o2) := below_alloc (below_alloc (Below.refl _ _) _) _
  exact ⟨h, below_size h⟩
theorem concat_two' (g : Nat) (A0 A1 : Option Addr) (c0 c1 n1 : Nat) (l0 l1 : List Int) (w : World) (hn : l1.length = n1)
    (hg0 : w.cell? ⟨g, 0, none⟩ = some (.slice A0 l0.length c0)) (hg1 : w.cell? ⟨g, 1, none⟩ = some (.slice A1 n1 c1))
    (hr0 : Kd.C (Kd.int .u8) w A0 l0.length l0) (hr1 : Kd.C (Kd.int .u8) w A1 n1 l1) (hl : l0.length + n1 ≤ 140737488355328) :
    Calls Tryd.prog 37 #[.slice (some ⟨g, 0, none⟩) 2 2] w
      fun e w' => ∃ v, e = .returned v ∧ Kd.R (Kd.int .u8) 5 w' w.heap.size (fun _ => True) v (l0 ++ l1) ∧ Below w.heap.size w w' := by
  subst hn
  exact concat_two g A0 A1 c0 c1 l0 l1 w hg0 hg1 hr0 hr1 hl
theorem low7 (zz : Int) (h0 : 0 ≤ zz) (h1 : zz < 18446744073709551616) : bits .and .u64 zz 127 % 256 = zz % 128 := by
  rw [u64_and127 zz h0 h1]; omega
theorem venc_step (zz : Int) (h0 : 0 ≤ zz) (h1 : zz < 18446744073709551616) (hp : 0 < zz / 128) :
    venc zz.toNat = bits .or .u8 (bits .and .u64 zz 127 % 256) 128 :: venc (zz / 128).toNat := by
  rw [low7 zz h0 h1, u8_or128_right _ (by omega) (by omega), venc_ge (by omega)]
  congr 1
  · omega
  · congr 1
    omega
theorem venc_stop (zz : Int) (h0 : 0 ≤ zz) (h1 : zz < 18446744073709551616) (hp : zz / 128 ≤ 0) :
    venc zz.toNat = [bits .and .u64 zz 127 % 256] := by
  rw [low7 zz h0 h1, venc_lt (by omega)]
  congr 1
  omega

end Go.Proofs.YtbdocgddidcfeaaDoor

/- wire.take. -/
namespace Go.Proofs.YtbdocgddidcfeaaDoor
open Go.RowKit Go.Proofs.YtbdocgddidcfeaaDoorW.PrintWords Go.Proofs.YtbdocgddidcfeaaDoorW.PrintLast Go.Proofs.YtbdocgddidcfeaaDoorW.PrintMore
set_option linter.unusedVariables false
set_option linter.unusedSimpArgs false

/-- One of at most so many bytes, read from the i-th on. -/
def rdw (most : Int) : List Int → Int → Int → Int × Int × Int
  | [], i, _ => if most ≤ i then (0, 0, 20) else (0, 0, 3)
  | c :: cs, i, acc =>
    if i = most ∨ (i = 9 ∧ 1 < c) then (0, 0, 20)
    else if c < 128 then (if c = 0 ∧ 0 < i then (0, 0, 20) else (acc + c * (128 ^ i.toNat : Nat), i + 1, 0))
    else rdw most cs (i + 1) (acc + (c - 128) * (128 ^ i.toNat : Nat))
def tk (l : List Int) (at_ most : Int) : Int × Int × Int :=
  if at_ < 0 ∨ (l.length : Int) < at_ then (0, 0, 1)
  else if (rdw most (l.drop at_.toNat) 0 0).2.2 = 0 then ((rdw most (l.drop at_.toNat) 0 0).1, at_ + (rdw most (l.drop at_.toNat) 0 0).2.1, 0)
  else (0, 0, (rdw most (l.drop at_.toNat) 0 0).2.2)

theorem u8_and127' (c : Int) (h0 : 0 ≤ c) (h1 : c < 256) : bits .and .u8 c 127 = c % 128 := by
  exact bits_mask .u8 8 (by decide) wraps_u8 7 (by decide) c h0 h1
theorem w64id (x : Int) (h0 : 0 ≤ x) (h1 : x < 18446744073709551616) : IntKind.u64.wrap x = x := by
  show x % 18446744073709551616 = x
  omega
theorem mul_pow_lt (b n : Nat) (hn : n ≤ 9) (hb : b < 128) (h9 : n = 9 → b ≤ 1) : b * 128 ^ n < 18446744073709551616 := by
  have h : n = 0 ∨ n = 1 ∨ n = 2 ∨ n = 3 ∨ n = 4 ∨ n = 5 ∨ n = 6 ∨ n = 7 ∨ n = 8 ∨ n = 9 := by omega
  rcases h with rfl | rfl | rfl | rfl | rfl | rfl | rfl | rfl | rfl | rfl <;> simp at h9 ⊢ <;> omega
theorem shl_or (z c : Int) (n : Nat) (hn : n ≤ 9) (hz0 : 0 ≤ z) (hz1 : z < (128 ^ n : Nat)) (hc0 : 0 ≤ c) (hc1 : c < 256) (h9 : n = 9 → c ≤ 1) :
    bits .or .u64 z (IntKind.u64.wrap (IntKind.u64.wrap (bits .and .u8 c 127) * 2 ^ (7 * (n : Int)).toNat)) = z + c % 128 * (128 ^ n : Nat) := by
  rw [u8_and127' c hc0 hc1, w64id (c % 128) (by omega) (by omega)]
  have e : (7 * (n : Int)).toNat = 7 * n := by omega
  rw [e]
  obtain ⟨a, rfl⟩ := Int.eq_ofNat_of_zero_le hz0
  obtain ⟨b, rfl⟩ := Int.eq_ofNat_of_zero_le hc0
  have e2 : (128 : Nat) ^ n = 2 ^ (7 * n) := by rw [Nat.pow_mul]
  have hlt := mul_pow_lt (b % 128) n hn (by omega) (by omega)
  have hp : (2 : Int) ^ (7 * n) = ((2 ^ (7 * n) : Nat) : Int) := by simp
  have ha : a < 2 ^ (7 * n) := by rw [← e2]; omega
  have e3 : (b : Int) % 128 * (2 : Int) ^ (7 * n) = ((b % 128 * 2 ^ (7 * n) : Nat) : Int) := by rw [hp]; simp
  rw [e2] at hlt
  rw [e3, w64id _ (by omega) (by omega), e2]
  have ha2 : a < 18446744073709551616 := by
    have : 2 ^ (7 * n) ≤ 2 ^ 63 := Nat.pow_le_pow_right (by decide) (by omega)
    omega
  rw [bits_or_u64_nat a _ ha2 hlt, Nat.or_comm, ← Nat.shiftLeft_eq, ← Nat.shiftLeft_add_eq_or_of_lt ha, Nat.shiftLeft_eq]
  simp
  omega
theorem pow_step (n : Nat) (z c : Int) (hz0 : 0 ≤ z) (hz1 : z < (128 ^ n : Nat)) (hc0 : 0 ≤ c) : 0 ≤ z + c % 128 * (128 ^ n : Nat) ∧ z + c % 128 * (128 ^ n : Nat) < (128 ^ (n + 1) : Nat) := by
  have h1 : c % 128 ≤ 127 := by omega
  have h0 : 0 ≤ c % 128 := by omega
  rw [Nat.pow_succ]
  have hp : (0 : Int) ≤ (128 ^ n : Nat) := Int.natCast_nonneg _
  rw [Int.natCast_mul]
  generalize ((128 ^ n : Nat) : Int) = p at *
  have h2 := Int.mul_le_mul_of_nonneg_right h1 hp
  have h3 := Int.mul_nonneg h0 hp
  omega
theorem rdw_at (most : Int) (R : List Int) (i z : Int) (h0 : 0 ≤ i) (h1 : i < R.length) :
    rdw most (R.drop i.toNat) i z = if i = most ∨ (i = 9 ∧ 1 < rd R i) then (0, 0, 20)
    else if rd R i < 128 then (if rd R i = 0 ∧ 0 < i then (0, 0, 20) else (z + rd R i * (128 ^ i.toNat : Nat), i + 1, 0))
    else rdw most (R.drop (i + 1).toNat) (i + 1) (z + (rd R i - 128) * (128 ^ i.toNat : Nat)) := by
  have hl : i.toNat < R.length := by omega
  have hr : rd R i = R[i.toNat] := by simp [rd, List.getD_eq_getElem?_getD, List.getElem?_eq_getElem hl]
  have hs : (i + 1).toNat = i.toNat + 1 := by omega
  rw [List.drop_eq_getElem_cons hl, rdw, hr, hs]
theorem rd_mem {R : List Int} (hb : ∀ x ∈ R, 0 ≤ x ∧ x < 256) {i : Int} (h0 : 0 ≤ i) (h1 : i < R.length) : 0 ≤ rd R i ∧ rd R i < 256 := by
  have hl : i.toNat < R.length := by omega
  have : rd R i = R[i.toNat] := by simp [rd, List.getD_eq_getElem?_getD, List.getElem?_eq_getElem hl]
  rw [this]
  exact hb _ (List.getElem_mem hl)
end Go.Proofs.YtbdocgddidcfeaaDoor

/- Num, Int, ReadNum, ReadInt, Text. -/
namespace Go.Proofs.YtbdocgddidcfeaaDoor
open Go.RowKit Go.Proofs.YtbdocgddidcfeaaDoorW.PrintWords Go.Proofs.YtbdocgddidcfeaaDoorW.PrintLast Go.Proofs.YtbdocgddidcfeaaDoorW.PrintMore
set_option linter.unusedVariables false
set_option linter.unusedSimpArgs false

def numF (l : List Int) (n : Int) : List Int × Int := if n < 0 then ([], 1) else (l ++ venc n.toNat, 0)
def zz (n : Int) : Int := if n < 0 then -2 * n - 1 else 2 * n
def uz (z : Int) : Int := if z % 2 = 1 then -(z / 2) - 1 else z / 2

theorem xor_ones (a : Nat) (h : a < 18446744073709551616) : a ^^^ 18446744073709551615 = 18446744073709551615 - a := by
  have e1 : (18446744073709551615 : Nat) = 2 ^ 64 - 1 := by decide
  have e2 : 18446744073709551615 - a = 2 ^ 64 - (a + 1) := by omega
  rw [e2, e1]
  apply Nat.eq_of_testBit_eq
  intro i
  rw [Nat.testBit_xor, Nat.testBit_two_pow_sub_one, Nat.testBit_two_pow_sub_succ (by omega)]
  by_cases hi : i < 64
  · simp [hi]
  · have : a.testBit i = false := Nat.testBit_lt_two_pow (Nat.lt_of_lt_of_le h (by rw [show (18446744073709551616 : Nat) = 2 ^ 64 by decide]; exact Nat.pow_le_pow_right (by decide) (by omega)))
    simp [hi, this]
theorem zz_bits (n : Int) (h0 : -9223372036854775808 ≤ n) (h1 : n ≤ 9223372036854775807) :
    bits .xor .u64 (IntKind.u64.wrap (IntKind.u64.wrap n * 2)) (IntKind.u64.wrap (n / 9223372036854775808)) = zz n := by
  by_cases h : n < 0
  · rw [show n / 9223372036854775808 = -1 by omega, zz, if_pos h]
    show bits .xor .u64 (n % 18446744073709551616 * 2 % 18446744073709551616) 18446744073709551615 = _
    obtain ⟨a, ha⟩ : ∃ a : Nat, n % 18446744073709551616 * 2 % 18446744073709551616 = (a : Int) := ⟨_, (Int.toNat_of_nonneg (by omega)).symm⟩
    rw [ha]
    have := Go.bits_xor_u64_nat a 18446744073709551615 (by omega) (by omega)
    rw [show ((18446744073709551615 : Nat) : Int) = 18446744073709551615 from rfl] at this
    rw [this, xor_ones a (by omega)]
    omega
  · rw [show n / 9223372036854775808 = 0 by omega, zz, if_neg h]
    show bits .xor .u64 (n % 18446744073709551616 * 2 % 18446744073709551616) 0 = _
    obtain ⟨a, ha⟩ : ∃ a : Nat, n % 18446744073709551616 * 2 % 18446744073709551616 = (a : Int) := ⟨_, (Int.toNat_of_nonneg (by omega)).symm⟩
    rw [ha]
    have := Go.bits_xor_u64_nat a 0 (by omega) (by omega)
    rw [show ((0 : Nat) : Int) = 0 from rfl] at this
    rw [this, Nat.xor_zero]
    omega
theorem zz_range (n : Int) (h0 : -9223372036854775808 ≤ n) (h1 : n ≤ 9223372036854775807) : 0 ≤ zz n ∧ zz n < 18446744073709551616 := by
  unfold zz; split <;> omega

/-- What one of at most so many bytes can say. -/
theorem rdw_range (most : Int) (hm : 0 ≤ most) (hm2 : most ≤ 10) : ∀ (R : List Int) (i z : Int), 0 ≤ i → i ≤ most → (∀ x ∈ R, 0 ≤ x ∧ x < 256) → 0 ≤ z → z < (128 ^ i.toNat : Nat) →
    0 ≤ (rdw most R i z).1 ∧ (rdw most R i z).1 < (128 ^ most.toNat : Nat) ∧ (rdw most R i z).1 < 18446744073709551616 ∧ 0 ≤ (rdw most R i z).2.1 ∧ (rdw most R i z).2.1 ≤ i + R.length
  | [], i, z, hi, him, hR, h0, h1 => by
    have hp : (0 : Int) < (128 ^ most.toNat : Nat) := by exact_mod_cast Nat.pow_pos (by decide)
    rw [rdw]; split <;> exact ⟨by decide, hp, by decide, by decide, by simp; omega⟩
  | c :: cs, i, z, hi, him, hR, h0, h1 => by
    have hp : (0 : Int) < (128 ^ most.toNat : Nat) := by exact_mod_cast Nat.pow_pos (by decide)
    have hc := hR c List.mem_cons_self
    have hl : ((c :: cs).length : Int) = cs.length + 1 := by simp
    rw [rdw]
    by_cases e1 : i = most ∨ (i = 9 ∧ 1 < c)
    · rw [if_pos e1]
      exact ⟨by decide, hp, by decide, by decide, by simp only; omega⟩
    · rw [if_neg e1]
      have hst := pow_step i.toNat z c h0 h1 hc.1
      have hle : 128 ^ (i.toNat + 1) ≤ 128 ^ most.toNat := Nat.pow_le_pow_right (by decide) (by omega)
      by_cases e2 : c < 128
      · rw [if_pos e2]
        rw [show c % 128 = c by omega] at hst
        by_cases e3 : c = 0 ∧ 0 < i
        · rw [if_pos e3]; exact ⟨by decide, hp, by decide, by decide, by simp only; omega⟩
        · rw [if_neg e3]
          refine ⟨hst.1, Int.lt_of_lt_of_le hst.2 (by exact_mod_cast hle), ?_, by simp only; omega, by simp only; omega⟩
          show z + c * (128 ^ i.toNat : Nat) < 18446744073709551616
          by_cases e9 : i = 9
          · subst e9
            have : c ≤ 1 := by omega
            have h2 : c * ((128 ^ (9 : Int).toNat : Nat) : Int) ≤ 9223372036854775808 := by
              rw [show ((128 ^ (9 : Int).toNat : Nat) : Int) = 9223372036854775808 by decide]; omega
            rw [show ((128 ^ (9 : Int).toNat : Nat) : Int) = 9223372036854775808 by decide] at h1 h2 ⊢
            omega
          · have hle2 : 128 ^ (i.toNat + 1) ≤ 128 ^ 9 := Nat.pow_le_pow_right (by decide) (by omega)
            rw [show (128 : Nat) ^ 9 = 9223372036854775808 by decide] at hle2
            omega
      · rw [if_neg e2]
        rw [show c % 128 = c - 128 by omega] at hst
        have := rdw_range most hm hm2 cs (i + 1) (z + (c - 128) * (128 ^ i.toNat : Nat)) (by omega) (by omega) (fun x hx => hR x (List.mem_cons_of_mem _ hx)) hst.1 (by rw [show (i + 1).toNat = i.toNat + 1 by omega]; exact hst.2)
        refine ⟨this.1, this.2.1, this.2.2.1, this.2.2.2.1, by omega⟩
theorem tk_range (l : List Int) (at_ most : Int) (hm : 0 ≤ most) (hm2 : most ≤ 10) (hb : ∀ x ∈ l, 0 ≤ x ∧ x < 256) :
    0 ≤ (tk l at_ most).1 ∧ (tk l at_ most).1 < (128 ^ most.toNat : Nat) ∧ (tk l at_ most).1 < 18446744073709551616 ∧ 0 ≤ (tk l at_ most).2.1 ∧ (tk l at_ most).2.1 ≤ l.length := by
  have hp : (0 : Int) < (128 ^ most.toNat : Nat) := by exact_mod_cast Nat.pow_pos (by decide)
  by_cases e1 : at_ < 0 ∨ (l.length : Int) < at_
  · rw [tk, if_pos e1]; exact ⟨by decide, hp, by decide, by decide, by simp only; omega⟩
  · have h := rdw_range most hm hm2 (l.drop at_.toNat) 0 0 (by omega) hm (fun x hx => hb x (List.mem_of_mem_drop hx)) (by omega) (by simp)
    have hl : (l.drop at_.toNat).length = l.length - at_.toNat := List.length_drop
    rw [tk, if_neg e1]
    split
    · exact ⟨h.1, h.2.1, h.2.2.1, by have := h.2.2.2.1; simp only; omega, by have := h.2.2.2.2; simp only; omega⟩
    · exact ⟨Int.le_refl 0, hp, by show (0 : Int) < _; decide, Int.le_refl 0, by simp only; omega⟩

theorem bits_comm_xor (x y : Int) : bits .xor .i64 x y = bits .xor .i64 y x := by
  show IntKind.i64.wrap ((BitVec.ofInt 64 x ^^^ BitVec.ofInt 64 y).toNat : Int) = IntKind.i64.wrap ((BitVec.ofInt 64 y ^^^ BitVec.ofInt 64 x).toNat : Int)
  rw [BitVec.xor_comm]
theorem uz_bits (z : Int) (h0 : 0 ≤ z) (h1 : z < 18446744073709551616) :
    bits .xor .i64 (wrap64 (z / 2)) (wrap64 (-(wrap64 (bits .and .u64 z 1)))) = uz z := by
  have h2 : bits .and .u64 z 1 = z % 2 := by go_bits2
  have h3 : wrap64 (z / 2) = z / 2 := by simp only [wrap64]; omega
  rw [h2, h3, uz]
  obtain ⟨a, rfl⟩ := Int.eq_ofNat_of_zero_le h0
  rw [show ((a : Int) / 2) = ((a / 2 : Nat) : Int) by omega]
  have ha : a / 2 < 9223372036854775808 := by omega
  by_cases h : (a : Int) % 2 = 1
  · rw [if_pos h, h]
    rw [show wrap64 (-wrap64 1) = -1 by simp [wrap64]]
    rw [bits_comm_xor, i64_not _ ha]
    omega
  · rw [if_neg h, show (a : Int) % 2 = 0 by omega]
    rw [show wrap64 (-wrap64 0) = 0 by simp [wrap64]]
    show IntKind.i64.wrap ((BitVec.ofInt 64 ((a / 2 : Nat) : Int) ^^^ BitVec.ofInt 64 0).toNat : Int) = _
    rw [show BitVec.ofInt 64 0 = 0#64 by decide, BitVec.xor_zero, ofInt_u64 (a / 2) (by omega)]
    simp [IntKind.wrap, IntKind.bits, IntKind.signed]
    omega
def textF (l : List Int) (t : ByteArray) : List Int × Int := if (65536 : Int) < (t.size : Int) then ([], 2) else (l ++ venc t.size ++ bytesOf t, 0)

end Go.Proofs.YtbdocgddidcfeaaDoor

/- wire.Sum. -/
namespace Go.Proofs.YtbdocgddidcfeaaDoor
open Go.RowKit Go.Proofs.YtbdocgddidcfeaaDoorW.PrintWords Go.Proofs.YtbdocgddidcfeaaDoorW.PrintLast Go.Proofs.YtbdocgddidcfeaaDoorW.PrintMore
set_option linter.unusedVariables false
set_option linter.unusedSimpArgs false

def nib : List Int := [0, 498536548, 997073096, 651767980, 1994146192, 1802195444, 1303535960, 1342533948, 3988292384, 4027552580, 3604390888, 3412177804, 2607071920, 2262029012, 2685067896, 3183342108]
/-- The table lies in its block. -/
def Tab (w : World) : Prop := ∀ i : Nat, i < 16 → w.cell? ⟨0, i, none⟩ = some (.int .u32 (nib.getD i 0))
theorem Tab.below {w w' : World} (h : Tab w) (hb : Below w.heap.size w w') : Tab w' := by
  intro i hi
  have hc := h i hi
  exact (hb.cell (World.block_lt_of_cell? w _ hc)).trans hc

def nstep (s : Int) : Int := bits .xor .u32 (s / 16) (nib.getD (bits .and .u32 s 15).toNat 0)
def sstep (s c : Int) : Int := nstep (nstep (bits .xor .u32 s (c % 4294967296)))
def sumF (l : List Int) : Int := 4294967295 - l.foldl sstep 4294967295

theorem u32_range (x y : Int) : 0 ≤ bits .xor .u32 x y ∧ bits .xor .u32 x y < 4294967296 := by
  show 0 ≤ IntKind.u32.wrap ((BitVec.ofInt 32 x ^^^ BitVec.ofInt 32 y).toNat : Int) ∧ IntKind.u32.wrap ((BitVec.ofInt 32 x ^^^ BitVec.ofInt 32 y).toNat : Int) < 4294967296
  rw [IntKind.wrap_u32]
  omega
theorem wraps_u32 (n : Int) (h₀ : 0 ≤ n) (h₁ : n < 2 ^ 32) : IntKind.u32.wrap n = n := by rw [IntKind.wrap_u32]; omega
theorem u32_and15 (x : Int) (h0 : 0 ≤ x) (h1 : x < 4294967296) : bits .and .u32 x 15 = x % 16 := bits_mask .u32 32 (by decide) wraps_u32 4 (by decide) x h0 h1
theorem nib_range (n : Nat) : 0 ≤ nib.getD n 0 ∧ nib.getD n 0 < 4294967296 := by
  by_cases h : n < 16
  · have : ∀ n, n < 16 → 0 ≤ nib.getD n 0 ∧ nib.getD n 0 < 4294967296 := by decide
    exact this n h
  · have h1 : nib.length = 16 := rfl
    have : nib.getD n 0 = 0 := by rw [List.getD_eq_getElem?_getD, List.getElem?_eq_none (by omega)]; rfl
    rw [this]; decide
theorem xor_ones32 (a : Nat) (h : a < 4294967296) : 4294967295 ^^^ a = 4294967295 - a := by
  have e1 : (4294967295 : Nat) = 2 ^ 32 - 1 := by decide
  have e2 : 4294967295 - a = 2 ^ 32 - (a + 1) := by omega
  rw [e2, e1]
  apply Nat.eq_of_testBit_eq
  intro i
  rw [Nat.testBit_xor, Nat.testBit_two_pow_sub_one, Nat.testBit_two_pow_sub_succ (by omega)]
  by_cases hi : i < 32
  · simp [hi]
  · have : a.testBit i = false := Nat.testBit_lt_two_pow (Nat.lt_of_lt_of_le h (by rw [show (4294967296 : Nat) = 2 ^ 32 by decide]; exact Nat.pow_le_pow_right (by decide) (by omega)))
    simp [hi, this]
theorem max_xor (s : Int) (h0 : 0 ≤ s) (h1 : s < 4294967296) : bits .xor .u32 IntKind.u32.max s = 4294967295 - s := by
  obtain ⟨a, rfl⟩ := Int.eq_ofNat_of_zero_le h0
  have := u32_xor_nat 4294967295 a (by omega) (by omega)
  rw [show IntKind.u32.max = ((4294967295 : Nat) : Int) by decide, this, xor_ones32 a (by omega)]
  omega
/-- One look into the table. -/
theorem look {w : World} (hT : Tab w) (x y : Int) : 0 ≤ bits .and .u32 (bits .xor .u32 x y) 15 ∧ bits .and .u32 (bits .xor .u32 x y) 15 < 16 ∧
    w.cell? ⟨0, (bits .and .u32 (bits .xor .u32 x y) 15).toNat, none⟩ = some (.int .u32 (nib.getD (bits .and .u32 (bits .xor .u32 x y) 15).toNat 0)) := by
  have hr := u32_range x y
  have h := u32_and15 _ hr.1 hr.2
  refine ⟨by omega, by omega, hT _ (by omega)⟩
theorem sstep_range (s c : Int) : 0 ≤ sstep s c ∧ sstep s c < 4294967296 := u32_range _ _
theorem fold_range : ∀ (l : List Int) (s : Int), 0 ≤ s → s < 4294967296 → 0 ≤ l.foldl sstep s ∧ l.foldl sstep s < 4294967296
  | [], s, h0, h1 => ⟨h0, h1⟩
  | c :: cs, s, h0, h1 => fold_range cs (sstep s c) (sstep_range s c).1 (sstep_range s c).2
theorem fold_take (l : List Int) (i : Int) (h0 : 0 ≤ i) (h1 : i < l.length) (s : Int) : (l.take (i + 1).toNat).foldl sstep s = sstep ((l.take i.toNat).foldl sstep s) (rd l i) := by
  have hl : i.toNat < l.length := by omega
  have hr : rd l i = l[i.toNat] := by simp [rd, List.getD_eq_getElem?_getD, List.getElem?_eq_getElem hl]
  rw [show (i + 1).toNat = i.toNat + 1 by omega, List.take_succ_eq_append_getElem hl, List.foldl_append, hr]
  rfl

set_option maxHeartbeats 4000000 in
set_option maxRecDepth 100000 in
theorem Sum_calls (A0 : Option Addr) (c0 : Nat) (l0 : List Int) (w : World)
    (hr0 : Kd.C (Kd.int .u8) w A0 l0.length l0) (hl : l0.length ≤ 140737488355328) (hT : Tab w) :
    Calls Tryd.prog 36 #[.slice A0 l0.length c0] w
      fun e w' => e = .returned (.int .i64 (sumF l0)) ∧ w' = w := by
  have HR := Aside0.mk hr0
  have HT := Aside0.mk hT
  clear hr0 hT
  go_enter Tryd.func36, Tryd.ntmps36
  go_wp2
  go_loop [3, 8] (fun vs vi => ∃ (s i : Int), vs = .int .u32 s ∧ vi = .int .i64 i ∧ 0 ≤ i ∧ i ≤ l0.length ∧ 0 ≤ s ∧ s < 4294967296 ∧ s = (l0.take i.toNat).foldl sstep 4294967295) (fun _ vi => (l0.length - intOf vi).toNat)
  case atStart => exact ⟨_, _, rfl, rfl, by omega, by omega, by omega, by omega, rfl⟩
  case round =>
    obtain ⟨s, i, rfl, rfl, hi0, hi1, hs0, hs1, hs⟩ := hrel
    have HS := Aside0.mk hs; clear hs
    by_cases hx : i < l0.length
    · have dx : decide (i < (l0.length : Int)) = true := decide_eq_true hx
      obtain ⟨ad, e, hcell⟩ := Kd.at_int HR.out i hi0 hx
      cases e
      obtain ⟨c, hc⟩ : ∃ c, c = rd l0 i := ⟨_, rfl⟩
      rw [← hc] at hcell
      have HC := Aside0.mk hc; clear hc
      obtain ⟨f0, f1, f2⟩ := look HT.out s (c % 4294967296)
      obtain ⟨T0, hT0⟩ : ∃ T0, T0 = nib.getD (bits .and .u32 (bits .xor .u32 s (c % 4294967296)) 15).toNat 0 := ⟨_, rfl⟩
      rw [← hT0] at f2
      obtain ⟨g0, g1, g2⟩ := look HT.out (bits .xor .u32 s (c % 4294967296) / 16) T0
      obtain ⟨T1, hT1⟩ : ∃ T1, T1 = nib.getD (bits .and .u32 (bits .xor .u32 (bits .xor .u32 s (c % 4294967296) / 16) T0) 15).toNat 0 := ⟨_, rfl⟩
      rw [← hT1] at g2
      have hst : sstep s c = bits .xor .u32 (bits .xor .u32 (bits .xor .u32 s (c % 4294967296) / 16) T0 / 16) T1 := by rw [hT1, hT0]; rfl
      have HST := Aside0.mk hst; clear hst hT0 hT1
      go_wp2
      rw [← HST.out]
      refine ⟨⟨_, _, rfl, rfl, by omega, by omega, (sstep_range s c).1, (sstep_range s c).2, ?_⟩, by simp only [intOf]; omega⟩
      rw [fold_take l0 i hi0 hx, ← HS.out, ← HC.out]
    · have dx : decide (i < (l0.length : Int)) = false := decide_eq_false hx
      go_wp2
      go_ret
      have hsf : sumF l0 = 4294967295 - s := by
        rw [HS.out, List.take_of_length_le (by omega)]; rfl
      rw [hsf]
      rw [← max_xor s hs0 hs1]
      have hx2 := u32_range IntKind.u32.max s
      have hx3 : wrap64 (bits .xor .u32 IntKind.u32.max s) = bits .xor .u32 IntKind.u32.max s := by simp only [wrap64]; omega
      rw [hx3]
      exact ⟨rfl, rfl⟩

theorem sumF_range (l : List Int) : 0 ≤ sumF l ∧ sumF l < 4294967296 := by
  have := fold_range l 4294967295 (by decide) (by decide)
  unfold sumF; omega
def frameF (l : List Int) : List Int := l ++ [sumF l % 256, sumF l / 256 % 256, sumF l / 65536 % 256, sumF l / 16777216]

set_option maxHeartbeats 4000000 in
set_option maxRecDepth 100000 in
theorem Frame_calls (A0 : Option Addr) (c0 : Nat) (l0 : List Int) (w : World)
    (hr0 : Kd.C (Kd.int .u8) w A0 l0.length l0) (hl : l0.length ≤ 140737488355318) (hT : Tab w) :
    Calls Tryd.prog 25 #[.slice A0 l0.length c0] w
      fun e w' => ∃ v, e = .returned v ∧ Kd.R (Kd.int .u8) 5 w' w.heap.size (fun _ => True) v (frameF l0) ∧ Below w.heap.size w w' := by
  have HR := Aside0.mk hr0
  have HT := Aside0.mk hT
  have hs := sumF_range l0
  have hff : frameF l0 = l0 ++ [sumF l0 % 256, sumF l0 / 256 % 256, sumF l0 / 65536 % 256, sumF l0 / 16777216] := rfl
  rw [hff]
  have hc := Sum_calls A0 c0 l0 w hr0 (by omega) hT
  clear hr0 hT hff
  generalize sumF l0 = s at hs hc ⊢
  go_enter Tryd.func25, Tryd.ntmps25
  go_wp2_with fail
  ((with_reducible refine hc.mono ?_); rintro e_ W1 ⟨rfl, rfl⟩)
  clear hc
  go_wp2_with fail
  have hC : Kd.C (Kd.int .u8) (W1.alloc (Obj.cells #[.int .u8 (s % 256), .int .u8 (s / 256 % 256), .int .u8 (s / 65536 % 256), .int .u8 (s / 16777216)] 5)) (some ⟨W1.heap.size, 0, none⟩) 4 [s % 256, s / 256 % 256, s / 65536 % 256, s / 16777216] := C_pre W1 [s % 256, s / 256 % 256, s / 65536 % 256, s / 16777216] [] 5 (by simp) _ rfl
  ((with_reducible refine (concat_two' (W1.heap.size + 1) A0 (some ⟨W1.heap.size, 0, none⟩) c0 4 4 l0 [s % 256, s / 256 % 256, s / 65536 % 256, s / 16777216] _ rfl (pair_cells W1 _ _ _ _).1 (pair_cells W1 _ _ _ _).2 (Kd.C_alloc (Kd.C_alloc HR.out _) _) (Kd.C_alloc hC _) (by omega)).mono ?_); rintro e_ W2 ⟨v0, rfl, ho_, hb_⟩)
  clear hC
  have HO0 := Aside0.mk (Kd.R_lower ho_ (two_below W1 _ _).2); have HB := Aside0.mk (below_step (two_below W1 _ _).1 hb_)
  clear ho_ hb_
  go_wp2
  go_ret
  exact ⟨_, rfl, HO0.out, HB.out⟩
end Go.Proofs.YtbdocgddidcfeaaDoor

/- The sum of a frame is one number: the plain law; WireRest. -/
namespace Go.Proofs.YtbdocgddidcfeaaDoor
open Go.RowKit Go.Proofs.YtbdocgddidcfeaaDoorW.PrintWords Go.Proofs.YtbdocgddidcfeaaDoorW.PrintLast Go.Proofs.YtbdocgddidcfeaaDoorW.PrintMore
set_option linter.unusedVariables false
set_option linter.unusedSimpArgs false

def nibN (i : Nat) : Nat := (nib.getD i 0).toNat
def nstepN (s : Nat) : Nat := (s / 16) ^^^ nibN (s % 16)
def T8 (x : Nat) : Nat := nstepN (nstepN x)
def sstepN (s c : Nat) : Nat := T8 (s ^^^ c)

theorem nibN_lt (i : Nat) : nibN i < 4294967296 := by
  have := nib_range i
  unfold nibN; omega
theorem nibN_cast (i : Nat) : ((nibN i : Nat) : Int) = nib.getD i 0 := by
  have := nib_range i
  unfold nibN; omega
theorem nstepN_lt (s : Nat) (h : s < 4294967296) : nstepN s < 4294967296 := by
  have h1 := nibN_lt (s % 16)
  exact Nat.xor_lt_two_pow (n := 32) (by omega) (by omega)
theorem nstep_cast (s : Nat) (h : s < 4294967296) : nstep (s : Int) = ((nstepN s : Nat) : Int) := by
  have h15 := u32_and15 (s : Int) (by omega) (by omega)
  unfold nstep
  rw [h15, show ((s : Int) % 16).toNat = s % 16 by omega, ← nibN_cast, show (s : Int) / 16 = ((s / 16 : Nat) : Int) by omega, u32_xor_nat _ _ (by omega) (nibN_lt _)]
  rfl
theorem sstep_cast (s c : Nat) (h : s < 4294967296) (hc : c < 4294967296) : sstep (s : Int) (c : Int) = ((sstepN s c : Nat) : Int) := by
  have hx : s ^^^ c < 4294967296 := Nat.xor_lt_two_pow (n := 32) (by omega) (by omega)
  unfold sstep
  rw [show (c : Int) % 4294967296 = (c : Int) by omega, u32_xor_nat _ _ h hc, nstep_cast _ hx, nstep_cast _ (nstepN_lt _ hx)]
  rfl
theorem sstepN_lt (s c : Nat) (h : s < 4294967296) (hc : c < 4294967296) : sstepN s c < 4294967296 :=
  nstepN_lt _ (nstepN_lt _ (Nat.xor_lt_two_pow (n := 32) (by omega) (by omega)))

theorem xdiv16 (a b : Nat) : (a ^^^ b) / 16 = a / 16 ^^^ b / 16 := Nat.xor_div_two_pow (n := 4)
theorem xmod16 (a b : Nat) : (a ^^^ b) % 16 = a % 16 ^^^ b % 16 := Nat.xor_mod_two_pow (n := 4)
theorem xdiv256 (a b : Nat) : (a ^^^ b) / 256 = a / 256 ^^^ b / 256 := Nat.xor_div_two_pow (n := 8)
theorem xmod256 (a b : Nat) : (a ^^^ b) % 256 = a % 256 ^^^ b % 256 := Nat.xor_mod_two_pow (n := 8)
/-- A step is linear in what lies above the four bits. -/
theorem nstepN_high (h u : Nat) : nstepN (16 * h ^^^ u) = h ^^^ nstepN u := by
  unfold nstepN
  rw [xdiv16, xmod16, show 16 * h / 16 = h by omega, show 16 * h % 16 = 0 by omega, Nat.zero_xor, Nat.xor_assoc]
theorem split16 (y : Nat) : 16 * (y / 16) ^^^ y % 16 = y := by
  have := Nat.two_pow_add_eq_or_of_lt (i := 4) (b := y % 16) (by omega) (y / 16)
  rw [show 2 ^ 4 * (y / 16) + y % 16 = y by omega] at this
  have hx : 2 ^ 4 * (y / 16) ^^^ y % 16 = 2 ^ 4 * (y / 16) ||| y % 16 := by
    apply Nat.eq_of_testBit_eq
    intro i
    rw [Nat.testBit_xor, Nat.testBit_or, Nat.testBit_two_pow_mul, show (16 : Nat) = 2 ^ 4 by rfl, Nat.testBit_mod_two_pow]
    by_cases hi : i < 4
    · have hn : ¬ 4 ≤ i := by omega
      simp [hi, hn]
    · simp [hi]
  rw [show (16 : Nat) * (y / 16) = 2 ^ 4 * (y / 16) by rfl, hx, ← this]
theorem T8_split (y : Nat) : T8 y = y / 256 ^^^ T8 (y % 256) := by
  have h1 : y = 16 * (16 * (y / 256)) ^^^ y % 256 := by
    have := Nat.two_pow_add_eq_or_of_lt (i := 8) (b := y % 256) (by omega) (y / 256)
    rw [show 2 ^ 8 * (y / 256) + y % 256 = y by omega] at this
    have hx : 2 ^ 8 * (y / 256) ^^^ y % 256 = 2 ^ 8 * (y / 256) ||| y % 256 := by
      apply Nat.eq_of_testBit_eq
      intro i
      rw [Nat.testBit_xor, Nat.testBit_or, Nat.testBit_two_pow_mul, show (256 : Nat) = 2 ^ 8 by rfl, Nat.testBit_mod_two_pow]
      by_cases hi : i < 8
      · have hn : ¬ 8 ≤ i := by omega
        simp [hi, hn]
      · simp [hi]
    rw [show 16 * (16 * (y / 256)) = 2 ^ 8 * (y / 256) by omega, hx, ← this]
  show nstepN (nstepN y) = _
  have h2 : nstepN y = 16 * (y / 256) ^^^ nstepN (y % 256) := by
    conv => lhs; rw [h1]
    exact nstepN_high _ _
  rw [h2, nstepN_high]
  rfl
/-- One byte: the state S xor t, where S xor M is K. -/
theorem step_res (S M K t : Nat) (h : S ^^^ M = K) : sstepN (S ^^^ t) (M % 256) = S / 256 ^^^ (t / 256 ^^^ T8 ((K ^^^ t) % 256)) := by
  unfold sstepN
  rw [T8_split, xdiv256, xdiv256, xmod256, show M % 256 / 256 = 0 by omega, Nat.xor_zero, show M % 256 % 256 = M % 256 by omega, ← xmod256, Nat.xor_assoc, show S ^^^ t ^^^ M = K ^^^ t by rw [← h, Nat.xor_assoc, Nat.xor_comm t M, ← Nat.xor_assoc]]
theorem residue (s : Nat) (h : s < 4294967296) :
    sstepN (sstepN (sstepN (sstepN s ((4294967295 - s) % 256)) ((4294967295 - s) / 256 % 256)) ((4294967295 - s) / 65536 % 256)) ((4294967295 - s) / 16777216) = 3736805603 := by
  have hm := xor_ones32 s h
  have hx : s ^^^ (4294967295 - s) = 4294967295 := by
    rw [← hm, Nat.xor_comm 4294967295 s, ← Nat.xor_assoc, Nat.xor_self, Nat.zero_xor]
  generalize hM : 4294967295 - s = m at hx
  have hmlt : m < 4294967296 := by omega
  have e1 := step_res s m 4294967295 0 hx
  rw [Nat.xor_zero] at e1
  have hx1 : s / 256 ^^^ m / 256 = 16777215 := by rw [← xdiv256, hx]
  have hx2 : s / 65536 ^^^ m / 65536 = 65535 := by
    have := xdiv256 (s / 256) (m / 256)
    rw [hx1, Nat.div_div_eq_div_mul, Nat.div_div_eq_div_mul] at this
    exact this.symm
  have hx3 : s / 16777216 ^^^ m / 16777216 = 255 := by
    have := xdiv256 (s / 65536) (m / 65536)
    rw [hx2, Nat.div_div_eq_div_mul, Nat.div_div_eq_div_mul] at this
    exact this.symm
  have e2 := step_res (s / 256) (m / 256) 16777215 (0 / 256 ^^^ T8 ((4294967295 ^^^ 0) % 256)) hx1
  rw [Nat.div_div_eq_div_mul] at e2
  have e3 := step_res (s / 65536) (m / 65536) 65535 ((0 / 256 ^^^ T8 ((4294967295 ^^^ 0) % 256)) / 256 ^^^ T8 ((16777215 ^^^ (0 / 256 ^^^ T8 ((4294967295 ^^^ 0) % 256))) % 256)) hx2
  rw [Nat.div_div_eq_div_mul] at e3
  have e4 := step_res (s / 16777216) (m / 16777216) 255 (((0 / 256 ^^^ T8 ((4294967295 ^^^ 0) % 256)) / 256 ^^^ T8 ((16777215 ^^^ (0 / 256 ^^^ T8 ((4294967295 ^^^ 0) % 256))) % 256)) / 256 ^^^ T8 ((65535 ^^^ ((0 / 256 ^^^ T8 ((4294967295 ^^^ 0) % 256)) / 256 ^^^ T8 ((16777215 ^^^ (0 / 256 ^^^ T8 ((4294967295 ^^^ 0) % 256))) % 256))) % 256)) hx3
  rw [show m / 16777216 % 256 = m / 16777216 by omega] at e4
  rw [e1, e2, e3, e4, show s / 16777216 / 256 = 0 by omega, Nat.zero_xor]
  decide +kernel
theorem sum_frame (l : List Int) : sumF (frameF l) = 558161692 := by
  have hr := fold_range l 4294967295 (by decide) (by decide)
  have hs : sumF l = 4294967295 - l.foldl sstep 4294967295 := rfl
  have hq : sumF (frameF l) = 4294967295 - (frameF l).foldl sstep 4294967295 := rfl
  rw [hq, frameF, List.foldl_append, hs]
  obtain ⟨s, hsv⟩ := Int.eq_ofNat_of_zero_le hr.1
  rw [hsv]
  have hlt : s < 4294967296 := by omega
  have hm : (4294967295 : Int) - (s : Int) = ((4294967295 - s : Nat) : Int) := by omega
  rw [hm]
  have hres := residue s hlt
  generalize hM : 4294967295 - s = m at hres
  have hmlt : m < 4294967296 := by omega
  simp only [List.foldl_cons, List.foldl_nil]
  rw [show (m : Int) % 256 = ((m % 256 : Nat) : Int) by omega, show (m : Int) / 256 % 256 = ((m / 256 % 256 : Nat) : Int) by omega, show (m : Int) / 65536 % 256 = ((m / 65536 % 256 : Nat) : Int) by omega, show (m : Int) / 16777216 = ((m / 16777216 : Nat) : Int) by omega]
  have g1 := sstepN_lt s (m % 256) hlt (by omega)
  have g2 := sstepN_lt _ (m / 256 % 256) g1 (by omega)
  have g3 := sstepN_lt _ (m / 65536 % 256) g2 (by omega)
  rw [sstep_cast _ _ hlt (by omega), sstep_cast _ _ g1 (by omega), sstep_cast _ _ g2 (by omega), sstep_cast _ _ g3 (by omega), hres]
  rfl

end Go.Proofs.YtbdocgddidcfeaaDoor

/- WireBack. Printed by gen_l.py. -/
namespace Go.Proofs.YtbdocgddidcfeaaDoor
open Go.RowKit Go.Proofs.YtbdocgddidcfeaaDoorW.PrintWords Go.Proofs.YtbdocgddidcfeaaDoorW.PrintLast Go.Proofs.YtbdocgddidcfeaaDoorW.PrintMore
set_option linter.unusedVariables false
set_option linter.unusedSimpArgs false

theorem bytes_range (s : ByteArray) : ∀ x ∈ bytesOf s, 0 ≤ x ∧ x < 256 := by
  intro x hx
  obtain ⟨b, _, rfl⟩ := List.mem_map.1 hx
  have := b.toNat_lt
  omega
theorem venc_range : ∀ (k z : Nat), z < k → ∀ x ∈ venc z, 0 ≤ x ∧ x < 256
  | 0, z, h => by omega
  | k + 1, z, h => by
    intro x hx
    by_cases hz : z < 128
    · rw [venc_lt hz] at hx
      simp at hx; omega
    · rw [venc_ge hz] at hx
      rcases List.mem_cons.1 hx with rfl | hx
      · omega
      · exact venc_range k (z / 128) (by omega) x hx
theorem app_range {a b : List Int} (ha : ∀ x ∈ a, 0 ≤ x ∧ x < 256) (hb : ∀ x ∈ b, 0 ≤ x ∧ x < 256) : ∀ x ∈ a ++ b, 0 ≤ x ∧ x < 256 := by
  intro x hx
  rcases List.mem_append.1 hx with h | h
  · exact ha x h
  · exact hb x h
end Go.Proofs.YtbdocgddidcfeaaDoor
