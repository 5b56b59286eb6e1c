/- Taken together by a program of mine: what the proof names, out of the texts of this seat (its words as the print wrote them), part 2. -/
import Derived.Test.YteidgpaakoeefaaDoorR1
import Derived.WalkKit
import Derived.WalkLawsBesides
import Derived.Outline
import Derived.Lib.Hide
import Derived.BigQuiet
import Derived.WalkSpells
import Derived.ScopeJumps
import Derived.Lib.AppendStr
import Derived.Laws.DeepNot64
import Derived.Laws.IdiomStrings
import Derived.Laws.CopyRow
import Derived.Laws.IdiomCopy
import Derived.Laws.MakeOwn
import Derived.Deep.WholeRow
namespace Go.Proofs.YteidgpaakoeefaaDoor
open Go.RowKit Go.Proofs.YteidgpaakoeefaaDoorW.PrintWords Go.Proofs.YteidgpaakoeefaaDoorW.PrintLast Go.Proofs.YteidgpaakoeefaaDoorW.PrintMore
set_option linter.unusedVariables false
structure Aft (W : World) where
  w : World
  below : Below W.heap.size W w
instance (W : World) : Nonempty (Aft W) := ⟨⟨W, Below.refl _ _⟩⟩
variable {P : Program}
theorem ret_int {k : IntKind} {a b : Int} (h : a = b) : Ending.returned (.int k a) = .returned (.int k b) := by rw [h]
theorem ret_bool {a b : Bool} (h : a = b) : Ending.returned (.bool a) = .returned (.bool b) := by rw [h]
end Go.Proofs.YteidgpaakoeefaaDoor
namespace Go.Proofs.YteidgpaakoeefaaDoor
open Go.RowKit Go.Proofs.YteidgpaakoeefaaDoorW.PrintWords Go.Proofs.YteidgpaakoeefaaDoorW.PrintLast Go.Proofs.YteidgpaakoeefaaDoorW.PrintMore
set_option linter.unusedVariables false
set_option linter.unusedSimpArgs false
theorem infoB : (Tryd.prog.info? 5).map (fun i => (i.zero, i.size, i.bytes)) = some (some (.int .u8 0), 1, 1) := by kernel_rfl
set_option maxHeartbeats 2000000 in
set_option maxRecDepth 100000 in
theorem grow_nil (n : Int) (w : World) (h0 : 0 ≤ n) (hn : n ≤ 140737488355328) :
    Calls Tryd.prog 67 #[.slice none 0 0, .int .i64 n] w
      fun e w' => ∃ v, e = .returned v ∧ Kd.R (Kd.int .u8) 5 w' w.heap.size (fun _ => True) v [] ∧ Below w.heap.size w w' := by
  have HB := Aside0.mk (Below.refl w.heap.size w)
  by_cases hz : n = 0
  · subst hz
    go_enter Tryd.func67, Tryd.ntmps67
    go_wp2
    go_ret
    exact ⟨_, rfl, Kd.R_nil _ _ _ _ _, HB.out⟩
  · have hp : 0 < n := by omega
    go_enter Tryd.func67, Tryd.ntmps67
    go_wp2_with (first | ((with_reducible refine gate_builtin (b := .append) (xs := #[.tmp 20, .tmp 21]) rfl ?_); at_builtin; refine Kd.R_append_zeros (Kd.int .u8) (w0 := w) w.heap.size rfl (.tmp 20) (.tmp 21) 30 3 5 (.int .u8 0) 1 rfl Tryd.underlying30 Tryd.underlying3 infoB rfl (by decide) (by omega) (.slice none 0 0) [] (0 : Int) n (fun _ => True) rfl rfl rfl (fun _ _ => trivial) (Kd.R_nil _ _ _ _ _) h0 HB.out (Nat.le_refl _) ?aL ?_; (case aL => simp; omega); intro v1 w1 ho hb hg hat; have HO := Aside0.mk ho; clear HB; have HB := Aside0.mk hb; clear ho hb hg hat; obtain ⟨A1, c1, hv⟩ := Kd.R_slice HO.out; subst hv; obtain ⟨i0, hi0, _, hsz0, _⟩ := info_parts infoB; obtain ⟨hcut, hA⟩ := print_take_int (P := Tryd.prog) (k := .i64) 30 5 Tryd.underlying30 hi0 hsz0 A1 c1 (List.replicate n.toNat 0) 0 (by omega) (by omega) (by have := (Kd.R_reads' HO.out).2.1; simpa using this)))
    go_ret
    exact ⟨_, rfl, Kd.R_take (m := 0) HO.out (Nat.zero_le _), HB.out⟩
end Go.Proofs.YteidgpaakoeefaaDoor
namespace Go.Proofs.YteidgpaakoeefaaDoor
open Go.RowKit Go.Proofs.YteidgpaakoeefaaDoorW.PrintWords Go.Proofs.YteidgpaakoeefaaDoorW.PrintLast Go.Proofs.YteidgpaakoeefaaDoorW.PrintMore
set_option linter.unusedVariables false
set_option linter.unusedSimpArgs false
def CRel (n0 n1 : Int) (vs vi : Value) : Prop := (vi = .int .i64 0 ∧ vs = .int .i64 0) ∨ (vi = .int .i64 1 ∧ vs = .int .i64 n0) ∨ (vi = .int .i64 2 ∧ vs = .int .i64 (n0 + n1))
def CRow (w : World) (l0 l1 : List Int) (wr : World) (v vi : Value) : Prop :=
  Below w.heap.size w wr ∧ ((vi = .int .i64 0 ∧ Kd.R (Kd.int .u8) 5 wr w.heap.size (fun _ => True) v []) ∨ (vi = .int .i64 1 ∧ Kd.R (Kd.int .u8) 5 wr w.heap.size (fun _ => True) v l0) ∨
    (vi = .int .i64 2 ∧ Kd.R (Kd.int .u8) 5 wr w.heap.size (fun _ => True) v (l0 ++ l1)))
set_option maxHeartbeats 4000000 in
set_option maxRecDepth 100000 in
theorem concat_two (g : Nat) (A0 A1 : Option Addr) (c0 c1 : Nat) (l0 l1 : List Int) (w : World)
    (hg0 : w.cell? ⟨g, 0, none⟩ = some (.slice A0 l0.length c0)) (hg1 : w.cell? ⟨g, 1, none⟩ = some (.slice A1 l1.length c1))
    (hr0 : Kd.C (Kd.int .u8) w A0 l0.length l0) (hr1 : Kd.C (Kd.int .u8) w A1 l1.length l1) (hl : l0.length + l1.length ≤ 140737488355328) :
    Calls Tryd.prog 40 #[.slice (some ⟨g, 0, none⟩) 2 2] w
      fun e w' => ∃ v, e = .returned v ∧ Kd.R (Kd.int .u8) 5 w' w.heap.size (fun _ => True) v (l0 ++ l1) ∧ Below w.heap.size w w' := by
  have HB := Aside0.mk (Below.refl w.heap.size w)
  have HR0 := Aside0.mk hr0
  have HR1 := Aside0.mk hr1
  have hlt := World.block_lt_of_cell? w _ hg0
  have HLT : Aside0 (g < w.heap.size) := ⟨hlt⟩
  have HL := Aside0.mk hl
  clear hr0 hr1 hlt
  obtain ⟨n0, hn0⟩ : ∃ n : Nat, n = l0.length := ⟨_, rfl⟩
  obtain ⟨n1, hn1⟩ : ∃ n : Nat, n = l1.length := ⟨_, rfl⟩
  rw [← hn0] at hg0; rw [← hn1] at hg1; rw [← hn0, ← hn1] at hl
  have HN0 := Aside0.mk hn0; have HN1 := Aside0.mk hn1
  clear hn0 hn1
  go_enter Tryd.func40, Tryd.ntmps40
  go_wp2
  go_loop [3, 11] (fun vs vi => CRel n0 n1 vs vi) (fun _ vi => (2 - intOf vi).toNat)
  case atStart => exact .inl ⟨rfl, rfl⟩
  case round =>
    rcases hrel with ⟨rfl, rfl⟩ | ⟨rfl, rfl⟩ | ⟨rfl, rfl⟩
    · go_wp2
      exact ⟨.inr (.inl ⟨rfl, rfl⟩), by simp [intOf]⟩
    · go_wp2
      exact ⟨.inr (.inr ⟨rfl, rfl⟩), by simp [intOf]⟩
    · go_wp2_with fail
      ((with_reducible refine (grow_nil _ _ (by omega) (by omega)).mono ?_); rintro e_ W1 ⟨v0, rfl, ho_, hb_⟩)
      have HO0 := Aside0.mk ho_
      clear HB; have HB := Aside0.mk hb_; clear ho_ hb_
      have hg0w := (HB.out.cell (p := ⟨g, 0, none⟩) HLT.out).trans hg0
      have hg1w := (HB.out.cell (p := ⟨g, 1, none⟩) HLT.out).trans hg1
      have HG0 := Aside0.mk hg0; have HG1 := Aside0.mk hg1
      clear hg0 hg1
      have HR0' : Aside0 (Kd.C (Kd.int .u8) w A0 n0 l0) := ⟨by rw [HN0.out]; exact HR0.out⟩
      have HR1' : Aside0 (Kd.C (Kd.int .u8) w A1 n1 l1) := ⟨by rw [HN1.out]; exact HR1.out⟩
      clear hg0w hg1w
      go_wp2
      go_loopw [6, 27] (fun v vi wr => CRow w l0 l1 wr v vi) (fun _ vi _ => (2 - intOf vi).toNat)
      case atStart => exact ⟨HB.out, .inl ⟨rfl, HO0.out⟩⟩
      case round =>
        clear HB HO0
        obtain ⟨hb_, hcase⟩ := hrel
        have HB := Aside0.mk hb_; clear hb_
        have hg0 := (HB.out.cell (p := ⟨g, 0, none⟩) HLT.out).trans HG0.out
        have hg1 := (HB.out.cell (p := ⟨g, 1, none⟩) HLT.out).trans HG1.out
        rcases hcase with ⟨rfl, ho_⟩ | ⟨rfl, ho_⟩ | ⟨rfl, ho_⟩
        · have HO0 := Aside0.mk ho_; clear ho_
          go_wp2_with (first | ((with_reducible refine gate_builtin (b := .append) (xs := #[.tmp 31, .tmp 32]) rfl ?_); at_builtin; refine Kd.R_append_rows (Kd.int .u8) (w0 := w) w.heap.size rfl (.tmp 31) (.tmp 32) 30 5 (.int .u8 0) 1 rfl Tryd.underlying30 infoB rfl (by decide) (by omega) _ [] l0 _ _ _ (fun _ => True) (fun _ => False) rfl rfl ?aO ?aR (fun _ _ h => h) (fun _ h => h.elim) ?aF ?aB ?aS ?aL ?_; (case aR => exact (Kd.C_below HR0'.out HB.out)); (case aB => exact HB.out); (case aF => exact (fun _ _ => trivial)); (case aO => exact HO0.out); (case aS => exact (below_size HB.out)); (case aL => (have := HL.out; simp; omega)); intro v1 w1 ho hb hg hat; have HO1 := Aside0.mk ho; clear HB; have HB := Aside0.mk hb; clear ho hb hg hat))
          refine ⟨⟨HB.out, .inr (.inl ⟨rfl, HO1.out⟩)⟩, by simp [intOf]⟩
        · have HO0 := Aside0.mk ho_; clear ho_
          go_wp2_with (first | ((with_reducible refine gate_builtin (b := .append) (xs := #[.tmp 31, .tmp 32]) rfl ?_); at_builtin; refine Kd.R_append_rows (Kd.int .u8) (w0 := w) w.heap.size rfl (.tmp 31) (.tmp 32) 30 5 (.int .u8 0) 1 rfl Tryd.underlying30 infoB rfl (by decide) (by omega) _ l0 l1 _ _ _ (fun _ => True) (fun _ => False) rfl rfl ?aO ?aR (fun _ _ h => h) (fun _ h => h.elim) ?aF ?aB ?aS ?aL ?_; (case aR => exact (Kd.C_below HR1'.out HB.out)); (case aB => exact HB.out); (case aF => exact (fun _ _ => trivial)); (case aO => exact HO0.out); (case aS => exact (below_size HB.out)); (case aL => (have := HL.out; have := HN0.out; have := HN1.out; omega)); intro v1 w1 ho hb hg hat; have HO1 := Aside0.mk ho; clear HB; have HB := Aside0.mk hb; clear ho hb hg hat))
          exact ⟨⟨HB.out, .inr (.inr ⟨rfl, HO1.out⟩)⟩, by simp [intOf]⟩
        · have HO0 := Aside0.mk ho_; clear ho_
          go_wp2
          go_ret
          exact ⟨_, rfl, HO0.out, HB.out⟩
end Go.Proofs.YteidgpaakoeefaaDoor
namespace Go.Proofs.YteidgpaakoeefaaDoor
open Go.RowKit Go.Proofs.YteidgpaakoeefaaDoorW.PrintWords Go.Proofs.YteidgpaakoeefaaDoorW.PrintLast Go.Proofs.YteidgpaakoeefaaDoorW.PrintMore
set_option linter.unusedVariables false
set_option linter.unusedSimpArgs false
def venc (z : Nat) : List Int := if z < 128 then [(z : Int)] else ((z % 128 + 128 : Nat) : Int) :: venc (z / 128)
theorem venc_lt {z : Nat} (h : z < 128) : venc z = [(z : Int)] := by rw [venc, if_pos h]
theorem venc_ge {z : Nat} (h : ¬ z < 128) : venc z = ((z % 128 + 128 : Nat) : Int) :: venc (z / 128) := by rw [venc, if_neg h]
theorem venc_len : ∀ (k z : Nat), z < 128 ^ (k + 1) → (venc z).length ≤ k + 1
  | 0, z, h => by rw [venc_lt (by simpa using h)]; simp
  | k + 1, z, h => by
    by_cases hz : z < 128
    · rw [venc_lt hz]; simp
    · rw [venc_ge hz, List.length_cons]
      have := venc_len k (z / 128) (Nat.div_lt_of_lt_mul (by rw [Nat.pow_succ] at h; omega))
      omega
theorem venc_pos (z : Nat) : 0 < (venc z).length := by rw [venc]; split <;> simp
theorem venc_len64 {z : Int} (h : z < 18446744073709551616) : (venc z.toNat).length ≤ 10 := venc_len 9 _ (by omega)
theorem u64_and127 (z : Int) (h0 : 0 ≤ z) (h1 : z < 18446744073709551616) : bits .and .u64 z 127 = z % 128 := by go_bits2
theorem C_of_cells {w : World} {g : Nat} {xs : List Int} (hl : xs.length ≤ 9223372036854775807)
    (h : ∀ (j : Nat) (x : Int), xs[j]? = some x → w.cell? ⟨g, j, none⟩ = some (.int .u8 x)) :
    Kd.C (Kd.int .u8) w (some ⟨g, 0, none⟩) xs.length xs := by
  refine ⟨rfl, hl, fun _ => ⟨_, rfl, fun j p hj => ⟨[.int .u8 p], rfl, rfl, fun i u hu => ?_⟩⟩⟩
  cases i with
  | zero =>
    simp only [List.getElem?_cons_zero, Option.some.injEq] at hu
    subst hu
    rw [add_plain]
    show w.cell? ⟨g, j * 1 + 0, none⟩ = _
    rw [Nat.mul_one, Nat.add_zero]
    exact h j p hj
  | succ i => simp at hu
theorem C_pre (w : World) (xs : List Int) (rest : List Value) (ty : TypeId) (hl : xs.length ≤ 9223372036854775807) (w1 : World) (hw : w1 = w.alloc (Obj.cells (xs.map (Value.int .u8) ++ rest).toArray ty)) :
    Kd.C (Kd.int .u8) w1 (some ⟨w.heap.size, 0, none⟩) xs.length xs := by
  subst hw
  refine C_of_cells hl (fun j x hx => ?_)
  have hj : j < xs.length := by
    have := List.getElem?_eq_some_iff.1 hx
    exact this.1
  have h1 : (xs.map (Value.int .u8) ++ rest)[j]? = some (.int .u8 x) := by rw [List.getElem?_append_left (by simpa using hj), List.getElem?_map, hx]; rfl
  unfold World.cell?
  rw [(MapKept.heap_alloc w _).1]
  simpa using h1
theorem pair_cells (w : World) (o1 : Obj) (a b : Value) (ty : TypeId) :
    ((w.alloc o1).alloc (Obj.cells #[a, b] ty)).cell? ⟨w.heap.size + 1, 0, none⟩ = some a ∧ ((w.alloc o1).alloc (Obj.cells #[a, b] ty)).cell? ⟨w.heap.size + 1, 1, none⟩ = some b := by
  have h := (MapKept.heap_alloc (w.alloc o1) (Obj.cells #[a, b] ty)).1
  have hs : (w.alloc o1).heap.size = w.heap.size + 1 := by show (w.heap.push o1).size = _; simp
  rw [hs] at h
  unfold World.cell?
  rw [h]
  exact ⟨rfl, rfl⟩
theorem two_below (w : World) (o1 o2 : Obj) : Below w.heap.size w ((w.alloc o1).alloc o2) ∧ w.heap.size ≤ ((w.alloc o1).alloc o2).heap.size := by
  have h : Below w.heap.size w ((w.alloc o1).alloc o2) := below_alloc (below_alloc (Below.refl _ _) _) _
  exact ⟨h, below_size h⟩
theorem concat_two' (g : Nat) (A0 A1 : Option Addr) (c0 c1 n1 : Nat) (l0 l1 : List Int) (w : World) (hn : l1.length = n1)
    (hg0 : w.cell? ⟨g, 0, none⟩ = some (.slice A0 l0.length c0)) (hg1 : w.cell? ⟨g, 1, none⟩ = some (.slice A1 n1 c1))
    (hr0 : Kd.C (Kd.int .u8) w A0 l0.length l0) (hr1 : Kd.C (Kd.int .u8) w A1 n1 l1) (hl : l0.length + n1 ≤ 140737488355328) :
    Calls Tryd.prog 40 #[.slice (some ⟨g, 0, none⟩) 2 2] w
      fun e w' => ∃ v, e = .returned v ∧ Kd.R (Kd.int .u8) 5 w' w.heap.size (fun _ => True) v (l0 ++ l1) ∧ Below w.heap.size w w' := by
  subst hn
  exact concat_two g A0 A1 c0 c1 l0 l1 w hg0 hg1 hr0 hr1 hl
theorem low7 (zz : Int) (h0 : 0 ≤ zz) (h1 : zz < 18446744073709551616) : bits .and .u64 zz 127 % 256 = zz % 128 := by
  rw [u64_and127 zz h0 h1]; omega
theorem venc_step (zz : Int) (h0 : 0 ≤ zz) (h1 : zz < 18446744073709551616) (hp : 0 < zz / 128) :
    venc zz.toNat = bits .or .u8 (bits .and .u64 zz 127 % 256) 128 :: venc (zz / 128).toNat := by
  rw [low7 zz h0 h1, u8_or128_right _ (by omega) (by omega), venc_ge (by omega)]
  congr 1
  · omega
  · congr 1
    omega
theorem venc_stop (zz : Int) (h0 : 0 ≤ zz) (h1 : zz < 18446744073709551616) (hp : zz / 128 ≤ 0) :
    venc zz.toNat = [bits .and .u64 zz 127 % 256] := by
  rw [low7 zz h0 h1, venc_lt (by omega)]
  congr 1
  omega
set_option maxHeartbeats 4000000 in
set_option maxRecDepth 100000 in
theorem put_calls (A0 : Option Addr) (c0_ : Nat) (l0 : List Int) (z : Int) (w : World)
    (hr0 : Kd.C (Kd.int .u8) w A0 l0.length l0) (hl : l0.length ≤ 140737488355318) (hz0 : 0 ≤ z) (hz1 : z < 18446744073709551616) :
    Calls Tryd.prog 60 #[.slice A0 l0.length c0_, .int .u64 z] w
      fun e w' => ∃ v, e = .returned v ∧ Kd.R (Kd.int .u8) 5 w' w.heap.size (fun _ => True) v (l0 ++ venc z.toNat) ∧ Below w.heap.size w w' := by
  have HR0 := Aside0.mk hr0
  clear hr0
  go_enter Tryd.func60, Tryd.ntmps60
  go_wp2
  refine wp_scope_jumps 0 (fun a' w' => ∃ (n : Nat) (zz : Int) (c0 c1 c2 c3 c4 c5 c6 c7 c8 c9 : Int) (u7 u8 u9 u10 u11 u12 u13 u14 u15 u16 u17 u18 u19 u20 u21 u22 : Value),
      a' = { tmps := #[.slice A0 l0.length c0_, .int .u64 zz, undef, undef, .slice none 0 0, .pointer (some ⟨w.heap.size, 0, none⟩), .int .i64 (n : Int), u7, u8, u9, u10, u11, u12, u13, u14, u15, u16, u17, u18, u19, u20, u21, u22, undef, undef, undef, undef, undef, undef], defers := [] } ∧ w' = w.alloc (Obj.cells #[.int .u8 c0, .int .u8 c1, .int .u8 c2, .int .u8 c3, .int .u8 c4, .int .u8 c5, .int .u8 c6, .int .u8 c7, .int .u8 c8, .int .u8 c9] 115) ∧ n ≤ 9 ∧ 0 ≤ zz ∧ zz < 18446744073709551616 ∧ ([c0, c1, c2, c3, c4, c5, c6, c7, c8, c9].take n ++ venc zz.toNat = venc z.toNat))
    (fun a' _ => match a'.tmps.getD 1 undef with | .int _ q => q.toNat | _ => 0) rfl ?_ ?_
  · go_wp2
    go_step3
    go_wp2_with fail
    · go_step3
      refine ⟨rfl, ⟨1, _, _, _, _, _, _, _, _, _, _, _, _, _, _, _, _, _, _, _, _, _, _, _, _, _, _, _, rfl, rfl, by omega, by omega, by omega, ?_⟩⟩
      rw [venc_step z hz0 hz1 (by assumption)]
      rfl
    · have hL : [bits .and .u64 z 127 % 256] = venc z.toNat := (venc_stop z hz0 hz1 (by assumption)).symm
      have hC : Kd.C (Kd.int .u8) (w.alloc (Obj.cells #[.int .u8 (bits .and .u64 z 127 % 256), .int .u8 0, .int .u8 0, .int .u8 0, .int .u8 0, .int .u8 0, .int .u8 0, .int .u8 0, .int .u8 0, .int .u8 0] 115)) (some ⟨w.heap.size, 0, none⟩) 1 [bits .and .u64 z 127 % 256] := C_pre w [bits .and .u64 z 127 % 256] [.int .u8 0, .int .u8 0, .int .u8 0, .int .u8 0, .int .u8 0, .int .u8 0, .int .u8 0, .int .u8 0, .int .u8 0] 115 (by simp) _ rfl
      ((with_reducible refine (concat_two' (w.heap.size + 1) A0 (some ⟨w.heap.size, 0, none⟩) c0_ 10 1 l0 [bits .and .u64 z 127 % 256] _ rfl (pair_cells w _ _ _ _).1 (pair_cells w _ _ _ _).2 (Kd.C_alloc (Kd.C_alloc HR0.out _) _) (Kd.C_alloc hC _) (by omega)).mono ?_); rintro e_ W1 ⟨v0, rfl, ho_, hb_⟩)
      clear hC
      have HO0 := Aside0.mk (Kd.R_lower ho_ (two_below w _ _).2); have HB := Aside0.mk (below_step (two_below w _ _).1 hb_)
      rw [hL] at HO0
      clear ho_ hb_ hL
      go_wp2
      simp only [Exit.jump]
      go_ret
      exact ⟨_, rfl, HO0.out, HB.out⟩
  · rintro a' w' ⟨n, zz, c0, c1, c2, c3, c4, c5, c6, c7, c8, c9, u7, u8, u9, u10, u11, u12, u13, u14, u15, u16, u17, u18, u19, u20, u21, u22, rfl, rfl, hn, hzz, hlt, hv⟩
    have hn' : n = 0 ∨ n = 1 ∨ n = 2 ∨ n = 3 ∨ n = 4 ∨ n = 5 ∨ n = 6 ∨ n = 7 ∨ n = 8 ∨ n = 9 := by omega
    rcases hn' with rfl | rfl | rfl | rfl | rfl | rfl | rfl | rfl | rfl | rfl
    · go_wp2_with fail
      · go_step3
        refine ⟨rfl, ⟨1, _, _, _, _, _, _, _, _, _, _, _, _, _, _, _, _, _, _, _, _, _, _, _, _, _, _, _, rfl, rfl, by omega, by omega, by omega, ?_⟩, ?_⟩
        · rw [venc_step zz hzz hlt (by assumption)] at hv
          exact hv
        · show (zz / 128).toNat < zz.toNat
          omega
      · have hL : [bits .and .u64 zz 127 % 256] = venc z.toNat := by
          rw [venc_stop zz hzz hlt (by assumption)] at hv
          exact hv
        have hC : Kd.C (Kd.int .u8) (w.alloc (Obj.cells #[.int .u8 (bits .and .u64 zz 127 % 256), .int .u8 c1, .int .u8 c2, .int .u8 c3, .int .u8 c4, .int .u8 c5, .int .u8 c6, .int .u8 c7, .int .u8 c8, .int .u8 c9] 115)) (some ⟨w.heap.size, 0, none⟩) 1 [bits .and .u64 zz 127 % 256] := C_pre w [bits .and .u64 zz 127 % 256] [.int .u8 c1, .int .u8 c2, .int .u8 c3, .int .u8 c4, .int .u8 c5, .int .u8 c6, .int .u8 c7, .int .u8 c8, .int .u8 c9] 115 (by simp) _ rfl
        ((with_reducible refine (concat_two' (w.heap.size + 1) A0 (some ⟨w.heap.size, 0, none⟩) c0_ 10 1 l0 [bits .and .u64 zz 127 % 256] _ rfl (pair_cells w _ _ _ _).1 (pair_cells w _ _ _ _).2 (Kd.C_alloc (Kd.C_alloc HR0.out _) _) (Kd.C_alloc hC _) (by omega)).mono ?_); rintro e_ W1 ⟨v0, rfl, ho_, hb_⟩)
        clear hC
        have HO0 := Aside0.mk (Kd.R_lower ho_ (two_below w _ _).2); have HB := Aside0.mk (below_step (two_below w _ _).1 hb_)
        rw [hL] at HO0
        clear ho_ hb_ hL
        go_wp2
        simp only [Exit.jump]
        go_ret
        exact ⟨_, rfl, HO0.out, HB.out⟩
    · go_wp2_with fail
      · go_step3
        refine ⟨rfl, ⟨2, _, _, _, _, _, _, _, _, _, _, _, _, _, _, _, _, _, _, _, _, _, _, _, _, _, _, _, rfl, rfl, by omega, by omega, by omega, ?_⟩, ?_⟩
        · rw [venc_step zz hzz hlt (by assumption)] at hv
          exact hv
        · show (zz / 128).toNat < zz.toNat
          omega
      · have hL : [c0, bits .and .u64 zz 127 % 256] = venc z.toNat := by
          rw [venc_stop zz hzz hlt (by assumption)] at hv
          exact hv
        have hC : Kd.C (Kd.int .u8) (w.alloc (Obj.cells #[.int .u8 c0, .int .u8 (bits .and .u64 zz 127 % 256), .int .u8 c2, .int .u8 c3, .int .u8 c4, .int .u8 c5, .int .u8 c6, .int .u8 c7, .int .u8 c8, .int .u8 c9] 115)) (some ⟨w.heap.size, 0, none⟩) 2 [c0, bits .and .u64 zz 127 % 256] := C_pre w [c0, bits .and .u64 zz 127 % 256] [.int .u8 c2, .int .u8 c3, .int .u8 c4, .int .u8 c5, .int .u8 c6, .int .u8 c7, .int .u8 c8, .int .u8 c9] 115 (by simp) _ rfl
        ((with_reducible refine (concat_two' (w.heap.size + 1) A0 (some ⟨w.heap.size, 0, none⟩) c0_ 10 2 l0 [c0, bits .and .u64 zz 127 % 256] _ rfl (pair_cells w _ _ _ _).1 (pair_cells w _ _ _ _).2 (Kd.C_alloc (Kd.C_alloc HR0.out _) _) (Kd.C_alloc hC _) (by omega)).mono ?_); rintro e_ W1 ⟨v0, rfl, ho_, hb_⟩)
        clear hC
        have HO0 := Aside0.mk (Kd.R_lower ho_ (two_below w _ _).2); have HB := Aside0.mk (below_step (two_below w _ _).1 hb_)
        rw [hL] at HO0
        clear ho_ hb_ hL
        go_wp2
        simp only [Exit.jump]
        go_ret
        exact ⟨_, rfl, HO0.out, HB.out⟩
    · go_wp2_with fail
      · go_step3
        refine ⟨rfl, ⟨3, _, _, _, _, _, _, _, _, _, _, _, _, _, _, _, _, _, _, _, _, _, _, _, _, _, _, _, rfl, rfl, by omega, by omega, by omega, ?_⟩, ?_⟩
        · rw [venc_step zz hzz hlt (by assumption)] at hv
          exact hv
        · show (zz / 128).toNat < zz.toNat
          omega
      · have hL : [c0, c1, bits .and .u64 zz 127 % 256] = venc z.toNat := by
          rw [venc_stop zz hzz hlt (by assumption)] at hv
          exact hv
        have hC : Kd.C (Kd.int .u8) (w.alloc (Obj.cells #[.int .u8 c0, .int .u8 c1, .int .u8 (bits .and .u64 zz 127 % 256), .int .u8 c3, .int .u8 c4, .int .u8 c5, .int .u8 c6, .int .u8 c7, .int .u8 c8, .int .u8 c9] 115)) (some ⟨w.heap.size, 0, none⟩) 3 [c0, c1, bits .and .u64 zz 127 % 256] := C_pre w [c0, c1, bits .and .u64 zz 127 % 256] [.int .u8 c3, .int .u8 c4, .int .u8 c5, .int .u8 c6, .int .u8 c7, .int .u8 c8, .int .u8 c9] 115 (by simp) _ rfl
        ((with_reducible refine (concat_two' (w.heap.size + 1) A0 (some ⟨w.heap.size, 0, none⟩) c0_ 10 3 l0 [c0, c1, bits .and .u64 zz 127 % 256] _ rfl (pair_cells w _ _ _ _).1 (pair_cells w _ _ _ _).2 (Kd.C_alloc (Kd.C_alloc HR0.out _) _) (Kd.C_alloc hC _) (by omega)).mono ?_); rintro e_ W1 ⟨v0, rfl, ho_, hb_⟩)
        clear hC
        have HO0 := Aside0.mk (Kd.R_lower ho_ (two_below w _ _).2); have HB := Aside0.mk (below_step (two_below w _ _).1 hb_)
        rw [hL] at HO0
        clear ho_ hb_ hL
        go_wp2
        simp only [Exit.jump]
        go_ret
        exact ⟨_, rfl, HO0.out, HB.out⟩
    · go_wp2_with fail
      · go_step3
        refine ⟨rfl, ⟨4, _, _, _, _, _, _, _, _, _, _, _, _, _, _, _, _, _, _, _, _, _, _, _, _, _, _, _, rfl, rfl, by omega, by omega, by omega, ?_⟩, ?_⟩
        · rw [venc_step zz hzz hlt (by assumption)] at hv
          exact hv
        · show (zz / 128).toNat < zz.toNat
          omega
      · have hL : [c0, c1, c2, bits .and .u64 zz 127 % 256] = venc z.toNat := by
          rw [venc_stop zz hzz hlt (by assumption)] at hv
          exact hv
        have hC : Kd.C (Kd.int .u8) (w.alloc (Obj.cells #[.int .u8 c0, .int .u8 c1, .int .u8 c2, .int .u8 (bits .and .u64 zz 127 % 256), .int .u8 c4, .int .u8 c5, .int .u8 c6, .int .u8 c7, .int .u8 c8, .int .u8 c9] 115)) (some ⟨w.heap.size, 0, none⟩) 4 [c0, c1, c2, bits .and .u64 zz 127 % 256] := C_pre w [c0, c1, c2, bits .and .u64 zz 127 % 256] [.int .u8 c4, .int .u8 c5, .int .u8 c6, .int .u8 c7, .int .u8 c8, .int .u8 c9] 115 (by simp) _ rfl
        ((with_reducible refine (concat_two' (w.heap.size + 1) A0 (some ⟨w.heap.size, 0, none⟩) c0_ 10 4 l0 [c0, c1, c2, bits .and .u64 zz 127 % 256] _ rfl (pair_cells w _ _ _ _).1 (pair_cells w _ _ _ _).2 (Kd.C_alloc (Kd.C_alloc HR0.out _) _) (Kd.C_alloc hC _) (by omega)).mono ?_); rintro e_ W1 ⟨v0, rfl, ho_, hb_⟩)
        clear hC
        have HO0 := Aside0.mk (Kd.R_lower ho_ (two_below w _ _).2); have HB := Aside0.mk (below_step (two_below w _ _).1 hb_)
        rw [hL] at HO0
        clear ho_ hb_ hL
        go_wp2
        simp only [Exit.jump]
        go_ret
        exact ⟨_, rfl, HO0.out, HB.out⟩
    · go_wp2_with fail
      · go_step3
        refine ⟨rfl, ⟨5, _, _, _, _, _, _, _, _, _, _, _, _, _, _, _, _, _, _, _, _, _, _, _, _, _, _, _, rfl, rfl, by omega, by omega, by omega, ?_⟩, ?_⟩
        · rw [venc_step zz hzz hlt (by assumption)] at hv
          exact hv
        · show (zz / 128).toNat < zz.toNat
          omega
      · have hL : [c0, c1, c2, c3, bits .and .u64 zz 127 % 256] = venc z.toNat := by
          rw [venc_stop zz hzz hlt (by assumption)] at hv
          exact hv
        have hC : Kd.C (Kd.int .u8) (w.alloc (Obj.cells #[.int .u8 c0, .int .u8 c1, .int .u8 c2, .int .u8 c3, .int .u8 (bits .and .u64 zz 127 % 256), .int .u8 c5, .int .u8 c6, .int .u8 c7, .int .u8 c8, .int .u8 c9] 115)) (some ⟨w.heap.size, 0, none⟩) 5 [c0, c1, c2, c3, bits .and .u64 zz 127 % 256] := C_pre w [c0, c1, c2, c3, bits .and .u64 zz 127 % 256] [.int .u8 c5, .int .u8 c6, .int .u8 c7, .int .u8 c8, .int .u8 c9] 115 (by simp) _ rfl
        ((with_reducible refine (concat_two' (w.heap.size + 1) A0 (some ⟨w.heap.size, 0, none⟩) c0_ 10 5 l0 [c0, c1, c2, c3, bits .and .u64 zz 127 % 256] _ rfl (pair_cells w _ _ _ _).1 (pair_cells w _ _ _ _).2 (Kd.C_alloc (Kd.C_alloc HR0.out _) _) (Kd.C_alloc hC _) (by omega)).mono ?_); rintro e_ W1 ⟨v0, rfl, ho_, hb_⟩)
        clear hC
        have HO0 := Aside0.mk (Kd.R_lower ho_ (two_below w _ _).2); have HB := Aside0.mk (below_step (two_below w _ _).1 hb_)
        rw [hL] at HO0
        clear ho_ hb_ hL
        go_wp2
        simp only [Exit.jump]
        go_ret
        exact ⟨_, rfl, HO0.out, HB.out⟩
    · go_wp2_with fail
      · go_step3
        refine ⟨rfl, ⟨6, _, _, _, _, _, _, _, _, _, _, _, _, _, _, _, _, _, _, _, _, _, _, _, _, _, _, _, rfl, rfl, by omega, by omega, by omega, ?_⟩, ?_⟩
        · rw [venc_step zz hzz hlt (by assumption)] at hv
          exact hv
        · show (zz / 128).toNat < zz.toNat
          omega
      · have hL : [c0, c1, c2, c3, c4, bits .and .u64 zz 127 % 256] = venc z.toNat := by
          rw [venc_stop zz hzz hlt (by assumption)] at hv
          exact hv
        have hC : Kd.C (Kd.int .u8) (w.alloc (Obj.cells #[.int .u8 c0, .int .u8 c1, .int .u8 c2, .int .u8 c3, .int .u8 c4, .int .u8 (bits .and .u64 zz 127 % 256), .int .u8 c6, .int .u8 c7, .int .u8 c8, .int .u8 c9] 115)) (some ⟨w.heap.size, 0, none⟩) 6 [c0, c1, c2, c3, c4, bits .and .u64 zz 127 % 256] := C_pre w [c0, c1, c2, c3, c4, bits .and .u64 zz 127 % 256] [.int .u8 c6, .int .u8 c7, .int .u8 c8, .int .u8 c9] 115 (by simp) _ rfl
        ((with_reducible refine (concat_two' (w.heap.size + 1) A0 (some ⟨w.heap.size, 0, none⟩) c0_ 10 6 l0 [c0, c1, c2, c3, c4, bits .and .u64 zz 127 % 256] _ rfl (pair_cells w _ _ _ _).1 (pair_cells w _ _ _ _).2 (Kd.C_alloc (Kd.C_alloc HR0.out _) _) (Kd.C_alloc hC _) (by omega)).mono ?_); rintro e_ W1 ⟨v0, rfl, ho_, hb_⟩)
        clear hC
        have HO0 := Aside0.mk (Kd.R_lower ho_ (two_below w _ _).2); have HB := Aside0.mk (below_step (two_below w _ _).1 hb_)
        rw [hL] at HO0
        clear ho_ hb_ hL
        go_wp2
        simp only [Exit.jump]
        go_ret
        exact ⟨_, rfl, HO0.out, HB.out⟩
    · go_wp2_with fail
      · go_step3
        refine ⟨rfl, ⟨7, _, _, _, _, _, _, _, _, _, _, _, _, _, _, _, _, _, _, _, _, _, _, _, _, _, _, _, rfl, rfl, by omega, by omega, by omega, ?_⟩, ?_⟩
        · rw [venc_step zz hzz hlt (by assumption)] at hv
          exact hv
        · show (zz / 128).toNat < zz.toNat
          omega
      · have hL : [c0, c1, c2, c3, c4, c5, bits .and .u64 zz 127 % 256] = venc z.toNat := by
          rw [venc_stop zz hzz hlt (by assumption)] at hv
          exact hv
        have hC : Kd.C (Kd.int .u8) (w.alloc (Obj.cells #[.int .u8 c0, .int .u8 c1, .int .u8 c2, .int .u8 c3, .int .u8 c4, .int .u8 c5, .int .u8 (bits .and .u64 zz 127 % 256), .int .u8 c7, .int .u8 c8, .int .u8 c9] 115)) (some ⟨w.heap.size, 0, none⟩) 7 [c0, c1, c2, c3, c4, c5, bits .and .u64 zz 127 % 256] := C_pre w [c0, c1, c2, c3, c4, c5, bits .and .u64 zz 127 % 256] [.int .u8 c7, .int .u8 c8, .int .u8 c9] 115 (by simp) _ rfl
        ((with_reducible refine (concat_two' (w.heap.size + 1) A0 (some ⟨w.heap.size, 0, none⟩) c0_ 10 7 l0 [c0, c1, c2, c3, c4, c5, bits .and .u64 zz 127 % 256] _ rfl (pair_cells w _ _ _ _).1 (pair_cells w _ _ _ _).2 (Kd.C_alloc (Kd.C_alloc HR0.out _) _) (Kd.C_alloc hC _) (by omega)).mono ?_); rintro e_ W1 ⟨v0, rfl, ho_, hb_⟩)
        clear hC
        have HO0 := Aside0.mk (Kd.R_lower ho_ (two_below w _ _).2); have HB := Aside0.mk (below_step (two_below w _ _).1 hb_)
        rw [hL] at HO0
        clear ho_ hb_ hL
        go_wp2
        simp only [Exit.jump]
        go_ret
        exact ⟨_, rfl, HO0.out, HB.out⟩
    · go_wp2_with fail
      · go_step3
        refine ⟨rfl, ⟨8, _, _, _, _, _, _, _, _, _, _, _, _, _, _, _, _, _, _, _, _, _, _, _, _, _, _, _, rfl, rfl, by omega, by omega, by omega, ?_⟩, ?_⟩
        · rw [venc_step zz hzz hlt (by assumption)] at hv
          exact hv
        · show (zz / 128).toNat < zz.toNat
          omega
      · have hL : [c0, c1, c2, c3, c4, c5, c6, bits .and .u64 zz 127 % 256] = venc z.toNat := by
          rw [venc_stop zz hzz hlt (by assumption)] at hv
          exact hv
        have hC : Kd.C (Kd.int .u8) (w.alloc (Obj.cells #[.int .u8 c0, .int .u8 c1, .int .u8 c2, .int .u8 c3, .int .u8 c4, .int .u8 c5, .int .u8 c6, .int .u8 (bits .and .u64 zz 127 % 256), .int .u8 c8, .int .u8 c9] 115)) (some ⟨w.heap.size, 0, none⟩) 8 [c0, c1, c2, c3, c4, c5, c6, bits .and .u64 zz 127 % 256] := C_pre w [c0, c1, c2, c3, c4, c5, c6, bits .and .u64 zz 127 % 256] [.int .u8 c8, .int .u8 c9] 115 (by simp) _ rfl
        ((with_reducible refine (concat_two' (w.heap.size + 1) A0 (some ⟨w.heap.size, 0, none⟩) c0_ 10 8 l0 [c0, c1, c2, c3, c4, c5, c6, bits .and .u64 zz 127 % 256] _ rfl (pair_cells w _ _ _ _).1 (pair_cells w _ _ _ _).2 (Kd.C_alloc (Kd.C_alloc HR0.out _) _) (Kd.C_alloc hC _) (by omega)).mono ?_); rintro e_ W1 ⟨v0, rfl, ho_, hb_⟩)
        clear hC
        have HO0 := Aside0.mk (Kd.R_lower ho_ (two_below w _ _).2); have HB := Aside0.mk (below_step (two_below w _ _).1 hb_)
        rw [hL] at HO0
        clear ho_ hb_ hL
        go_wp2
        simp only [Exit.jump]
        go_ret
        exact ⟨_, rfl, HO0.out, HB.out⟩
    · go_wp2_with fail
      · go_step3
        refine ⟨rfl, ⟨9, _, _, _, _, _, _, _, _, _, _, _, _, _, _, _, _, _, _, _, _, _, _, _, _, _, _, _, rfl, rfl, by omega, by omega, by omega, ?_⟩, ?_⟩
        · rw [venc_step zz hzz hlt (by assumption)] at hv
          exact hv
        · show (zz / 128).toNat < zz.toNat
          omega
      · have hL : [c0, c1, c2, c3, c4, c5, c6, c7, bits .and .u64 zz 127 % 256] = venc z.toNat := by
          rw [venc_stop zz hzz hlt (by assumption)] at hv
          exact hv
        have hC : Kd.C (Kd.int .u8) (w.alloc (Obj.cells #[.int .u8 c0, .int .u8 c1, .int .u8 c2, .int .u8 c3, .int .u8 c4, .int .u8 c5, .int .u8 c6, .int .u8 c7, .int .u8 (bits .and .u64 zz 127 % 256), .int .u8 c9] 115)) (some ⟨w.heap.size, 0, none⟩) 9 [c0, c1, c2, c3, c4, c5, c6, c7, bits .and .u64 zz 127 % 256] := C_pre w [c0, c1, c2, c3, c4, c5, c6, c7, bits .and .u64 zz 127 % 256] [.int .u8 c9] 115 (by simp) _ rfl
        ((with_reducible refine (concat_two' (w.heap.size + 1) A0 (some ⟨w.heap.size, 0, none⟩) c0_ 10 9 l0 [c0, c1, c2, c3, c4, c5, c6, c7, bits .and .u64 zz 127 % 256] _ rfl (pair_cells w _ _ _ _).1 (pair_cells w _ _ _ _).2 (Kd.C_alloc (Kd.C_alloc HR0.out _) _) (Kd.C_alloc hC _) (by omega)).mono ?_); rintro e_ W1 ⟨v0, rfl, ho_, hb_⟩)
        clear hC
        have HO0 := Aside0.mk (Kd.R_lower ho_ (two_below w _ _).2); have HB := Aside0.mk (below_step (two_below w _ _).1 hb_)
        rw [hL] at HO0
        clear ho_ hb_ hL
        go_wp2
        simp only [Exit.jump]
        go_ret
        exact ⟨_, rfl, HO0.out, HB.out⟩
    · go_wp2_with fail
      · exfalso
        rw [venc_step zz hzz hlt (by assumption)] at hv
        have h1 := congrArg List.length hv
        have h2 := venc_len64 hz1
        have h3 := venc_pos (zz / 128).toNat
        simp at h1
        omega
      · have hL : [c0, c1, c2, c3, c4, c5, c6, c7, c8, bits .and .u64 zz 127 % 256] = venc z.toNat := by
          rw [venc_stop zz hzz hlt (by assumption)] at hv
          exact hv
        have hC : Kd.C (Kd.int .u8) (w.alloc (Obj.cells #[.int .u8 c0, .int .u8 c1, .int .u8 c2, .int .u8 c3, .int .u8 c4, .int .u8 c5, .int .u8 c6, .int .u8 c7, .int .u8 c8, .int .u8 (bits .and .u64 zz 127 % 256)] 115)) (some ⟨w.heap.size, 0, none⟩) 10 [c0, c1, c2, c3, c4, c5, c6, c7, c8, bits .and .u64 zz 127 % 256] := C_pre w [c0, c1, c2, c3, c4, c5, c6, c7, c8, bits .and .u64 zz 127 % 256] [] 115 (by simp) _ rfl
        ((with_reducible refine (concat_two' (w.heap.size + 1) A0 (some ⟨w.heap.size, 0, none⟩) c0_ 10 10 l0 [c0, c1, c2, c3, c4, c5, c6, c7, c8, bits .and .u64 zz 127 % 256] _ rfl (pair_cells w _ _ _ _).1 (pair_cells w _ _ _ _).2 (Kd.C_alloc (Kd.C_alloc HR0.out _) _) (Kd.C_alloc hC _) (by omega)).mono ?_); rintro e_ W1 ⟨v0, rfl, ho_, hb_⟩)
        clear hC
        have HO0 := Aside0.mk (Kd.R_lower ho_ (two_below w _ _).2); have HB := Aside0.mk (below_step (two_below w _ _).1 hb_)
        rw [hL] at HO0
        clear ho_ hb_ hL
        go_wp2
        simp only [Exit.jump]
        go_ret
        exact ⟨_, rfl, HO0.out, HB.out⟩
end Go.Proofs.YteidgpaakoeefaaDoor
namespace Go.Proofs.YteidgpaakoeefaaDoor
open Go.RowKit Go.Proofs.YteidgpaakoeefaaDoorW.PrintWords Go.Proofs.YteidgpaakoeefaaDoorW.PrintLast Go.Proofs.YteidgpaakoeefaaDoorW.PrintMore
set_option linter.unusedVariables false
set_option maxRecDepth 100000
set_option linter.unusedSimpArgs false
def RF (base : Nat) (w : World) (v : Value) (xs sp : List Int) : Prop :=
  (v = .slice none 0 0 ∧ xs = [] ∧ sp = []) ∨
  ∃ g, v = .slice (some ⟨g, 0, none⟩) xs.length (xs.length + sp.length) ∧ base ≤ g ∧ w.heap[g]? = some (.cells ((xs ++ sp).map (Value.int .u8)).toArray 5 (0, 0)) ∧
    xs.length + sp.length ≤ maxLen ∧ ∀ x ∈ sp, 0 ≤ x ∧ x < 256
theorem RF.nil (base : Nat) (w : World) : RF base w (.slice none 0 0) [] [] := .inl ⟨rfl, rfl, rfl⟩
theorem RF.lower {base base' : Nat} {w : World} {v : Value} {xs sp : List Int} (h : RF base w v xs sp) (hb : base' ≤ base) : RF base' w v xs sp := by
  rcases h with h | ⟨g, h1, h2, h3⟩
  · exact .inl h
  · exact .inr ⟨g, h1, Nat.le_trans hb h2, h3⟩
theorem RF.below {base : Nat} {w w1 : World} {v : Value} {xs sp : List Int} (h : RF base w v xs sp) (hb : Below w.heap.size w w1) : RF base w1 v xs sp := by
  rcases h with h | ⟨g, h1, h2, h3, h4⟩
  · exact .inl h
  · refine .inr ⟨g, h1, h2, ?_, h4⟩
    rw [hb.block g (Array.getElem?_eq_some_iff.1 h3).1]
    exact h3
theorem RF.R {base : Nat} {w : World} {v : Value} {xs sp : List Int} (h : RF base w v xs sp) : Kd.R (Kd.int .u8) 5 w base (fun _ => True) v xs := by
  refine Kd.R_of_own (h1 := fun _ => rfl) (ok := fun _ => True) ?_ (fun _ _ => trivial)
  rcases h with ⟨rfl, rfl, rfl⟩ | ⟨g, rfl, h2, h3, h4, h5⟩
  · exact World.ownsRow_nil _ _ _ _
  · refine ⟨by simp [encs], .inr ⟨g, _, _, rfl, h2, h3, by omega, h4, by simp, ?_⟩⟩
    have : ((xs ++ sp).map (Value.int .u8)).toArray.toList.take (xs.length * 1) = encs (Value.int .u8) xs := by
      rw [Nat.mul_one]
      show ((xs ++ sp).map (Value.int .u8)).take xs.length = _
      rw [List.map_append, List.take_left' (by simp)]
      rfl
    exact this
theorem zeros_one (n : Nat) : Builtin.zeroCells #[.int .u8 0] n = ((List.replicate n (0 : Int)).map (Value.int .u8)).toArray := by
  apply Array.ext
  · simp [Builtin.zeroCells]
  · intro i h1 h2
    simp [Builtin.zeroCells, Nat.mod_one]
theorem zeros_range (n : Nat) : ∀ x ∈ List.replicate n (0 : Int), 0 ≤ x ∧ x < 256 := by
  intro x hx
  obtain rfl := (List.mem_replicate.1 hx).2
  decide
theorem alloc_grown (w : World) (o : Obj) (row : Option Nat) : w.grownBy (w.drew.alloc o) row := ⟨rfl, rfl, rfl, by simp, fun k hk _ => heap_alloc_old w.drew _ hk⟩
theorem setRow_grown (w : World) (g : Nat) (cs : Array Value) : w.grownBy (w.setRow g cs) (some g) := ⟨rfl, rfl, rfl, by simp, fun k hk hne => setRow_other w g k _ (fun e => hne (by rw [e]))⟩
theorem rd_get' {l : List Int} {i : Nat} (h : i < l.length) : rd l (i : Int) = l[i] := by
  unfold rd
  rw [Int.toNat_natCast]
  simp [h]
theorem C_cells {w : World} {ad : Addr} {m : Nat} {ys : List Int} (hr : Kd.C (Kd.int .u8) w (some ad) m ys) (hm : m = ys.length) :
    ∀ j v, (ys.map (Value.int .u8))[j]? = some v → w.cell? (ad.add j) = some v := by
  intro j v hj
  obtain ⟨x, hx, rfl⟩ : ∃ x, ys[j]? = some x ∧ v = .int .u8 x := by
    rw [List.getElem?_map] at hj
    cases hg : ys[j]? with
    | none => rw [hg] at hj; simp at hj
    | some x => rw [hg] at hj; simp at hj; exact ⟨x, rfl, hj.symm⟩
  have hjl : j < ys.length := (List.getElem?_eq_some_iff.1 hx).1
  obtain ⟨ad2, e, hc⟩ := Kd.at_int hr (j : Int) (by omega) (by omega)
  cases e
  rw [Int.toNat_natCast, rd_get' hjl] at hc
  rw [hc, (List.getElem?_eq_some_iff.1 hx).2]
theorem C_none {w : World} {m : Nat} {ys : List Int} (hr : Kd.C (Kd.int .u8) w none m ys) : m = 0 := by
  rcases Nat.eq_zero_or_pos m with h0 | h0
  · exact h0
  · obtain ⟨ad, h, _⟩ := hr.2.2 h0
    cases h
theorem RF.laid {base : Nat} {w : World} (xs : List Int) (c : Nat) (hb : base ≤ w.heap.size) (hc : xs.length ≤ c) (hm : c ≤ maxLen) (cs : Array Value)
    (hcs : cs = (xs.map (Value.int .u8)).toArray ++ ((List.replicate (c - xs.length) (0 : Int)).map (Value.int .u8)).toArray) :
    RF base (w.drew.alloc (.cells cs 5)) (.slice (some ⟨w.heap.size, 0, none⟩) xs.length c) xs (List.replicate (c - xs.length) 0) := by
  subst hcs
  refine .inr ⟨w.heap.size, by simp; omega, hb, ?_, by simp; omega, zeros_range _⟩
  have he : ((xs ++ List.replicate (c - xs.length) 0).map (Value.int .u8)).toArray = (xs.map (Value.int .u8)).toArray ++ ((List.replicate (c - xs.length) (0 : Int)).map (Value.int .u8)).toArray := by simp
  rw [he]
  exact heap_alloc_new w.drew _
theorem rf_rows (base : Nat) (w : World) (ty : TypeId) (v : Value) (xs sp : List Int) (h : RF base w v xs sp) (A : Option Addr) (m c : Nat) (ys : List Int) (hr : Kd.C (Kd.int .u8) w A m ys) (hl : xs.length + m ≤ 140737488355328) (hb : base ≤ w.heap.size) :
    ∃ v1 w1 sp1, (Builtin.append_ #[30, 30] ty #[v, .slice A m c]).run Tryd.prog w = .ok v1 w1 ∧ RF base w1 v1 (xs ++ ys) sp1 ∧ w.grownBy w1 v.ownBlock := by
  obtain ⟨i0, hi0, hz0, hsz0, hby0⟩ := info_parts infoB
  have hu := Tryd.underlying30
  have hm : m = ys.length := hr.1.symm
  by_cases h0 : m = 0
  · subst h0
    obtain rfl : ys = [] := List.eq_nil_of_length_eq_zero hm.symm
    refine ⟨v, w, sp, ?_, by rw [List.append_nil]; exact h, World.grownBy.refl w _⟩
    rcases h with ⟨rfl, rfl, rfl⟩ | ⟨g, rfl, h2, h3, h4, h5⟩
    · cases A <;> simp [Builtin.append_, run_underlying hu, sizeOf, typeInfo, hi0, Builtin.lenOf, Builtin.firstCells, loadCells, loadCellsFrom]
    · cases A <;> simp [Builtin.append_, run_underlying hu, sizeOf, typeInfo, hi0, Builtin.lenOf, Builtin.firstCells, storeCells, loadCells, loadCellsFrom]
  · cases A with
    | none => exact absurd (C_none hr) h0
    | some ad =>
      have hnews := C_cells hr hm
      have hone : ∀ u ∈ ys.map (Value.int .u8), u.oneCell' = true := by
        intro u hu
        obtain ⟨x, _, rfl⟩ := List.mem_map.1 hu
        rfl
      have hnl : (ys.map (Value.int .u8)).length = m * i0.size := by rw [hsz0, Nat.mul_one, List.length_map, hm]
      rcases h with ⟨rfl, rfl, rfl⟩ | ⟨g, rfl, h2, h3, h4, h5⟩
      · have hrun := run_append_nil (P := Tryd.prog) w 30 ty 5 i0 (.int .u8 0) hu hi0 hz0 ad m c _ hnl hnews (by omega) (by simp at hl; omega) (by rw [hby0]; simp at hl; omega)
        have hge := grownCap_ge w m 0 5
        have hcm := grownCap_le_maxLen w m 0 5 (by simp only [maxLen]; simp at hl; omega)
        refine ⟨_, _, List.replicate (grownCap w m 0 5 - m) 0, hrun, ?_, alloc_grown w _ _⟩
        rw [List.nil_append]
        generalize grownCap w m 0 5 = cc at *
        subst hm
        exact RF.laid (w := w) ys cc hb hge hcm _ (by rw [← zeros_one]; rfl)
      · by_cases hroom : xs.length + m ≤ xs.length + sp.length
        · have hrun := run_append_room (P := Tryd.prog) w 30 ty 5 i0 hu hi0 g xs.length (xs.length + sp.length) _ h3 ad m c _ hnl hnews hone hroom (by rw [hsz0, hnl, hsz0]; simp; omega)
          refine ⟨_, _, sp.drop m, hrun, .inr ⟨g, ?_, h2, ?_, ?_, fun x hx => h5 x (List.mem_of_mem_drop hx)⟩, setRow_grown _ _ _⟩
          · simp only [List.length_append, List.length_drop, hm]
            congr 1
            omega
          · rw [setRow_heap w g _ _ 5 (0, 0) h3]
            congr 2
            rw [hsz0, Nat.mul_one, List.length_map, ← hm]
            apply Array.ext'
            simp [List.take_append, List.drop_append, List.map_append, List.map_drop, List.append_assoc]
          · simp only [List.length_append, List.length_drop]
            omega
        · have holds : ∀ j u, (xs.map (Value.int .u8))[j]? = some u → w.cell? ((⟨g, 0, none⟩ : Addr).add j) = some u := by
            intro j u hj
            rw [add_plain]
            rw [cell_of_row w g j _ _ _ h3]
            have hjl : j < (xs.map (Value.int .u8)).length := (List.getElem?_eq_some_iff.1 hj).1
            rw [← hj]
            simp only [List.getElem?_toArray, List.map_append]
            rw [List.getElem?_append_left hjl]
          have hlt : xs.length + sp.length < xs.length + m := by omega
          have hrun := run_append_grow (P := Tryd.prog) w 30 ty 5 i0 (.int .u8 0) hu hi0 hz0 ⟨g, 0, none⟩ xs.length (xs.length + sp.length) (xs.map (Value.int .u8)) (by rw [hsz0]; simp) holds ad m c _ hnl hnews hlt (by omega) (by rw [hby0]; exact growslice_fits hlt (by omega))
          have hge := grownCap_ge w (xs.length + m) (xs.length + sp.length) 5
          have hcm := grownCap_le_maxLen w (xs.length + m) (xs.length + sp.length) 5 (by simp only [maxLen]; omega)
          refine ⟨_, _, List.replicate (grownCap w (xs.length + m) (xs.length + sp.length) 5 - (xs.length + m)) 0, hrun, ?_, alloc_grown w _ _⟩
          generalize grownCap w (xs.length + m) (xs.length + sp.length) 5 = cc at *
          subst hm
          have := RF.laid (base := base) (w := w) (xs ++ ys) cc hb (by simp; omega) hcm ((xs.map (Value.int .u8)).toArray ++ (ys.map (Value.int .u8)).toArray ++ Builtin.zeroCells #[.int .u8 0] (cc - (xs.length + ys.length))) (by rw [zeros_one]; simp)
          rw [List.length_append] at this
          exact this
theorem rf_zeros (base : Nat) (w : World) (ty : TypeId) (n : Int) (hn : 0 < n) (hl : n ≤ 140737488355328) (hb : base ≤ w.heap.size) :
    ∃ v1 w1 sp1, (Builtin.append_ #[30, 3] ty #[.slice none 0 0, .int .i64 n]).run Tryd.prog w = .ok v1 w1 ∧ RF base w1 v1 (List.replicate n.toNat 0) sp1 ∧ w.grownBy w1 none := by
  obtain ⟨i0, hi0, hz0, hsz0, hby0⟩ := info_parts infoB
  have hu := Tryd.underlying30
  have hu2 := Tryd.underlying3
  obtain ⟨m, rfl⟩ : ∃ m : Nat, n = (m : Int) := ⟨n.toNat, by omega⟩
  rw [Int.toNat_natCast]
  have hw : IntKind.i64.wrap (m : Int) = m := by rw [IntKind.wrap_i64]; omega
  have hneg : ¬ ((m : Int) < 0) := by omega
  have hbig : ¬ (281474976710656 < (m : Int) * (i0.bytes : Int)) := by rw [hby0]; omega
  have hmz : ¬ (m * i0.size = 0) := by rw [hsz0]; omega
  have hn : m ≠ 0 := by omega
  have h63' : ¬ (9223372036854775807 < (m : Int)) := by omega
  have h48' : ¬ (281474976710656 < Builtin.nextslicecap m 0 * i0.bytes) := by rw [nextslicecap_zero (by omega), hby0]; omega
  have hrun : (Builtin.append_ #[30, 3] ty #[.slice none 0 0, .int .i64 (m : Int)]).run Tryd.prog w =
      .ok (.slice (some ⟨w.heap.size, 0, none⟩) m (grownCap w m 0 5)) (w.drew.alloc (.cells (Builtin.zeroCells #[.int .u8 0] m ++ Builtin.zeroCells #[.int .u8 0] (grownCap w m 0 5 - m)) 5)) := by
    simp [Builtin.append_, run_underlying hu, run_underlying hu2, sizeOf, typeInfo, zeroValue, hi0, hz0, asInt, asIntOf, hw, hneg, hbig, hn, h63', h48', Question.forced, run_firstCells_none, newRow, grownCap, hmz]
    rfl
  have hge := grownCap_ge w m 0 5
  have hcm := grownCap_le_maxLen w m 0 5 (by simp only [maxLen]; omega)
  refine ⟨_, _, List.replicate (grownCap w m 0 5 - m) 0, hrun, ?_, alloc_grown w _ _⟩
  generalize grownCap w m 0 5 = cc at *
  have := RF.laid (base := base) (w := w) (List.replicate m 0) cc hb (by simpa using hge) hcm (Builtin.zeroCells #[.int .u8 0] m ++ Builtin.zeroCells #[.int .u8 0] (cc - m)) (by rw [zeros_one, zeros_one]; simp)
  rw [List.length_replicate] at this
  exact this
theorem RF.base {base : Nat} {w : World} {v : Value} {xs sp : List Int} (h : RF base w v xs sp) (k : Nat) (hk : v.ownBlock = some k) : base ≤ k := by
  rcases h with ⟨rfl, rfl, rfl⟩ | ⟨g, rfl, h2, h3, h4, h5⟩
  · simp [Value.ownBlock] at hk
  · simp [Value.ownBlock] at hk; omega
section
variable {ops : Array Oper} {rest : List Oper} {o : Oper} {a : Act} {Q : Exit → Act → World → Prop}
theorem wp_rf_rows {w0 W : World} (base : Nat) (hgd : o.guard = none) (s x : Operand)
    (ho : o.op = .call { callee := .builtin .append, args := #[s, x], argTypes := #[30, 30] })
    (v : Value) (xs sp ys : List Int) (A : Option Addr) (m c : Nat) (hs : a.eval s = v) (hx : a.eval x = .slice A m c)
    (HO : RF base W v xs sp) (HR : Kd.C (Kd.int .u8) W A m ys) (HB : Below base w0 W) (hbase : base ≤ W.heap.size) (hl : xs.length + m ≤ 140737488355328)
    (h : ∀ v1 w1 sp1, RF base w1 v1 (xs ++ ys) sp1 → Below base w0 w1 → W.grownBy w1 v.ownBlock → wpList Tryd.prog ops Q rest (a.put o.dst v1) w1) :
    wpList Tryd.prog ops Q (o :: rest) a W := by
  obtain ⟨v1, w1, sp1, hr1, h1, hg⟩ := rf_rows base W o.type v xs sp HO A m c ys HR hl hbase
  refine wpList_plain hgd fun K hK => ?_
  unfold Oper.wp execOp
  simp only [ho, resolve, invoke, builtin, Sem.run_bind, Sem.run_pure, Result.andThen_ok, List.map_toArray, List.map_cons, List.map_nil, hs, hx, hr1]
  exact hK _ _ (h v1 w1 sp1 h1 (HB.grown hg hbase HO.base) hg)
theorem wp_rf_zeros {w0 W : World} (base : Nat) (hgd : o.guard = none) (s x : Operand)
    (ho : o.op = .call { callee := .builtin .append, args := #[s, x], argTypes := #[30, 3] })
    (n : Int) (hs : a.eval s = .slice none 0 0) (hx : a.eval x = .int .i64 n) (hn : 0 < n)
    (HB : Below base w0 W) (hbase : base ≤ W.heap.size) (hl : n ≤ 140737488355328)
    (h : ∀ v1 w1 sp1, RF base w1 v1 (List.replicate n.toNat 0) sp1 → Below base w0 w1 → wpList Tryd.prog ops Q rest (a.put o.dst v1) w1) :
    wpList Tryd.prog ops Q (o :: rest) a W := by
  obtain ⟨v1, w1, sp1, hr1, h1, hg⟩ := rf_zeros base W o.type n hn hl hbase
  refine wpList_plain hgd fun K hK => ?_
  unfold Oper.wp execOp
  simp only [ho, resolve, invoke, builtin, Sem.run_bind, Sem.run_pure, Result.andThen_ok, List.map_toArray, List.map_cons, List.map_nil, hs, hx, hr1]
  exact hK _ _ (h v1 w1 sp1 h1 (HB.grown hg hbase (fun k hk => by cases hk)))
end
end Go.Proofs.YteidgpaakoeefaaDoor
namespace Go.Proofs.YteidgpaakoeefaaDoor
open Go.RowKit Go.Proofs.YteidgpaakoeefaaDoorW.PrintWords Go.Proofs.YteidgpaakoeefaaDoorW.PrintLast Go.Proofs.YteidgpaakoeefaaDoorW.PrintMore
set_option linter.unusedVariables false
set_option linter.unusedSimpArgs false
def rdw (most : Int) : List Int → Int → Int → Int × Int × Int
  | [], i, _ => if most ≤ i then (0, 0, 20) else (0, 0, 3)
  | c :: cs, i, acc =>
    if i = most ∨ (i = 9 ∧ 1 < c) then (0, 0, 20)
    else if c < 128 then (if c = 0 ∧ 0 < i then (0, 0, 20) else (acc + c * (128 ^ i.toNat : Nat), i + 1, 0))
    else rdw most cs (i + 1) (acc + (c - 128) * (128 ^ i.toNat : Nat))
def tk (l : List Int) (at_ most : Int) : Int × Int × Int :=
  if at_ < 0 ∨ (l.length : Int) < at_ then (0, 0, 1)
  else if (rdw most (l.drop at_.toNat) 0 0).2.2 = 0 then ((rdw most (l.drop at_.toNat) 0 0).1, at_ + (rdw most (l.drop at_.toNat) 0 0).2.1, 0)
  else (0, 0, (rdw most (l.drop at_.toNat) 0 0).2.2)
theorem u8_and127' (c : Int) (h0 : 0 ≤ c) (h1 : c < 256) : bits .and .u8 c 127 = c % 128 := by
  exact bits_mask .u8 8 (by decide) wraps_u8 7 (by decide) c h0 h1
theorem w64id (x : Int) (h0 : 0 ≤ x) (h1 : x < 18446744073709551616) : IntKind.u64.wrap x = x := by
  show x % 18446744073709551616 = x
  omega
theorem mul_pow_lt (b n : Nat) (hn : n ≤ 9) (hb : b < 128) (h9 : n = 9 → b ≤ 1) : b * 128 ^ n < 18446744073709551616 := by
  have h : n = 0 ∨ n = 1 ∨ n = 2 ∨ n = 3 ∨ n = 4 ∨ n = 5 ∨ n = 6 ∨ n = 7 ∨ n = 8 ∨ n = 9 := by omega
  rcases h with rfl | rfl | rfl | rfl | rfl | rfl | rfl | rfl | rfl | rfl <;> simp at h9 ⊢ <;> omega
theorem shl_or (z c : Int) (n : Nat) (hn : n ≤ 9) (hz0 : 0 ≤ z) (hz1 : z < (128 ^ n : Nat)) (hc0 : 0 ≤ c) (hc1 : c < 256) (h9 : n = 9 → c ≤ 1) :
    bits .or .u64 z (IntKind.u64.wrap (IntKind.u64.wrap (bits .and .u8 c 127) * 2 ^ (7 * (n : Int)).toNat)) = z + c % 128 * (128 ^ n : Nat) := by
  rw [u8_and127' c hc0 hc1, w64id (c % 128) (by omega) (by omega)]
  have e : (7 * (n : Int)).toNat = 7 * n := by omega
  rw [e]
  obtain ⟨a, rfl⟩ := Int.eq_ofNat_of_zero_le hz0
  obtain ⟨b, rfl⟩ := Int.eq_ofNat_of_zero_le hc0
  have e2 : (128 : Nat) ^ n = 2 ^ (7 * n) := by rw [Nat.pow_mul]
  have hlt := mul_pow_lt (b % 128) n hn (by omega) (by omega)
  have hp : (2 : Int) ^ (7 * n) = ((2 ^ (7 * n) : Nat) : Int) := by simp
  have ha : a < 2 ^ (7 * n) := by rw [← e2]; omega
  have e3 : (b : Int) % 128 * (2 : Int) ^ (7 * n) = ((b % 128 * 2 ^ (7 * n) : Nat) : Int) := by rw [hp]; simp
  rw [e2] at hlt
  rw [e3, w64id _ (by omega) (by omega), e2]
  have ha2 : a < 18446744073709551616 := by
    have : 2 ^ (7 * n) ≤ 2 ^ 63 := Nat.pow_le_pow_right (by decide) (by omega)
    omega
  rw [bits_or_u64_nat a _ ha2 hlt, Nat.or_comm, ← Nat.shiftLeft_eq, ← Nat.shiftLeft_add_eq_or_of_lt ha, Nat.shiftLeft_eq]
  simp
  omega
theorem pow_step (n : Nat) (z c : Int) (hz0 : 0 ≤ z) (hz1 : z < (128 ^ n : Nat)) (hc0 : 0 ≤ c) : 0 ≤ z + c % 128 * (128 ^ n : Nat) ∧ z + c % 128 * (128 ^ n : Nat) < (128 ^ (n + 1) : Nat) := by
  have h1 : c % 128 ≤ 127 := by omega
  have h0 : 0 ≤ c % 128 := by omega
  rw [Nat.pow_succ]
  have hp : (0 : Int) ≤ (128 ^ n : Nat) := Int.natCast_nonneg _
  rw [Int.natCast_mul]
  generalize ((128 ^ n : Nat) : Int) = p at *
  have h2 := Int.mul_le_mul_of_nonneg_right h1 hp
  have h3 := Int.mul_nonneg h0 hp
  omega
theorem rdw_at (most : Int) (R : List Int) (i z : Int) (h0 : 0 ≤ i) (h1 : i < R.length) :
    rdw most (R.drop i.toNat) i z = if i = most ∨ (i = 9 ∧ 1 < rd R i) then (0, 0, 20)
    else if rd R i < 128 then (if rd R i = 0 ∧ 0 < i then (0, 0, 20) else (z + rd R i * (128 ^ i.toNat : Nat), i + 1, 0))
    else rdw most (R.drop (i + 1).toNat) (i + 1) (z + (rd R i - 128) * (128 ^ i.toNat : Nat)) := by
  have hl : i.toNat < R.length := by omega
  have hr : rd R i = R[i.toNat] := by simp [rd, List.getD_eq_getElem?_getD, List.getElem?_eq_getElem hl]
  have hs : (i + 1).toNat = i.toNat + 1 := by omega
  rw [List.drop_eq_getElem_cons hl, rdw, hr, hs]
theorem rd_mem {R : List Int} (hb : ∀ x ∈ R, 0 ≤ x ∧ x < 256) {i : Int} (h0 : 0 ≤ i) (h1 : i < R.length) : 0 ≤ rd R i ∧ rd R i < 256 := by
  have hl : i.toNat < R.length := by omega
  have : rd R i = R[i.toNat] := by simp [rd, List.getD_eq_getElem?_getD, List.getElem?_eq_getElem hl]
  rw [this]
  exact hb _ (List.getElem_mem hl)
set_option maxHeartbeats 4000000 in
set_option maxRecDepth 100000 in
theorem take_calls (A0 : Option Addr) (c0 : Nat) (l0 : List Int) (at_ most : Int) (w : World)
    (hr0 : Kd.C (Kd.int .u8) w A0 l0.length l0) (hc0 : l0.length ≤ c0) (hb : ∀ x ∈ l0, 0 ≤ x ∧ x < 256) (hl : l0.length ≤ 140737488355318) (ha1 : -9223372036854775808 ≤ at_) (ha2 : at_ ≤ 9223372036854775807) (hm : most = 9 ∨ most = 10) :
    Calls Tryd.prog 107 #[.slice A0 l0.length c0, .int .i64 at_, .int .i64 most] w
      fun e w' => e = .returned (.tuple #[.int .u64 (tk l0 at_ most).1, .int .i64 (tk l0 at_ most).2.1, .int .i64 (tk l0 at_ most).2.2]) ∧ w' = w := by
  by_cases hat : at_ < 0 ∨ (l0.length : Int) < at_
  · have ht : tk l0 at_ most = (0, 0, 1) := if_pos hat
    rw [ht]
    rcases hat with h | h
    · have d1 : decide (at_ < 0) = true := decide_eq_true h
      clear h
      go_enter Tryd.func107, Tryd.ntmps107
      go_wp2
      refine wp_scope_jumps 0 (fun a' w' => False) (fun a' _ => 0) rfl ?_ (fun _ _ h => h.elim)
      go_wp2
      simp only [Exit.jump]
      go_ret3
      exact ⟨rfl, rfl⟩
    · by_cases h0 : at_ < 0
      · omega
      have d0 : decide (at_ < 0) = false := decide_eq_false h0
      have d1 : decide ((l0.length : Int) < at_) = true := decide_eq_true h
      clear h h0
      go_enter Tryd.func107, Tryd.ntmps107
      go_wp2
      refine wp_scope_jumps 0 (fun a' w' => False) (fun a' _ => 0) rfl ?_ (fun _ _ h => h.elim)
      go_wp2
      simp only [Exit.jump]
      go_ret3
      exact ⟨rfl, rfl⟩
  · have h0 : 0 ≤ at_ := by omega
    have h1 : at_ ≤ l0.length := by omega
    have d0 : decide (at_ < 0) = false := decide_eq_false (by omega)
    have d1 : decide ((l0.length : Int) < at_) = false := decide_eq_false (by omega)
    obtain ⟨i0, hi0, _, hsz0, _⟩ := info_parts infoB
    obtain ⟨A1, hcut, hA, hc1⟩ := print_drop_of (P := Tryd.prog) (Value.int .u8) (0 : Int) 30 5 .i64 Tryd.underlying30 hi0 hsz0 A0 c0 l0 at_ h0 h1 hc0
    have HR1 := Kd.C_of_reads (h1 := fun _ => rfl) (hA w (Kd.reads_of_C hr0))
    have HLL := Aside0.mk hl; clear hl
    have HTB := Aside0.mk hb; clear hb
    have hRl : (l0.drop at_.toNat).length = l0.length - at_.toNat := List.length_drop
    have hRb : ∀ x ∈ l0.drop at_.toNat, 0 ≤ x ∧ x < 256 := fun x hx => HTB.out x (List.mem_of_mem_drop hx)
    have htk : tk l0 at_ most = if (rdw most (l0.drop at_.toNat) 0 0).2.2 = 0 then ((rdw most (l0.drop at_.toNat) 0 0).1, at_ + (rdw most (l0.drop at_.toNat) 0 0).2.1, 0) else (0, 0, (rdw most (l0.drop at_.toNat) 0 0).2.2) := if_neg hat
    generalize l0.drop at_.toNat = R at hcut HR1 hRl hRb htk hc1
    change Kd.C (Kd.int .u8) w A1 R.length R at HR1
    clear hA hat hr0
    have HR := Aside0.mk HR1
    have HTK := Aside0.mk htk; clear htk
    have HLR := Aside0.mk hRl
    have hRl2 : (l0.length : Int) = at_ + R.length := by omega
    have HL2 := Aside0.mk hRl2; clear hRl2 hRl
    clear HR1
    go_enter Tryd.func107, Tryd.ntmps107
    go_wp2
    refine wp_scope_jumps 0 (fun a' w' => ∃ (u0 u1 u2 u3 u4 u5 u6 u7 u8 u9 u10 u11 u12 u13 u14 u15 u16 u17 u18 u19 u20 u21 u22 u23 u24 u25 u26 u27 u28 u29 u30 u31 u32 u33 u34 u35 u36 u37 u38 u39 u40 u41 u42 u43 u44 u45 u46 u47 u48 u49 u50 u51 u52 u53 u54 u55 u56 u57 u58 u59 u60 u61 u62 u63 u64 u65 : Value), a' = { tmps := #[u0, u1, u2, u3, u4, u5, u6, u7, u8, u9, u10, u11, u12, u13, u14, u15, u16, u17, u18, u19, u20, u21, u22, u23, u24, u25, u26, u27, u28, u29, u30, u31, u32, u33, u34, u35, u36, u37, u38, u39, u40, u41, u42, u43, u44, u45, u46, u47, u48, u49, u50, u51, u52, u53, u54, u55, u56, u57, u58, u59, u60, u61, u62, u63, u64, u65], defers := [] } ∧ w' = w ∧ tk l0 at_ most = (0, 0, 20)) (fun a' _ => 0) rfl ?_ ?_
    · go_wp2
      go_loop [9, 24] (fun vz vi => ∃ (z i : Int), vz = .int .u64 z ∧ vi = .int .i64 i ∧ 0 ≤ i ∧ i ≤ R.length ∧ i ≤ most ∧ 0 ≤ z ∧ z < (128 ^ i.toNat : Nat) ∧ rdw most R 0 0 = rdw most (R.drop i.toNat) i z) (fun _ vi => (R.length - intOf vi).toNat)
      case atStart => exact ⟨0, 0, rfl, rfl, by omega, by omega, by omega, by omega, by simp, rfl⟩
      case round =>
        obtain ⟨z, i, rfl, rfl, hi0, hi1, hi2, hz0, hz1, hrd⟩ := hrel
        by_cases hx : i < R.length
        · have dx : decide (i < (R.length : Int)) = true := decide_eq_true hx
          obtain ⟨ad, e, hcell⟩ := Kd.at_int HR.out i hi0 hx
          cases e
          obtain ⟨c, hc⟩ : ∃ c, c = rd R i := ⟨_, rfl⟩
          rw [← hc] at hcell
          have hcb : 0 ≤ c ∧ c < 256 := hc ▸ rd_mem hRb hi0 hx
          have HZ := Aside0.mk (And.intro hz0 (And.intro hz1 hrd)); clear hz0 hz1 hrd
          have HC := Aside0.mk hc; clear hc
          have hle9 : i ≤ 9 ∨ i = most := by omega
          by_cases e1 : i = most
          · have b1 : (i == most) = true := beq_iff_eq.mpr e1
            have hw : tk l0 at_ most = (0, 0, 20) := by
              have h1 := HZ.out.2.2
              rw [rdw_at most R i z hi0 hx, if_pos (.inl e1)] at h1
              rw [HTK.out, h1]; rfl
            have HW := Aside0.mk hw; clear hw
            clear e1 hle9
            go_wp2
            go_step3; exact ⟨rfl, _, _, _, _, _, _, _, _, _, _, _, _, _, _, _, _, _, _, _, _, _, _, _, _, _, _, _, _, _, _, _, _, _, _, _, _, _, _, _, _, _, _, _, _, _, _, _, _, _, _, _, _, _, _, _, _, _, _, _, _, _, _, _, _, _, _, rfl, rfl, HW.out⟩
          · have b1 : (i == most) = false := beq_eq_false_iff_ne.mpr e1
            by_cases e2 : i = 9
            · have b2 : (i == 9) = true := beq_iff_eq.mpr e2
              by_cases e3 : 1 < c
              · have b3 : decide (1 < c) = true := decide_eq_true e3
                have hw : tk l0 at_ most = (0, 0, 20) := by
                  have h1 := HZ.out.2.2
                  rw [rdw_at most R i z hi0 hx, if_pos (.inr ⟨e2, HC.out ▸ e3⟩)] at h1
                  rw [HTK.out, h1]; rfl
                have HW := Aside0.mk hw; clear hw
                clear e1 e2 e3 hle9
                go_wp2
                go_step3; exact ⟨rfl, _, _, _, _, _, _, _, _, _, _, _, _, _, _, _, _, _, _, _, _, _, _, _, _, _, _, _, _, _, _, _, _, _, _, _, _, _, _, _, _, _, _, _, _, _, _, _, _, _, _, _, _, _, _, _, _, _, _, _, _, _, _, _, _, _, _, rfl, rfl, HW.out⟩
              · have b3 : decide (1 < c) = false := decide_eq_false e3
                have b4 : decide (c < 128) = true := decide_eq_true (by omega)
                by_cases e4 : c = 0
                · have b5 : (c == 0) = true := beq_iff_eq.mpr e4
                  have b6 : decide (0 < i) = true := decide_eq_true (by omega)
                  have hw : tk l0 at_ most = (0, 0, 20) := by
                    have h1 := HZ.out.2.2
                    rw [rdw_at most R i z hi0 hx, ← HC.out, if_neg (by omega), if_pos (by omega), if_pos (by omega)] at h1
                    rw [HTK.out, h1]; rfl
                  have HW := Aside0.mk hw; clear hw
                  have HE := Aside0.mk e4; clear e4
                  clear e1 e2 e3 hle9
                  go_wp2
                  go_step3; exact ⟨rfl, _, _, _, _, _, _, _, _, _, _, _, _, _, _, _, _, _, _, _, _, _, _, _, _, _, _, _, _, _, _, _, _, _, _, _, _, _, _, _, _, _, _, _, _, _, _, _, _, _, _, _, _, _, _, _, _, _, _, _, _, _, _, _, _, _, _, rfl, rfl, HW.out⟩
                · have b5 : (c == 0) = false := beq_eq_false_iff_ne.mpr e4
                  have hw : tk l0 at_ most = (bits .or .u64 z (IntKind.u64.wrap (IntKind.u64.wrap (bits .and .u8 c 127) * 2 ^ (7 * i).toNat)), wrap64 (wrap64 (at_ + i) + 1), 0) := by
                    have h1 := HZ.out.2.2
                    rw [rdw_at most R i z hi0 hx, ← HC.out, if_neg (by omega), if_pos (by omega), if_neg (by omega)] at h1
                    rw [HTK.out, h1, if_pos rfl]
                    have h2 := shl_or z c i.toNat (by omega) HZ.out.1 HZ.out.2.1 hcb.1 hcb.2 (by omega)
                    rw [show ((i.toNat : Nat) : Int) = i by omega] at h2
                    rw [h2, show c % 128 = c by omega, show at_ + (i + 1) = wrap64 (wrap64 (at_ + i) + 1) by (have := HL2.out; have := HLL.out; simp only [wrap64]; omega)]
                  have HW := Aside0.mk hw; clear hw
                  have HE := Aside0.mk e2
                  clear e1 e2 e3 e4 hle9
                  go_wp2
                  simp only [Exit.jump]
                  go_ret3
                  rw [HW.out]
                  exact ⟨rfl, rfl⟩
            · have b2 : (i == 9) = false := beq_eq_false_iff_ne.mpr e2
              by_cases e3 : c < 128
              · have b3 : decide (c < 128) = true := decide_eq_true e3
                by_cases e4 : c = 0
                · have b5 : (c == 0) = true := beq_iff_eq.mpr e4
                  by_cases e5 : 0 < i
                  · have b6 : decide (0 < i) = true := decide_eq_true e5
                    have hw : tk l0 at_ most = (0, 0, 20) := by
                      have h1 := HZ.out.2.2
                      rw [rdw_at most R i z hi0 hx, ← HC.out, if_neg (by omega), if_pos (by omega), if_pos (by omega)] at h1
                      rw [HTK.out, h1]; rfl
                    have HW := Aside0.mk hw; clear hw
                    have HE := Aside0.mk e4; clear e4
                    clear e1 e2 e3 hle9 e5
                    go_wp2
                    go_step3; exact ⟨rfl, _, _, _, _, _, _, _, _, _, _, _, _, _, _, _, _, _, _, _, _, _, _, _, _, _, _, _, _, _, _, _, _, _, _, _, _, _, _, _, _, _, _, _, _, _, _, _, _, _, _, _, _, _, _, _, _, _, _, _, _, _, _, _, _, _, _, rfl, rfl, HW.out⟩
                  · have b6 : decide (0 < i) = false := decide_eq_false e5
                    have hw : tk l0 at_ most = (bits .or .u64 z (IntKind.u64.wrap (IntKind.u64.wrap (bits .and .u8 c 127) * 2 ^ (7 * i).toNat)), wrap64 (wrap64 (at_ + i) + 1), 0) := by
                        have h1 := HZ.out.2.2
                        rw [rdw_at most R i z hi0 hx, ← HC.out, if_neg (by omega), if_pos (by omega), if_neg (by omega)] at h1
                        rw [HTK.out, h1, if_pos rfl]
                        have h2 := shl_or z c i.toNat (by omega) HZ.out.1 HZ.out.2.1 hcb.1 hcb.2 (by omega)
                        rw [show ((i.toNat : Nat) : Int) = i by omega] at h2
                        rw [h2, show c % 128 = c by omega, show at_ + (i + 1) = wrap64 (wrap64 (at_ + i) + 1) by (have := HL2.out; have := HLL.out; simp only [wrap64]; omega)]
                    have HW := Aside0.mk hw; clear hw
                    have HE := Aside0.mk e4
                    clear e1 e2 e3 e4 e5
                    go_wp2
                    simp only [Exit.jump]
                    go_ret3
                    rw [HW.out]
                    exact ⟨rfl, rfl⟩
                · have b5 : (c == 0) = false := beq_eq_false_iff_ne.mpr e4
                  have hw : tk l0 at_ most = (bits .or .u64 z (IntKind.u64.wrap (IntKind.u64.wrap (bits .and .u8 c 127) * 2 ^ (7 * i).toNat)), wrap64 (wrap64 (at_ + i) + 1), 0) := by
                      have h1 := HZ.out.2.2
                      rw [rdw_at most R i z hi0 hx, ← HC.out, if_neg (by omega), if_pos (by omega), if_neg (by omega)] at h1
                      rw [HTK.out, h1, if_pos rfl]
                      have h2 := shl_or z c i.toNat (by omega) HZ.out.1 HZ.out.2.1 hcb.1 hcb.2 (by omega)
                      rw [show ((i.toNat : Nat) : Int) = i by omega] at h2
                      rw [h2, show c % 128 = c by omega, show at_ + (i + 1) = wrap64 (wrap64 (at_ + i) + 1) by (have := HL2.out; have := HLL.out; simp only [wrap64]; omega)]
                  have HW := Aside0.mk hw; clear hw
                  have HE := Aside0.mk e4
                  clear e1 e2 e3 e4 
                  go_wp2
                  simp only [Exit.jump]
                  go_ret3
                  rw [HW.out]
                  exact ⟨rfl, rfl⟩
              · have b3 : decide (c < 128) = false := decide_eq_false e3
                have HN : Aside0 (0 ≤ z + c % 128 * (128 ^ i.toNat : Nat) ∧ z + c % 128 * (128 ^ i.toNat : Nat) < (128 ^ (i + 1).toNat : Nat) ∧ rdw most R 0 0 = rdw most (R.drop (i + 1).toNat) (i + 1) (z + c % 128 * (128 ^ i.toNat : Nat))) := by
                  have h1 := HZ.out.2.2
                  rw [rdw_at most R i z hi0 hx, ← HC.out, if_neg (by omega), if_neg (by omega)] at h1
                  have h2 := pow_step i.toNat z c HZ.out.1 HZ.out.2.1 hcb.1
                  rw [show (i + 1).toNat = i.toNat + 1 by omega]
                  rw [show (i + 1).toNat = i.toNat + 1 by omega, show c - 128 = c % 128 by omega] at h1
                  exact ⟨h2.1, h2.2, h1⟩
                have h2 := shl_or z c i.toNat (by omega) HZ.out.1 HZ.out.2.1 hcb.1 hcb.2 (by omega)
                rw [show ((i.toNat : Nat) : Int) = i by omega] at h2
                have HS := Aside0.mk h2; clear h2
                have HI : Aside0 (i + 1 ≤ R.length ∧ i + 1 ≤ most ∧ 0 ≤ i + 1) := ⟨by omega⟩
                clear e1 e2 e3
                go_wp2
                rw [HS.out]
                refine ⟨⟨_, _, rfl, rfl, HI.out.2.2, HI.out.1, HI.out.2.1, HN.out.1, HN.out.2.1, HN.out.2.2⟩, ?_⟩
                have := HI.out
                simp only [intOf]
                omega
        · have dx : decide (i < (R.length : Int)) = false := decide_eq_false hx
          have hie : i = R.length := by omega
          have HIE := Aside0.mk hie; clear hie
          have hrd0 : rdw most R 0 0 = if most ≤ i then (0, 0, 20) else (0, 0, 3) := by
            rw [hrd, List.drop_eq_nil_of_le (by omega), rdw]
          have HRD := Aside0.mk hrd0; clear hrd0 hrd
          have hsub : wrap64 ((l0.length : Int) - at_) = i := by
            have := HL2.out; have := HIE.out
            simp only [wrap64]; omega
          by_cases e1 : most ≤ i
          · have b1 : decide (most ≤ i) = true := decide_eq_true e1
            have hw : tk l0 at_ most = (0, 0, 20) := by rw [HTK.out, HRD.out, if_pos e1]; rfl
            have HW := Aside0.mk hw; clear hw
            clear e1 hx hi1 hi2
            go_wp2
            go_step3; exact ⟨rfl, _, _, _, _, _, _, _, _, _, _, _, _, _, _, _, _, _, _, _, _, _, _, _, _, _, _, _, _, _, _, _, _, _, _, _, _, _, _, _, _, _, _, _, _, _, _, _, _, _, _, _, _, _, _, _, _, _, _, _, _, _, _, _, _, _, _, rfl, rfl, HW.out⟩
          · have b1 : decide (most ≤ i) = false := decide_eq_false e1
            have hw : tk l0 at_ most = (0, 0, 3) := by rw [HTK.out, HRD.out, if_neg e1]; rfl
            have HW := Aside0.mk hw; clear hw
            clear e1 hx hi1 hi2
            go_wp2
            simp only [Exit.jump]
            go_ret3
            rw [HW.out]
            exact ⟨rfl, rfl⟩
    · rintro a' w' ⟨u0, u1, u2, u3, u4, u5, u6, u7, u8, u9, u10, u11, u12, u13, u14, u15, u16, u17, u18, u19, u20, u21, u22, u23, u24, u25, u26, u27, u28, u29, u30, u31, u32, u33, u34, u35, u36, u37, u38, u39, u40, u41, u42, u43, u44, u45, u46, u47, u48, u49, u50, u51, u52, u53, u54, u55, u56, u57, u58, u59, u60, u61, u62, u63, u64, u65, rfl, rfl, hw⟩
      go_wp2
      simp only [Exit.jump]
      go_ret3
      rw [hw]
      exact ⟨rfl, rfl⟩
end Go.Proofs.YteidgpaakoeefaaDoor
namespace Go.Proofs.YteidgpaakoeefaaDoor
open Go.RowKit Go.Proofs.YteidgpaakoeefaaDoorW.PrintWords Go.Proofs.YteidgpaakoeefaaDoorW.PrintLast Go.Proofs.YteidgpaakoeefaaDoorW.PrintMore
set_option linter.unusedVariables false
set_option linter.unusedSimpArgs false
def numF (l : List Int) (n : Int) : List Int × Int := if n < 0 then ([], 1) else (l ++ venc n.toNat, 0)
def zz (n : Int) : Int := if n < 0 then -2 * n - 1 else 2 * n
def uz (z : Int) : Int := if z % 2 = 1 then -(z / 2) - 1 else z / 2
set_option maxHeartbeats 4000000 in
set_option maxRecDepth 100000 in
theorem Num_calls (A0 : Option Addr) (c0 : Nat) (l0 : List Int) (n : Int) (w : World)
    (hr0 : Kd.C (Kd.int .u8) w A0 l0.length l0) (hl : l0.length ≤ 140737488355318) (hn0 : -9223372036854775808 ≤ n) (hn1 : n ≤ 9223372036854775807) :
    Calls Tryd.prog 59 #[.slice A0 l0.length c0, .int .i64 n] w
      fun e w' => ∃ v, e = .returned (.tuple #[v, .int .i64 (numF l0 n).2]) ∧ Kd.R (Kd.int .u8) 5 w' w.heap.size (fun _ => True) v (numF l0 n).1 ∧ Below w.heap.size w w' := by
  by_cases hn : n < 0
  · have hd : decide (n < 0) = true := decide_eq_true hn
    have hf : numF l0 n = ([], 1) := if_pos hn
    rw [hf]
    clear hn hf
    go_enter Tryd.func59, Tryd.ntmps59
    go_wp2
    go_ret2
    exact ⟨_, rfl, Kd.R_nil _ _ _ _ _, Below.refl _ _⟩
  · have hd : decide (n < 0) = false := decide_eq_false hn
    have hf : numF l0 n = (l0 ++ venc n.toNat, 0) := if_neg hn
    rw [hf]
    have hw : IntKind.u64.wrap n = n := w64id n (by omega) (by omega)
    have HR := Aside0.mk hr0
    have HN := Aside0.mk hn
    clear hn hf hr0
    go_enter Tryd.func59, Tryd.ntmps59
    go_wp2_with fail
    try rw [hw]
    ((with_reducible refine (put_calls A0 c0 l0 n _ HR.out hl (by have := HN.out; omega) (by omega)).mono ?_); rintro e_ W1 ⟨v0, rfl, ho_, hb_⟩)
    go_wp2
    go_ret2
    exact ⟨_, rfl, ho_, hb_⟩
theorem xor_ones (a : Nat) (h : a < 18446744073709551616) : a ^^^ 18446744073709551615 = 18446744073709551615 - a := by
  have e1 : (18446744073709551615 : Nat) = 2 ^ 64 - 1 := by decide
  have e2 : 18446744073709551615 - a = 2 ^ 64 - (a + 1) := by omega
  rw [e2, e1]
  apply Nat.eq_of_testBit_eq
  intro i
  rw [Nat.testBit_xor, Nat.testBit_two_pow_sub_one, Nat.testBit_two_pow_sub_succ (by omega)]
  by_cases hi : i < 64
  · simp [hi]
  · have : a.testBit i = false := Nat.testBit_lt_two_pow (Nat.lt_of_lt_of_le h (by rw [show (18446744073709551616 : Nat) = 2 ^ 64 by decide]; exact Nat.pow_le_pow_right (by decide) (by omega)))
    simp [hi, this]
theorem zz_bits (n : Int) (h0 : -9223372036854775808 ≤ n) (h1 : n ≤ 9223372036854775807) :
    bits .xor .u64 (IntKind.u64.wrap (IntKind.u64.wrap n * 2)) (IntKind.u64.wrap (n / 9223372036854775808)) = zz n := by
  by_cases h : n < 0
  · rw [show n / 9223372036854775808 = -1 by omega, zz, if_pos h]
    show bits .xor .u64 (n % 18446744073709551616 * 2 % 18446744073709551616) 18446744073709551615 = _
    obtain ⟨a, ha⟩ : ∃ a : Nat, n % 18446744073709551616 * 2 % 18446744073709551616 = (a : Int) := ⟨_, (Int.toNat_of_nonneg (by omega)).symm⟩
    rw [ha]
    have := Go.bits_xor_u64_nat a 18446744073709551615 (by omega) (by omega)
    rw [show ((18446744073709551615 : Nat) : Int) = 18446744073709551615 from rfl] at this
    rw [this, xor_ones a (by omega)]
    omega
  · rw [show n / 9223372036854775808 = 0 by omega, zz, if_neg h]
    show bits .xor .u64 (n % 18446744073709551616 * 2 % 18446744073709551616) 0 = _
    obtain ⟨a, ha⟩ : ∃ a : Nat, n % 18446744073709551616 * 2 % 18446744073709551616 = (a : Int) := ⟨_, (Int.toNat_of_nonneg (by omega)).symm⟩
    rw [ha]
    have := Go.bits_xor_u64_nat a 0 (by omega) (by omega)
    rw [show ((0 : Nat) : Int) = 0 from rfl] at this
    rw [this, Nat.xor_zero]
    omega
theorem zz_range (n : Int) (h0 : -9223372036854775808 ≤ n) (h1 : n ≤ 9223372036854775807) : 0 ≤ zz n ∧ zz n < 18446744073709551616 := by
  unfold zz; split <;> omega
set_option maxHeartbeats 4000000 in
set_option maxRecDepth 100000 in
theorem Int_calls (A0 : Option Addr) (c0 : Nat) (l0 : List Int) (n : Int) (w : World)
    (hr0 : Kd.C (Kd.int .u8) w A0 l0.length l0) (hl : l0.length ≤ 140737488355318) (hn0 : -9223372036854775808 ≤ n) (hn1 : n ≤ 9223372036854775807) :
    Calls Tryd.prog 58 #[.slice A0 l0.length c0, .int .i64 n] w
      fun e w' => ∃ v, e = .returned v ∧ Kd.R (Kd.int .u8) 5 w' w.heap.size (fun _ => True) v (l0 ++ venc (zz n).toNat) ∧ Below w.heap.size w w' := by
  have HR := Aside0.mk hr0
  have hz := zz_bits n hn0 hn1
  have HZ := Aside0.mk hz
  clear hr0 hz
  go_enter Tryd.func58, Tryd.ntmps58
  go_wp2_with fail
  rw [HZ.out]
  ((with_reducible refine (put_calls A0 c0 l0 (zz n) _ HR.out hl (zz_range n hn0 hn1).1 (zz_range n hn0 hn1).2).mono ?_); rintro e_ W1 ⟨v0, rfl, ho_, hb_⟩)
  go_wp2
  go_ret
  exact ⟨_, rfl, ho_, hb_⟩
theorem rdw_range (most : Int) (hm : 0 ≤ most) (hm2 : most ≤ 10) : ∀ (R : List Int) (i z : Int), 0 ≤ i → i ≤ most → (∀ x ∈ R, 0 ≤ x ∧ x < 256) → 0 ≤ z → z < (128 ^ i.toNat : Nat) →
    0 ≤ (rdw most R i z).1 ∧ (rdw most R i z).1 < (128 ^ most.toNat : Nat) ∧ (rdw most R i z).1 < 18446744073709551616 ∧ 0 ≤ (rdw most R i z).2.1 ∧ (rdw most R i z).2.1 ≤ i + R.length
  | [], i, z, hi, him, hR, h0, h1 => by
    have hp : (0 : Int) < (128 ^ most.toNat : Nat) := by exact_mod_cast Nat.pow_pos (by decide)
    rw [rdw]; split <;> exact ⟨by decide, hp, by decide, by decide, by simp; omega⟩
  | c :: cs, i, z, hi, him, hR, h0, h1 => by
    have hp : (0 : Int) < (128 ^ most.toNat : Nat) := by exact_mod_cast Nat.pow_pos (by decide)
    have hc := hR c List.mem_cons_self
    have hl : ((c :: cs).length : Int) = cs.length + 1 := by simp
    rw [rdw]
    by_cases e1 : i = most ∨ (i = 9 ∧ 1 < c)
    · rw [if_pos e1]
      exact ⟨by decide, hp, by decide, by decide, by simp only; omega⟩
    · rw [if_neg e1]
      have hst := pow_step i.toNat z c h0 h1 hc.1
      have hle : 128 ^ (i.toNat + 1) ≤ 128 ^ most.toNat := Nat.pow_le_pow_right (by decide) (by omega)
      by_cases e2 : c < 128
      · rw [if_pos e2]
        rw [show c % 128 = c by omega] at hst
        by_cases e3 : c = 0 ∧ 0 < i
        · rw [if_pos e3]; exact ⟨by decide, hp, by decide, by decide, by simp only; omega⟩
        · rw [if_neg e3]
          refine ⟨hst.1, Int.lt_of_lt_of_le hst.2 (by exact_mod_cast hle), ?_, by simp only; omega, by simp only; omega⟩
          show z + c * (128 ^ i.toNat : Nat) < 18446744073709551616
          by_cases e9 : i = 9
          · subst e9
            have : c ≤ 1 := by omega
            have h2 : c * ((128 ^ (9 : Int).toNat : Nat) : Int) ≤ 9223372036854775808 := by
              rw [show ((128 ^ (9 : Int).toNat : Nat) : Int) = 9223372036854775808 by decide]; omega
            rw [show ((128 ^ (9 : Int).toNat : Nat) : Int) = 9223372036854775808 by decide] at h1 h2 ⊢
            omega
          · have hle2 : 128 ^ (i.toNat + 1) ≤ 128 ^ 9 := Nat.pow_le_pow_right (by decide) (by omega)
            rw [show (128 : Nat) ^ 9 = 9223372036854775808 by decide] at hle2
            omega
      · rw [if_neg e2]
        rw [show c % 128 = c - 128 by omega] at hst
        have := rdw_range most hm hm2 cs (i + 1) (z + (c - 128) * (128 ^ i.toNat : Nat)) (by omega) (by omega) (fun x hx => hR x (List.mem_cons_of_mem _ hx)) hst.1 (by rw [show (i + 1).toNat = i.toNat + 1 by omega]; exact hst.2)
        refine ⟨this.1, this.2.1, this.2.2.1, this.2.2.2.1, by omega⟩
theorem tk_range (l : List Int) (at_ most : Int) (hm : 0 ≤ most) (hm2 : most ≤ 10) (hb : ∀ x ∈ l, 0 ≤ x ∧ x < 256) :
    0 ≤ (tk l at_ most).1 ∧ (tk l at_ most).1 < (128 ^ most.toNat : Nat) ∧ (tk l at_ most).1 < 18446744073709551616 ∧ 0 ≤ (tk l at_ most).2.1 ∧ (tk l at_ most).2.1 ≤ l.length := by
  have hp : (0 : Int) < (128 ^ most.toNat : Nat) := by exact_mod_cast Nat.pow_pos (by decide)
  by_cases e1 : at_ < 0 ∨ (l.length : Int) < at_
  · rw [tk, if_pos e1]; exact ⟨by decide, hp, by decide, by decide, by simp only; omega⟩
  · have h := rdw_range most hm hm2 (l.drop at_.toNat) 0 0 (by omega) hm (fun x hx => hb x (List.mem_of_mem_drop hx)) (by omega) (by simp)
    have hl : (l.drop at_.toNat).length = l.length - at_.toNat := List.length_drop
    rw [tk, if_neg e1]
    split
    · exact ⟨h.1, h.2.1, h.2.2.1, by have := h.2.2.2.1; simp only; omega, by have := h.2.2.2.2; simp only; omega⟩
    · exact ⟨Int.le_refl 0, hp, by show (0 : Int) < _; decide, Int.le_refl 0, by simp only; omega⟩
set_option maxHeartbeats 4000000 in
set_option maxRecDepth 100000 in
theorem ReadNum_calls (A0 : Option Addr) (c0 : Nat) (l0 : List Int) (at_ : Int) (w : World)
    (hr0 : Kd.C (Kd.int .u8) w A0 l0.length l0) (hc0 : l0.length ≤ c0) (hb : ∀ x ∈ l0, 0 ≤ x ∧ x < 256) (hl : l0.length ≤ 140737488355318) (ha1 : -9223372036854775808 ≤ at_) (ha2 : at_ ≤ 9223372036854775807) :
    Calls Tryd.prog 91 #[.slice A0 l0.length c0, .int .i64 at_] w
      fun e w' => e = .returned (.tuple #[.int .i64 (tk l0 at_ 9).1, .int .i64 (tk l0 at_ 9).2.1, .int .i64 (tk l0 at_ 9).2.2]) ∧ w' = w := by
  have hc := take_calls A0 c0 l0 at_ 9 w hr0 hc0 hb hl ha1 ha2 (.inl rfl)
  have hr := tk_range l0 at_ 9 (by decide) (by decide) hb
  rw [show ((128 ^ (9 : Int).toNat : Nat) : Int) = 9223372036854775808 by decide] at hr
  generalize tk l0 at_ 9 = t at hc hr ⊢
  have hw : wrap64 t.1 = t.1 := by simp only [wrap64]; omega
  have HW := Aside0.mk hw
  clear hr0 hc0 hb hr hw
  go_enter Tryd.func91, Tryd.ntmps91
  go_wp2_with fail
  ((with_reducible refine hc.mono ?_); rintro e_ W1 ⟨rfl, rfl⟩)
  go_wp2
  go_ret3
  rw [HW.out]
  exact ⟨rfl, rfl⟩
theorem bits_comm_xor (x y : Int) : bits .xor .i64 x y = bits .xor .i64 y x := by
  show IntKind.i64.wrap ((BitVec.ofInt 64 x ^^^ BitVec.ofInt 64 y).toNat : Int) = IntKind.i64.wrap ((BitVec.ofInt 64 y ^^^ BitVec.ofInt 64 x).toNat : Int)
  rw [BitVec.xor_comm]
theorem uz_bits (z : Int) (h0 : 0 ≤ z) (h1 : z < 18446744073709551616) :
    bits .xor .i64 (wrap64 (z / 2)) (wrap64 (-(wrap64 (bits .and .u64 z 1)))) = uz z := by
  have h2 : bits .and .u64 z 1 = z % 2 := by go_bits2
  have h3 : wrap64 (z / 2) = z / 2 := by simp only [wrap64]; omega
  rw [h2, h3, uz]
  obtain ⟨a, rfl⟩ := Int.eq_ofNat_of_zero_le h0
  rw [show ((a : Int) / 2) = ((a / 2 : Nat) : Int) by omega]
  have ha : a / 2 < 9223372036854775808 := by omega
  by_cases h : (a : Int) % 2 = 1
  · rw [if_pos h, h]
    rw [show wrap64 (-wrap64 1) = -1 by simp [wrap64]]
    rw [bits_comm_xor, i64_not _ ha]
    omega
  · rw [if_neg h, show (a : Int) % 2 = 0 by omega]
    rw [show wrap64 (-wrap64 0) = 0 by simp [wrap64]]
    show IntKind.i64.wrap ((BitVec.ofInt 64 ((a / 2 : Nat) : Int) ^^^ BitVec.ofInt 64 0).toNat : Int) = _
    rw [show BitVec.ofInt 64 0 = 0#64 by decide, BitVec.xor_zero, ofInt_u64 (a / 2) (by omega)]
    simp [IntKind.wrap, IntKind.bits, IntKind.signed]
    omega
set_option maxHeartbeats 4000000 in
set_option maxRecDepth 100000 in
theorem ReadInt_calls (A0 : Option Addr) (c0 : Nat) (l0 : List Int) (at_ : Int) (w : World)
    (hr0 : Kd.C (Kd.int .u8) w A0 l0.length l0) (hc0 : l0.length ≤ c0) (hb : ∀ x ∈ l0, 0 ≤ x ∧ x < 256) (hl : l0.length ≤ 140737488355318) (ha1 : -9223372036854775808 ≤ at_) (ha2 : at_ ≤ 9223372036854775807) :
    Calls Tryd.prog 93 #[.slice A0 l0.length c0, .int .i64 at_] w
      fun e w' => e = .returned (.tuple #[.int .i64 (uz (tk l0 at_ 10).1), .int .i64 (tk l0 at_ 10).2.1, .int .i64 (tk l0 at_ 10).2.2]) ∧ w' = w := by
  have hc := take_calls A0 c0 l0 at_ 10 w hr0 hc0 hb hl ha1 ha2 (.inr rfl)
  have hr := tk_range l0 at_ 10 (by decide) (by decide) hb
  generalize tk l0 at_ 10 = t at hc hr ⊢
  have hw := uz_bits t.1 hr.1 hr.2.2.1
  have HW := Aside0.mk hw
  clear hr0 hc0 hb hr hw
  go_enter Tryd.func93, Tryd.ntmps93
  go_wp2_with fail
  ((with_reducible refine hc.mono ?_); rintro e_ W1 ⟨rfl, rfl⟩)
  go_wp2
  go_ret3
  rw [HW.out]
  exact ⟨rfl, rfl⟩
def textF (l : List Int) (t : ByteArray) : List Int × Int := if (65536 : Int) < (t.size : Int) then ([], 2) else (l ++ venc t.size ++ bytesOf t, 0)
set_option maxHeartbeats 4000000 in
set_option maxRecDepth 100000 in
theorem Text_calls (A0 : Option Addr) (c0 : Nat) (l0 : List Int) (t : ByteArray) (w : World)
    (hr0 : Kd.C (Kd.int .u8) w A0 l0.length l0) (hl : l0.length ≤ 140737488000000) (ht : t.size ≤ 9223372036854775807) :
    Calls Tryd.prog 29 #[.slice A0 l0.length c0, .string t] w
      fun e w' => ∃ v, e = .returned (.tuple #[v, .int .i64 (textF l0 t).2]) ∧ Kd.R (Kd.int .u8) 5 w' w.heap.size (fun _ => True) v (textF l0 t).1 ∧ Below w.heap.size w w' := by
  by_cases hn : (65536 : Int) < (t.size : Int)
  · have hd : decide ((65536 : Int) < (t.size : Int)) = true := decide_eq_true hn
    have hf : textF l0 t = ([], 2) := if_pos hn
    rw [hf]
    clear hn hf
    go_enter Tryd.func29, Tryd.ntmps29
    go_wp2
    go_ret2
    exact ⟨_, rfl, Kd.R_nil _ _ _ _ _, Below.refl _ _⟩
  · have hd : decide ((65536 : Int) < (t.size : Int)) = false := decide_eq_false hn
    have hf : textF l0 t = (l0 ++ venc t.size ++ bytesOf t, 0) := if_neg hn
    rw [hf]
    have hw : IntKind.u64.wrap (t.size : Int) = (t.size : Int) := w64id _ (by omega) (by omega)
    have HR := Aside0.mk hr0
    have HN := Aside0.mk hn
    have HV := Aside0.mk (venc_len64 (z := (t.size : Int)) (by omega))
    clear hn hf hr0
    go_enter Tryd.func29, Tryd.ntmps29
    go_wp2_with fail
    try rw [hw]
    ((with_reducible refine (put_calls A0 c0 l0 (t.size : Int) _ HR.out (by omega) (by omega) (by omega)).mono ?_); rintro e_ W1 ⟨v0, rfl, ho_, hb_⟩)
    rw [Int.toNat_natCast] at ho_ HV
    have HO := Aside0.mk ho_; have HB := Aside0.mk hb_; clear ho_ hb_
    go_wp2_with (first | ((with_reducible refine gate_builtin (b := .append) (xs := #[.tmp 13, .tmp 14]) rfl ?_); at_builtin; refine print_append_str (w0 := w) w.heap.size rfl (.tmp 13) _ 30 9 5 rfl Tryd.underlying30 Tryd.underlying9 infoB v0 (l0 ++ venc t.size) t rfl rfl ?aO ?aB ?aS ?aL ?_; (case aB => exact HB.out); (case aO => exact (Kd.own_of_R HO.out)); (case aS => exact (below_size HB.out)); (case aL => have := HN.out; have := HV.out; simp; omega); intro v1 w1 ho0 hb hg; have ho := Kd.R_of_own (h1 := fun _ => rfl) (ok := fun _ => True) ho0 (fun _ _ => trivial); have HO1 := Aside0.mk ho; have HB1 := Aside0.mk hb; clear ho hb hg ho0 HO HB))
    go_ret2
    exact ⟨_, rfl, HO1.out, HB1.out⟩
end Go.Proofs.YteidgpaakoeefaaDoor
namespace Go.Proofs.YteidgpaakoeefaaDoor
open Go.RowKit Go.Proofs.YteidgpaakoeefaaDoorW.PrintWords Go.Proofs.YteidgpaakoeefaaDoorW.PrintLast Go.Proofs.YteidgpaakoeefaaDoorW.PrintMore
set_option linter.unusedVariables false
set_option linter.unusedSimpArgs false
def nib : List Int := [0, 498536548, 997073096, 651767980, 1994146192, 1802195444, 1303535960, 1342533948, 3988292384, 4027552580, 3604390888, 3412177804, 2607071920, 2262029012, 2685067896, 3183342108]
def Tab (w : World) : Prop := ∀ i : Nat, i < 16 → w.cell? ⟨0, i, none⟩ = some (.int .u32 (nib.getD i 0))
theorem Tab.below {w w' : World} (h : Tab w) (hb : Below w.heap.size w w') : Tab w' := by
  intro i hi
  have hc := h i hi
  exact (hb.cell (World.block_lt_of_cell? w _ hc)).trans hc
def nstep (s : Int) : Int := bits .xor .u32 (s / 16) (nib.getD (bits .and .u32 s 15).toNat 0)
def sstep (s c : Int) : Int := nstep (nstep (bits .xor .u32 s (c % 4294967296)))
def sumF (l : List Int) : Int := 4294967295 - l.foldl sstep 4294967295
theorem u32_range (x y : Int) : 0 ≤ bits .xor .u32 x y ∧ bits .xor .u32 x y < 4294967296 := by
  show 0 ≤ IntKind.u32.wrap ((BitVec.ofInt 32 x ^^^ BitVec.ofInt 32 y).toNat : Int) ∧ IntKind.u32.wrap ((BitVec.ofInt 32 x ^^^ BitVec.ofInt 32 y).toNat : Int) < 4294967296
  rw [IntKind.wrap_u32]
  omega
theorem wraps_u32 (n : Int) (h₀ : 0 ≤ n) (h₁ : n < 2 ^ 32) : IntKind.u32.wrap n = n := by rw [IntKind.wrap_u32]; omega
theorem u32_and15 (x : Int) (h0 : 0 ≤ x) (h1 : x < 4294967296) : bits .and .u32 x 15 = x % 16 := bits_mask .u32 32 (by decide) wraps_u32 4 (by decide) x h0 h1
theorem nib_range (n : Nat) : 0 ≤ nib.getD n 0 ∧ nib.getD n 0 < 4294967296 := by
  by_cases h : n < 16
  · have : ∀ n, n < 16 → 0 ≤ nib.getD n 0 ∧ nib.getD n 0 < 4294967296 := by decide
    exact this n h
  · have h1 : nib.length = 16 := rfl
    have : nib.getD n 0 = 0 := by rw [List.getD_eq_getElem?_getD, List.getElem?_eq_none (by omega)]; rfl
    rw [this]; decide
theorem xor_ones32 (a : Nat) (h : a < 4294967296) : 4294967295 ^^^ a = 4294967295 - a := by
  have e1 : (4294967295 : Nat) = 2 ^ 32 - 1 := by decide
  have e2 : 4294967295 - a = 2 ^ 32 - (a + 1) := by omega
  rw [e2, e1]
  apply Nat.eq_of_testBit_eq
  intro i
  rw [Nat.testBit_xor, Nat.testBit_two_pow_sub_one, Nat.testBit_two_pow_sub_succ (by omega)]
  by_cases hi : i < 32
  · simp [hi]
  · have : a.testBit i = false := Nat.testBit_lt_two_pow (Nat.lt_of_lt_of_le h (by rw [show (4294967296 : Nat) = 2 ^ 32 by decide]; exact Nat.pow_le_pow_right (by decide) (by omega)))
    simp [hi, this]
theorem max_xor (s : Int) (h0 : 0 ≤ s) (h1 : s < 4294967296) : bits .xor .u32 IntKind.u32.max s = 4294967295 - s := by
  obtain ⟨a, rfl⟩ := Int.eq_ofNat_of_zero_le h0
  have := u32_xor_nat 4294967295 a (by omega) (by omega)
  rw [show IntKind.u32.max = ((4294967295 : Nat) : Int) by decide, this, xor_ones32 a (by omega)]
  omega
theorem look {w : World} (hT : Tab w) (x y : Int) : 0 ≤ bits .and .u32 (bits .xor .u32 x y) 15 ∧ bits .and .u32 (bits .xor .u32 x y) 15 < 16 ∧
    w.cell? ⟨0, (bits .and .u32 (bits .xor .u32 x y) 15).toNat, none⟩ = some (.int .u32 (nib.getD (bits .and .u32 (bits .xor .u32 x y) 15).toNat 0)) := by
  have hr := u32_range x y
  have h := u32_and15 _ hr.1 hr.2
  refine ⟨by omega, by omega, hT _ (by omega)⟩
theorem sstep_range (s c : Int) : 0 ≤ sstep s c ∧ sstep s c < 4294967296 := u32_range _ _
theorem fold_range : ∀ (l : List Int) (s : Int), 0 ≤ s → s < 4294967296 → 0 ≤ l.foldl sstep s ∧ l.foldl sstep s < 4294967296
  | [], s, h0, h1 => ⟨h0, h1⟩
  | c :: cs, s, h0, h1 => fold_range cs (sstep s c) (sstep_range s c).1 (sstep_range s c).2
theorem fold_take (l : List Int) (i : Int) (h0 : 0 ≤ i) (h1 : i < l.length) (s : Int) : (l.take (i + 1).toNat).foldl sstep s = sstep ((l.take i.toNat).foldl sstep s) (rd l i) := by
  have hl : i.toNat < l.length := by omega
  have hr : rd l i = l[i.toNat] := by simp [rd, List.getD_eq_getElem?_getD, List.getElem?_eq_getElem hl]
  rw [show (i + 1).toNat = i.toNat + 1 by omega, List.take_succ_eq_append_getElem hl, List.foldl_append, hr]
  rfl
set_option maxHeartbeats 4000000 in
set_option maxRecDepth 100000 in
theorem Sum_calls (A0 : Option Addr) (c0 : Nat) (l0 : List Int) (w : World)
    (hr0 : Kd.C (Kd.int .u8) w A0 l0.length l0) (hl : l0.length ≤ 140737488355328) (hT : Tab w) :
    Calls Tryd.prog 39 #[.slice A0 l0.length c0] w
      fun e w' => e = .returned (.int .i64 (sumF l0)) ∧ w' = w := by
  have HR := Aside0.mk hr0
  have HT := Aside0.mk hT
  clear hr0 hT
  go_enter Tryd.func39, Tryd.ntmps39
  go_wp2
  go_loop [3, 8] (fun vs vi => ∃ (s i : Int), vs = .int .u32 s ∧ vi = .int .i64 i ∧ 0 ≤ i ∧ i ≤ l0.length ∧ 0 ≤ s ∧ s < 4294967296 ∧ s = (l0.take i.toNat).foldl sstep 4294967295) (fun _ vi => (l0.length - intOf vi).toNat)
  case atStart => exact ⟨_, _, rfl, rfl, by omega, by omega, by omega, by omega, rfl⟩
  case round =>
    obtain ⟨s, i, rfl, rfl, hi0, hi1, hs0, hs1, hs⟩ := hrel
    have HS := Aside0.mk hs; clear hs
    by_cases hx : i < l0.length
    · have dx : decide (i < (l0.length : Int)) = true := decide_eq_true hx
      obtain ⟨ad, e, hcell⟩ := Kd.at_int HR.out i hi0 hx
      cases e
      obtain ⟨c, hc⟩ : ∃ c, c = rd l0 i := ⟨_, rfl⟩
      rw [← hc] at hcell
      have HC := Aside0.mk hc; clear hc
      obtain ⟨f0, f1, f2⟩ := look HT.out s (c % 4294967296)
      obtain ⟨T0, hT0⟩ : ∃ T0, T0 = nib.getD (bits .and .u32 (bits .xor .u32 s (c % 4294967296)) 15).toNat 0 := ⟨_, rfl⟩
      rw [← hT0] at f2
      obtain ⟨g0, g1, g2⟩ := look HT.out (bits .xor .u32 s (c % 4294967296) / 16) T0
      obtain ⟨T1, hT1⟩ : ∃ T1, T1 = nib.getD (bits .and .u32 (bits .xor .u32 (bits .xor .u32 s (c % 4294967296) / 16) T0) 15).toNat 0 := ⟨_, rfl⟩
      rw [← hT1] at g2
      have hst : sstep s c = bits .xor .u32 (bits .xor .u32 (bits .xor .u32 s (c % 4294967296) / 16) T0 / 16) T1 := by rw [hT1, hT0]; rfl
      have HST := Aside0.mk hst; clear hst hT0 hT1
      go_wp2
      rw [← HST.out]
      refine ⟨⟨_, _, rfl, rfl, by omega, by omega, (sstep_range s c).1, (sstep_range s c).2, ?_⟩, by simp only [intOf]; omega⟩
      rw [fold_take l0 i hi0 hx, ← HS.out, ← HC.out]
    · have dx : decide (i < (l0.length : Int)) = false := decide_eq_false hx
      go_wp2
      go_ret
      have hsf : sumF l0 = 4294967295 - s := by
        rw [HS.out, List.take_of_length_le (by omega)]; rfl
      rw [hsf]
      rw [← max_xor s hs0 hs1]
      have hx2 := u32_range IntKind.u32.max s
      have hx3 : wrap64 (bits .xor .u32 IntKind.u32.max s) = bits .xor .u32 IntKind.u32.max s := by simp only [wrap64]; omega
      rw [hx3]
      exact ⟨rfl, rfl⟩
theorem sumF_range (l : List Int) : 0 ≤ sumF l ∧ sumF l < 4294967296 := by
  have := fold_range l 4294967295 (by decide) (by decide)
  unfold sumF; omega
def frameF (l : List Int) : List Int := l ++ [sumF l % 256, sumF l / 256 % 256, sumF l / 65536 % 256, sumF l / 16777216]
set_option maxHeartbeats 4000000 in
set_option maxRecDepth 100000 in
theorem Frame_calls (A0 : Option Addr) (c0 : Nat) (l0 : List Int) (w : World)
    (hr0 : Kd.C (Kd.int .u8) w A0 l0.length l0) (hl : l0.length ≤ 140737488355318) (hT : Tab w) :
    Calls Tryd.prog 15 #[.slice A0 l0.length c0] w
      fun e w' => ∃ v, e = .returned v ∧ Kd.R (Kd.int .u8) 5 w' w.heap.size (fun _ => True) v (frameF l0) ∧ Below w.heap.size w w' := by
  have HR := Aside0.mk hr0
  have HT := Aside0.mk hT
  have hs := sumF_range l0
  have hff : frameF l0 = l0 ++ [sumF l0 % 256, sumF l0 / 256 % 256, sumF l0 / 65536 % 256, sumF l0 / 16777216] := rfl
  rw [hff]
  have hc := Sum_calls A0 c0 l0 w hr0 (by omega) hT
  clear hr0 hT hff
  generalize sumF l0 = s at hs hc ⊢
  go_enter Tryd.func15, Tryd.ntmps15
  go_wp2_with fail
  ((with_reducible refine hc.mono ?_); rintro e_ W1 ⟨rfl, rfl⟩)
  clear hc
  go_wp2_with fail
  have hC : Kd.C (Kd.int .u8) (W1.alloc (Obj.cells #[.int .u8 (s % 256), .int .u8 (s / 256 % 256), .int .u8 (s / 65536 % 256), .int .u8 (s / 16777216)] 5)) (some ⟨W1.heap.size, 0, none⟩) 4 [s % 256, s / 256 % 256, s / 65536 % 256, s / 16777216] := C_pre W1 [s % 256, s / 256 % 256, s / 65536 % 256, s / 16777216] [] 5 (by simp) _ rfl
  ((with_reducible refine (concat_two' (W1.heap.size + 1) A0 (some ⟨W1.heap.size, 0, none⟩) c0 4 4 l0 [s % 256, s / 256 % 256, s / 65536 % 256, s / 16777216] _ rfl (pair_cells W1 _ _ _ _).1 (pair_cells W1 _ _ _ _).2 (Kd.C_alloc (Kd.C_alloc HR.out _) _) (Kd.C_alloc hC _) (by omega)).mono ?_); rintro e_ W2 ⟨v0, rfl, ho_, hb_⟩)
  clear hC
  have HO0 := Aside0.mk (Kd.R_lower ho_ (two_below W1 _ _).2); have HB := Aside0.mk (below_step (two_below W1 _ _).1 hb_)
  clear ho_ hb_
  go_wp2
  go_ret
  exact ⟨_, rfl, HO0.out, HB.out⟩
end Go.Proofs.YteidgpaakoeefaaDoor
namespace Go.Proofs.YteidgpaakoeefaaDoor
open Go.RowKit Go.Proofs.YteidgpaakoeefaaDoorW.PrintWords Go.Proofs.YteidgpaakoeefaaDoorW.PrintLast Go.Proofs.YteidgpaakoeefaaDoorW.PrintMore
set_option linter.unusedVariables false
set_option maxRecDepth 100000
set_option linter.unusedSimpArgs false
def RS (base : Nat) (w : World) (v : Value) (xs : List Int) : Prop := ∃ sp, RF base w v xs sp
theorem RS.nil (base : Nat) (w : World) : RS base w (.slice none 0 0) [] := ⟨[], RF.nil _ _⟩
theorem RS.lower {base base' : Nat} {w : World} {v : Value} {xs : List Int} (h : RS base w v xs) (hb : base' ≤ base) : RS base' w v xs := by
  obtain ⟨sp, h⟩ := h
  exact ⟨sp, h.lower hb⟩
theorem RS.below {base : Nat} {w w1 : World} {v : Value} {xs : List Int} (h : RS base w v xs) (hb : Below w.heap.size w w1) : RS base w1 v xs := by
  obtain ⟨sp, h⟩ := h
  exact ⟨sp, h.below hb⟩
theorem RF.take0 {base : Nat} {w : World} {A : Option Addr} {c : Nat} {xs sp : List Int} (h : RF base w (.slice A xs.length c) xs sp) (hx : ∀ x ∈ xs, 0 ≤ x ∧ x < 256) : RS base w (.slice A 0 c) [] := by
  refine ⟨xs ++ sp, ?_⟩
  rcases h with ⟨h1, rfl, rfl⟩ | ⟨g, h1, h2, h3, h4, h5⟩
  · cases h1
    exact RF.nil _ _
  · cases h1
    refine .inr ⟨g, by simp, h2, by simpa using h3, by simpa using h4, fun x hm => ?_⟩
    rcases List.mem_append.1 hm with hm | hm
    · exact hx x hm
    · exact h5 x hm
set_option maxHeartbeats 2000000 in
set_option maxRecDepth 100000 in
theorem grow_nilF (n : Int) (w : World) (h0 : 0 ≤ n) (hn : n ≤ 140737488355328) :
    Calls Tryd.prog 67 #[.slice none 0 0, .int .i64 n] w
      fun e w' => ∃ v, e = .returned v ∧ RS w.heap.size w' v [] ∧ Below w.heap.size w w' := by
  have HB := Aside0.mk (Below.refl w.heap.size w)
  by_cases hz : n = 0
  · subst hz
    go_enter Tryd.func67, Tryd.ntmps67
    go_wp2
    go_ret
    exact ⟨_, rfl, RS.nil _ _, HB.out⟩
  · have hp : 0 < n := by omega
    go_enter Tryd.func67, Tryd.ntmps67
    go_wp2_with (first | ((with_reducible refine gate_builtin (b := .append) (xs := #[.tmp 20, .tmp 21]) rfl ?_); at_builtin; refine wp_rf_zeros (w0 := w) w.heap.size rfl (.tmp 20) (.tmp 21) rfl n rfl rfl hp HB.out (Nat.le_refl _) hn ?_; intro v1 w1 sp1 ho hb; have HO := Aside0.mk ho; clear HB; have HB := Aside0.mk hb; clear ho hb; obtain ⟨A1, c1, hv⟩ := Kd.R_slice HO.out.R; subst hv; obtain ⟨i0, hi0, _, hsz0, _⟩ := info_parts infoB; obtain ⟨hcut, hA⟩ := print_take_int (P := Tryd.prog) (k := .i64) 30 5 Tryd.underlying30 hi0 hsz0 A1 c1 (List.replicate n.toNat 0) 0 (by omega) (by omega) (by have := (Kd.R_reads' HO.out.R).2.1; simpa using this)))
    go_ret
    exact ⟨_, rfl, HO.out.take0 (zeros_range _), HB.out⟩
def CRowF (w : World) (l0 l1 : List Int) (wr : World) (v vi : Value) : Prop :=
  Below w.heap.size w wr ∧ ((vi = .int .i64 0 ∧ RS w.heap.size wr v []) ∨ (vi = .int .i64 1 ∧ RS w.heap.size wr v l0) ∨
    (vi = .int .i64 2 ∧ RS w.heap.size wr v (l0 ++ l1)))
set_option maxHeartbeats 4000000 in
set_option maxRecDepth 100000 in
theorem concat_twoF (g : Nat) (A0 A1 : Option Addr) (c0 c1 : Nat) (l0 l1 : List Int) (w : World)
    (hg0 : w.cell? ⟨g, 0, none⟩ = some (.slice A0 l0.length c0)) (hg1 : w.cell? ⟨g, 1, none⟩ = some (.slice A1 l1.length c1))
    (hr0 : Kd.C (Kd.int .u8) w A0 l0.length l0) (hr1 : Kd.C (Kd.int .u8) w A1 l1.length l1) (hl : l0.length + l1.length ≤ 140737488355328) :
    Calls Tryd.prog 40 #[.slice (some ⟨g, 0, none⟩) 2 2] w
      fun e w' => ∃ v, e = .returned v ∧ RS w.heap.size w' v (l0 ++ l1) ∧ Below w.heap.size w w' := by
  have HB := Aside0.mk (Below.refl w.heap.size w)
  have HR0 := Aside0.mk hr0
  have HR1 := Aside0.mk hr1
  have hlt := World.block_lt_of_cell? w _ hg0
  have HLT : Aside0 (g < w.heap.size) := ⟨hlt⟩
  have HL := Aside0.mk hl
  clear hr0 hr1 hlt
  obtain ⟨n0, hn0⟩ : ∃ n : Nat, n = l0.length := ⟨_, rfl⟩
  obtain ⟨n1, hn1⟩ : ∃ n : Nat, n = l1.length := ⟨_, rfl⟩
  rw [← hn0] at hg0; rw [← hn1] at hg1; rw [← hn0, ← hn1] at hl
  have HN0 := Aside0.mk hn0; have HN1 := Aside0.mk hn1
  clear hn0 hn1
  go_enter Tryd.func40, Tryd.ntmps40
  go_wp2
  go_loop [3, 11] (fun vs vi => CRel n0 n1 vs vi) (fun _ vi => (2 - intOf vi).toNat)
  case atStart => exact .inl ⟨rfl, rfl⟩
  case round =>
    rcases hrel with ⟨rfl, rfl⟩ | ⟨rfl, rfl⟩ | ⟨rfl, rfl⟩
    · go_wp2
      exact ⟨.inr (.inl ⟨rfl, rfl⟩), by simp [intOf]⟩
    · go_wp2
      exact ⟨.inr (.inr ⟨rfl, rfl⟩), by simp [intOf]⟩
    · go_wp2_with fail
      ((with_reducible refine (grow_nilF _ _ (by omega) (by omega)).mono ?_); rintro e_ W1 ⟨v0, rfl, ho_, hb_⟩)
      have HO0 := Aside0.mk ho_
      clear HB; have HB := Aside0.mk hb_; clear ho_ hb_
      have hg0w := (HB.out.cell (p := ⟨g, 0, none⟩) HLT.out).trans hg0
      have hg1w := (HB.out.cell (p := ⟨g, 1, none⟩) HLT.out).trans hg1
      have HG0 := Aside0.mk hg0; have HG1 := Aside0.mk hg1
      clear hg0 hg1
      have HR0' : Aside0 (Kd.C (Kd.int .u8) w A0 n0 l0) := ⟨by rw [HN0.out]; exact HR0.out⟩
      have HR1' : Aside0 (Kd.C (Kd.int .u8) w A1 n1 l1) := ⟨by rw [HN1.out]; exact HR1.out⟩
      clear hg0w hg1w
      go_wp2
      go_loopw [6, 27] (fun v vi wr => CRowF w l0 l1 wr v vi) (fun _ vi _ => (2 - intOf vi).toNat)
      case atStart => exact ⟨HB.out, .inl ⟨rfl, HO0.out⟩⟩
      case round =>
        clear HB HO0
        obtain ⟨hb_, hcase⟩ := hrel
        have HB := Aside0.mk hb_; clear hb_
        have hg0 := (HB.out.cell (p := ⟨g, 0, none⟩) HLT.out).trans HG0.out
        have hg1 := (HB.out.cell (p := ⟨g, 1, none⟩) HLT.out).trans HG1.out
        rcases hcase with ⟨rfl, ho_⟩ | ⟨rfl, ho_⟩ | ⟨rfl, ho_⟩
        · have HO0 := Aside0.mk ho_; clear ho_
          go_wp2_with (first | ((with_reducible refine gate_builtin (b := .append) (xs := #[.tmp 31, .tmp 32]) rfl ?_); at_builtin; obtain ⟨sp0, ho_⟩ := HO0.out; refine wp_rf_rows (w0 := w) w.heap.size rfl (.tmp 31) (.tmp 32) rfl _ [] sp0 l0 _ _ _ rfl rfl ho_ (Kd.C_below HR0'.out HB.out) HB.out (below_size HB.out) (by have := HL.out; have := HN0.out; have := HN1.out; simp; omega) ?_; intro v1 w1 sp1 ho hb hg; have HO1 : Aside0 (RS w.heap.size w1 v1 _) := Aside0.mk ⟨sp1, ho⟩; clear HB; have HB := Aside0.mk hb; clear ho_ ho hb hg))
          refine ⟨⟨HB.out, .inr (.inl ⟨rfl, HO1.out⟩)⟩, by simp [intOf]⟩
        · have HO0 := Aside0.mk ho_; clear ho_
          go_wp2_with (first | ((with_reducible refine gate_builtin (b := .append) (xs := #[.tmp 31, .tmp 32]) rfl ?_); at_builtin; obtain ⟨sp0, ho_⟩ := HO0.out; refine wp_rf_rows (w0 := w) w.heap.size rfl (.tmp 31) (.tmp 32) rfl _ l0 sp0 l1 _ _ _ rfl rfl ho_ (Kd.C_below HR1'.out HB.out) HB.out (below_size HB.out) (by have := HL.out; have := HN0.out; have := HN1.out; omega) ?_; intro v1 w1 sp1 ho hb hg; have HO1 : Aside0 (RS w.heap.size w1 v1 _) := Aside0.mk ⟨sp1, ho⟩; clear HB; have HB := Aside0.mk hb; clear ho_ ho hb hg))
          exact ⟨⟨HB.out, .inr (.inr ⟨rfl, HO1.out⟩)⟩, by simp [intOf]⟩
        · have HO0 := Aside0.mk ho_; clear ho_
          go_wp2
          go_ret
          exact ⟨_, rfl, HO0.out, HB.out⟩
set_option maxHeartbeats 4000000 in
set_option maxRecDepth 100000 in
theorem concat_twoF' (g : Nat) (A0 A1 : Option Addr) (c0 c1 n1 : Nat) (l0 l1 : List Int) (w : World) (hn : l1.length = n1)
    (hg0 : w.cell? ⟨g, 0, none⟩ = some (.slice A0 l0.length c0)) (hg1 : w.cell? ⟨g, 1, none⟩ = some (.slice A1 n1 c1))
    (hr0 : Kd.C (Kd.int .u8) w A0 l0.length l0) (hr1 : Kd.C (Kd.int .u8) w A1 n1 l1) (hl : l0.length + n1 ≤ 140737488355328) :
    Calls Tryd.prog 40 #[.slice (some ⟨g, 0, none⟩) 2 2] w
      fun e w' => ∃ v, e = .returned v ∧ RS w.heap.size w' v (l0 ++ l1) ∧ Below w.heap.size w w' := by
  subst hn
  exact concat_twoF g A0 A1 c0 c1 l0 l1 w hg0 hg1 hr0 hr1 hl
set_option maxHeartbeats 4000000 in
set_option maxRecDepth 100000 in
theorem Frame_callsF (A0 : Option Addr) (c0 : Nat) (l0 : List Int) (w : World)
    (hr0 : Kd.C (Kd.int .u8) w A0 l0.length l0) (hl : l0.length ≤ 140737488355318) (hT : Tab w) :
    Calls Tryd.prog 15 #[.slice A0 l0.length c0] w
      fun e w' => ∃ v, e = .returned v ∧ RS w.heap.size w' v (frameF l0) ∧ Below w.heap.size w w' := by
  have HR := Aside0.mk hr0
  have HT := Aside0.mk hT
  have hs := sumF_range l0
  have hff : frameF l0 = l0 ++ [sumF l0 % 256, sumF l0 / 256 % 256, sumF l0 / 65536 % 256, sumF l0 / 16777216] := rfl
  rw [hff]
  have hc := Sum_calls A0 c0 l0 w hr0 (by omega) hT
  clear hr0 hT hff
  generalize sumF l0 = s at hs hc ⊢
  go_enter Tryd.func15, Tryd.ntmps15
  go_wp2_with fail
  ((with_reducible refine hc.mono ?_); rintro e_ W1 ⟨rfl, rfl⟩)
  clear hc
  go_wp2_with fail
  have hC : Kd.C (Kd.int .u8) (W1.alloc (Obj.cells #[.int .u8 (s % 256), .int .u8 (s / 256 % 256), .int .u8 (s / 65536 % 256), .int .u8 (s / 16777216)] 5)) (some ⟨W1.heap.size, 0, none⟩) 4 [s % 256, s / 256 % 256, s / 65536 % 256, s / 16777216] := C_pre W1 [s % 256, s / 256 % 256, s / 65536 % 256, s / 16777216] [] 5 (by simp) _ rfl
  ((with_reducible refine (concat_twoF' (W1.heap.size + 1) A0 (some ⟨W1.heap.size, 0, none⟩) c0 4 4 l0 [s % 256, s / 256 % 256, s / 65536 % 256, s / 16777216] _ rfl (pair_cells W1 _ _ _ _).1 (pair_cells W1 _ _ _ _).2 (Kd.C_alloc (Kd.C_alloc HR.out _) _) (Kd.C_alloc hC _) (by omega)).mono ?_); rintro e_ W2 ⟨v0, rfl, ho_, hb_⟩)
  clear hC
  have HO0 := Aside0.mk (RS.lower ho_ (two_below W1 _ _).2); have HB := Aside0.mk (below_step (two_below W1 _ _).1 hb_)
  clear ho_ hb_
  go_wp2
  go_ret
  exact ⟨_, rfl, HO0.out, HB.out⟩
end Go.Proofs.YteidgpaakoeefaaDoor
namespace Go.Proofs.YteidgpaakoeefaaDoor
open Go.RowKit Go.Proofs.YteidgpaakoeefaaDoorW.PrintWords Go.Proofs.YteidgpaakoeefaaDoorW.PrintLast Go.Proofs.YteidgpaakoeefaaDoorW.PrintMore
set_option linter.unusedVariables false
set_option linter.unusedSimpArgs false
def rtF (l : List Int) (at_ : Int) : ByteArray × Int × Int :=
  if (tk l at_ 9).2.2 ≠ 0 then (ByteArray.empty, 0, (tk l at_ 9).2.2)
  else if 65536 < (tk l at_ 9).1 then (ByteArray.empty, 0, 2)
  else if (l.length : Int) - (tk l at_ 9).2.1 < (tk l at_ 9).1 then (ByteArray.empty, 0, 3)
  else (strOfNums ((l.take ((tk l at_ 9).2.1 + (tk l at_ 9).1).toNat).drop (tk l at_ 9).2.1.toNat), (tk l at_ 9).2.1 + (tk l at_ 9).1, 0)
set_option maxHeartbeats 4000000 in
set_option maxRecDepth 100000 in
theorem ReadText_calls (A0 : Option Addr) (c0 : Nat) (l0 : List Int) (at_ : Int) (w : World)
    (hr0 : Kd.C (Kd.int .u8) w A0 l0.length l0) (hc0 : l0.length ≤ c0) (hb : ∀ x ∈ l0, 0 ≤ x ∧ x < 256) (hl : l0.length ≤ 140737488355318) (ha1 : -9223372036854775808 ≤ at_) (ha2 : at_ ≤ 9223372036854775807) :
    Calls Tryd.prog 94 #[.slice A0 l0.length c0, .int .i64 at_] w
      fun e w' => e = .returned (.tuple #[.string (rtF l0 at_).1, .int .i64 (rtF l0 at_).2.1, .int .i64 (rtF l0 at_).2.2]) ∧ w' = w := by
  have hc := ReadNum_calls A0 c0 l0 at_ w hr0 hc0 hb hl ha1 ha2
  have hr := tk_range l0 at_ 9 (by decide) (by decide) hb
  rw [show ((128 ^ (9 : Int).toNat : Nat) : Int) = 9223372036854775808 by decide] at hr
  have hf : rtF l0 at_ = if (tk l0 at_ 9).2.2 ≠ 0 then (ByteArray.empty, 0, (tk l0 at_ 9).2.2) else if 65536 < (tk l0 at_ 9).1 then (ByteArray.empty, 0, 2)
    else if (l0.length : Int) - (tk l0 at_ 9).2.1 < (tk l0 at_ 9).1 then (ByteArray.empty, 0, 3)
    else (strOfNums ((l0.take ((tk l0 at_ 9).2.1 + (tk l0 at_ 9).1).toNat).drop (tk l0 at_ 9).2.1.toNat), (tk l0 at_ 9).2.1 + (tk l0 at_ 9).1, 0) := rfl
  rw [hf]
  clear hf
  generalize tk l0 at_ 9 = t at hc hr ⊢
  obtain ⟨z, p, e⟩ := t
  simp only [] at hc hr ⊢
  have hsub : wrap64 ((l0.length : Int) - p) = (l0.length : Int) - p := by simp only [wrap64]; omega
  by_cases h1 : e ≠ 0
  · rw [if_pos h1]
    have b1 : (e == 0) = false := beq_eq_false_iff_ne.mpr h1
    have b2 : (e != 0) = true := bne_iff_ne.mpr h1
    clear h1 hr0 hc0 hb hr
    go_enter Tryd.func94, Tryd.ntmps94
    go_wp2_with fail
    ((with_reducible refine hc.mono ?_); rintro e_ W1 ⟨rfl, rfl⟩)
    clear hc
    go_wp2
    go_ret3
    exact ⟨rfl, rfl⟩
  · rw [if_neg h1]
    have he : e = 0 := by omega
    subst he
    clear h1
    by_cases h2 : 65536 < z
    · rw [if_pos h2]
      have d2 : decide (65536 < z) = true := decide_eq_true h2
      clear h2 hr0 hc0 hb hr
      go_enter Tryd.func94, Tryd.ntmps94
      go_wp2_with fail
      ((with_reducible refine hc.mono ?_); rintro e_ W1 ⟨rfl, rfl⟩)
      clear hc
      go_wp2
      go_ret3
      exact ⟨rfl, rfl⟩
    · rw [if_neg h2]
      have d2 : decide (65536 < z) = false := decide_eq_false h2
      by_cases h3 : (l0.length : Int) - p < z
      · rw [if_pos h3]
        have d3 : decide ((l0.length : Int) - p < z) = true := decide_eq_true h3
        clear h2 h3 hr0 hc0 hb
        go_enter Tryd.func94, Tryd.ntmps94
        go_wp2_with fail
        ((with_reducible refine hc.mono ?_); rintro e_ W1 ⟨rfl, rfl⟩)
        clear hc
        go_wp2
        go_ret3
        exact ⟨rfl, rfl⟩
      · rw [if_neg h3]
        have d3 : decide ((l0.length : Int) - p < z) = false := decide_eq_false h3
        obtain ⟨i0, hi0, _, hsz0, _⟩ := info_parts infoB
        have hadd : wrap64 (p + z) = p + z := by simp only [wrap64]; omega
        obtain ⟨A1, hcut, hA, hc1⟩ := print_mid_of (P := Tryd.prog) (Value.int .u8) (0 : Int) 30 5 .i64 .i64 Tryd.underlying30 hi0 hsz0 A0 c0 l0 p (p + z) (by omega) (by omega) (by omega) hc0
        have hC1 : Kd.C (Kd.int .u8) w A1 ((l0.take (p + z).toNat).drop p.toNat).length ((l0.take (p + z).toNat).drop p.toNat) := Kd.C_of_reads (h1 := fun _ => rfl) (hA w (Kd.reads_of_C hr0))
        have s1 := Kd.C_string (P := Tryd.prog) (c := c0 - p.toNat) Tryd.underlying30 Tryd.underlying5 Tryd.underlying9 hC1
        have hlen : ((l0.take (p + z).toNat).drop p.toNat).length = z.toNat := by rw [List.length_drop, List.length_take]; omega
        rw [hlen] at s1
        generalize strOfNums ((l0.take (p + z).toNat).drop p.toNat) = S at s1 ⊢
        have hcut' : ∀ W : World, (Instr.slice 30 (.slice A0 l0.length c0) (some (.int .i64 p)) (some (.int .i64 (p + z))) none).run Tryd.prog W = .ok (.slice A1 z.toNat (c0 - p.toNat)) W := by
          intro W; have := hcut W; rw [hlen] at this; exact this
        clear h2 h3 hr0 hb hA hC1 hcut hc1 hlen
        go_enter Tryd.func94, Tryd.ntmps94
        go_wp2_with fail
        ((with_reducible refine hc.mono ?_); rintro e_ W1 ⟨rfl, rfl⟩)
        clear hc
        go_wp2
        go_ret3
        rw [hadd]
        exact ⟨rfl, rfl⟩
end Go.Proofs.YteidgpaakoeefaaDoor
namespace Go.Proofs.YteidgpaakoeefaaDoor
open Go.RowKit Go.Proofs.YteidgpaakoeefaaDoorW.PrintWords Go.Proofs.YteidgpaakoeefaaDoorW.PrintLast Go.Proofs.YteidgpaakoeefaaDoorW.PrintMore
set_option linter.unusedVariables false
set_option linter.unusedSimpArgs false
theorem C_preM (w : World) (xs : List Int) (rest : List Value) (ty : TypeId) (fr : Nat × Nat) (hl : xs.length ≤ 9223372036854775807) (w1 : World) (hw : w1 = w.alloc (Obj.cells (xs.map (Value.int .u8) ++ rest).toArray ty fr)) :
    Kd.C (Kd.int .u8) w1 (some ⟨w.heap.size, 0, none⟩) xs.length xs := by
  subst hw
  refine C_of_cells hl (fun j x hx => ?_)
  have hj : j < xs.length := (List.getElem?_eq_some_iff.1 hx).1
  have h1 : (xs.map (Value.int .u8) ++ rest)[j]? = some (.int .u8 x) := by rw [List.getElem?_append_left (by simpa using hj), List.getElem?_map, hx]; rfl
  rw [World.cell?_alloc_mark]
  simpa using h1
theorem conv_mark (w : World) (C : Array Value) (n : Nat) : (convert 30 30 (.slice (some ⟨w.heap.size, 0, none⟩) n n)).run Tryd.prog (w.alloc (Obj.cells C 5)) =
    .ok (.slice (some ⟨w.heap.size, 0, none⟩) n n) (w.alloc (Obj.cells C 5 (C.size, C.size + 1))) := by
  have hsh : (w.alloc (.cells C 5)).shape? w.heap.size = some (5, C.size) := by
    have : (w.alloc (.cells C 5)).heap[w.heap.size]? = some (.cells C 5) := by
      show (w.heap.push (.cells C 5))[w.heap.size]? = _
      simp
    unfold World.shape?
    rw [this]
  have hfr : (w.alloc (.cells C 5)).freeze ⟨w.heap.size, C.size, none⟩ 1 = w.alloc (.cells C 5 (C.size, C.size + 1)) := by
    have hm : ∀ (a : Array Obj) (x : Obj) (f : Obj → Obj), (a.push x).modify a.size f = a.push (f x) := by
      intro a x f
      apply Array.ext
      · simp
      · intro i h1 h2
        simp only [Array.getElem_modify, Array.getElem_push]
        by_cases h : a.size = i
        · subst h
          simp
        · have hi : i < a.size := by simp at h1; omega
          simp [h, hi]
    unfold World.freeze
    rw [if_neg (by decide)]
    show ({ w.alloc (.cells C 5) with heap := (w.heap.push (.cells C 5)).modify w.heap.size _ } : World) = _
    rw [hm]
    rfl
  simp [convert, run_underlying Tryd.underlying30, run_underlying Tryd.underlying5, markStringish, hsh]
  exact hfr
end Go.Proofs.YteidgpaakoeefaaDoor
namespace Go.Proofs.YteidgpaakoeefaaDoor
open Go.RowKit Go.Proofs.YteidgpaakoeefaaDoorW.PrintWords Go.Proofs.YteidgpaakoeefaaDoorW.PrintLast Go.Proofs.YteidgpaakoeefaaDoorW.PrintMore
set_option linter.unusedVariables false
set_option linter.unusedSimpArgs false
def vl (z : Nat) : Nat := (venc z).length
theorem vl_lt {z : Nat} (h : z < 128) : vl z = 1 := by rw [vl, venc_lt h]; rfl
theorem vl_ge {z : Nat} (h : ¬ z < 128) : vl z = 1 + vl (z / 128) := by rw [vl, venc_ge h, List.length_cons, ← vl]; omega
end Go.Proofs.YteidgpaakoeefaaDoor
namespace Go.Proofs.YteidgpaakoeefaaDoor
open Go.RowKit Go.Proofs.YteidgpaakoeefaaDoorW.PrintWords Go.Proofs.YteidgpaakoeefaaDoorW.PrintLast Go.Proofs.YteidgpaakoeefaaDoorW.PrintMore
set_option linter.unusedVariables false
set_option linter.unusedSimpArgs false
theorem rdw_venc (most : Int) : ∀ (k z : Nat), z < k → ∀ (rest : List Int) (i : Nat) (acc : Int), (i : Int) + vl z ≤ most → most ≤ 10 → (i ≤ 9 → z * 128 ^ i < 18446744073709551616) → (0 < i → 0 < z) →
    rdw most (venc z ++ rest) i acc = (acc + (z : Int) * (128 ^ i : Nat), (i : Int) + (vl z : Int), (0 : Int))
  | 0, z, h, _, _, _, _, _, _, _ => by omega
  | k + 1, z, h, rest, i, acc, hm, hm2, hb, hp => by
    have hvp : 0 < vl z := venc_pos z
    have hi9 : i ≤ 9 := by omega
    have hb := hb hi9
    by_cases hz : z < 128
    · rw [vl_lt hz] at hm ⊢
      rw [venc_lt hz, List.singleton_append, rdw]
      have h9 : ¬ ((i : Int) = most ∨ ((i : Int) = 9 ∧ (1 : Int) < (z : Int))) := by
        rintro (h1 | ⟨h1, h2⟩)
        · omega
        · have : i = 9 := by omega
          subst this
          rw [show 128 ^ 9 = 9223372036854775808 by decide] at hb
          omega
      rw [if_neg h9, if_pos (by omega), if_neg (by omega), Int.toNat_natCast]
      rfl
    · rw [vl_ge hz] at hm ⊢
      rw [venc_ge hz, List.cons_append, rdw]
      have hvp2 : 0 < vl (z / 128) := venc_pos _
      have hi8 : i ≤ 8 := by omega
      have h9 : ¬ ((i : Int) = most ∨ ((i : Int) = 9 ∧ (1 : Int) < ((z % 128 + 128 : Nat) : Int))) := by omega
      rw [if_neg h9, if_neg (by omega), Int.toNat_natCast]
      have ih := rdw_venc most k (z / 128) (by omega) rest (i + 1) (acc + (((z % 128 + 128 : Nat) : Int) - 128) * (128 ^ i : Nat)) (by omega) hm2 (by
        intro _
        rw [Nat.pow_succ]
        have h1 : z / 128 * (128 ^ i * 128) = z / 128 * 128 * 128 ^ i := by rw [Nat.mul_comm (128 ^ i), Nat.mul_assoc]
        have h2 : z / 128 * 128 * 128 ^ i ≤ z * 128 ^ i := Nat.mul_le_mul_right _ (by omega)
        omega) (by omega)
      rw [show ((i : Int) + 1) = ((i + 1 : Nat) : Int) by omega, ih]
      congr 1
      · rw [Nat.pow_succ]
        have h3 : (z : Int) = (z % 128 : Nat) + 128 * ((z / 128 : Nat) : Int) := by omega
        have h4 : (z : Int) * ((128 ^ i : Nat) : Int) = ((z % 128 : Nat) : Int) * ((128 ^ i : Nat) : Int) + 128 * ((z / 128 : Nat) : Int) * ((128 ^ i : Nat) : Int) := by
          conv => lhs; rw [h3]
          rw [Int.add_mul]
        rw [h4, show (((z % 128 + 128 : Nat) : Int) - 128) = ((z % 128 : Nat) : Int) by omega, Int.natCast_mul, Int.mul_comm ((128 ^ i : Nat) : Int), ← Int.mul_assoc, Int.mul_comm ((z / 128 : Nat) : Int), Int.add_assoc]
        rfl
      · rw [show ((i : Int) + ((1 + vl (z / 128) : Nat) : Int)) = ((i + 1 : Nat) : Int) + (vl (z / 128) : Int) by omega]
theorem tk_venc (a r : List Int) (z : Nat) (most : Int) (h10 : most ≤ 10) (hv : (vl z : Int) ≤ most) (hz : z < 18446744073709551616) :
    tk (a ++ venc z ++ r) a.length most = ((z : Int), (a.length : Int) + (vl z : Int), (0 : Int)) := by
  have hl : ((a ++ venc z ++ r).length : Int) = a.length + (venc z).length + r.length := by simp; omega
  have hd : (a ++ venc z ++ r).drop (a.length : Int).toNat = venc z ++ r := by
    rw [Int.toNat_natCast, List.append_assoc, List.drop_left]
  have h := rdw_venc most (z + 1) z (by omega) r 0 0 (by omega) h10 (by intro _; simpa using hz) (by omega)
  rw [show ((0 : Nat) : Int) = 0 from rfl] at h
  rw [tk, if_neg (by omega), hd, h]
  simp
theorem vl9 {z : Nat} (h : z < 9223372036854775808) : vl z ≤ 9 := venc_len 8 _ (by omega)
theorem vl10 {z : Nat} (h : z < 18446744073709551616) : vl z ≤ 10 := venc_len 9 _ (by omega)
theorem uz_zz (n : Int) : uz (zz n) = n := by
  unfold zz uz; split <;> split <;> omega
theorem zz_uz (z : Int) (h : 0 ≤ z) : zz (uz z) = z := by
  unfold zz uz; split <;> split <;> omega
theorem rdw_back (most : Int) : ∀ (l : List Int) (i : Nat) (acc : Int), (∀ x ∈ l, 0 ≤ x ∧ x < 256) → (rdw most l i acc).2.2 = 0 →
    ∃ z : Nat, (rdw most l i acc).1 = acc + z * (128 ^ i : Nat) ∧ (rdw most l i acc).2.1 = i + vl z ∧ l.take (vl z) = venc z ∧ (0 < i → 0 < z) ∧ vl z ≤ l.length
  | [], i, acc, _, h => by
    rw [rdw] at h; split at h <;> simp at h
  | c :: cs, i, acc, hb, h => by
    have hc := hb c List.mem_cons_self
    rw [rdw] at h ⊢
    by_cases e1 : (i : Int) = most ∨ ((i : Int) = 9 ∧ 1 < c)
    · rw [if_pos e1] at h; simp at h
    · rw [if_neg e1] at h ⊢
      by_cases e2 : c < 128
      · rw [if_pos e2] at h ⊢
        by_cases e3 : c = 0 ∧ 0 < (i : Int)
        · rw [if_pos e3] at h; simp at h
        · rw [if_neg e3]
          refine ⟨c.toNat, ?_, ?_, ?_, by omega, ?_⟩
          · rw [Int.toNat_natCast, Int.toNat_of_nonneg hc.1]
          · rw [vl_lt (by omega)]; rfl
          · rw [vl_lt (by omega), venc_lt (by omega)]; simp; omega
          · rw [vl_lt (by omega)]; simp
      · rw [if_neg e2] at h ⊢
        have hcast : ((i : Int) + 1) = ((i + 1 : Nat) : Int) := by omega
        rw [hcast] at h ⊢
        obtain ⟨z, h1, h2, h3, h4, h5⟩ := rdw_back most cs (i + 1) _ (fun x hx => hb x (List.mem_cons_of_mem _ hx)) h
        have hz0 := h4 (by omega)
        have hge : ¬ (128 * z + (c - 128).toNat) < 128 := by omega
        have hdiv : (128 * z + (c - 128).toNat) / 128 = z := by omega
        have hmod : (128 * z + (c - 128).toNat) % 128 = (c - 128).toNat := by omega
        refine ⟨128 * z + (c - 128).toNat, ?_, ?_, ?_, by omega, ?_⟩
        · rw [h1, Int.toNat_natCast, Nat.pow_succ]
          rw [show ((128 * z + (c - 128).toNat : Nat) : Int) = 128 * (z : Int) + (c - 128) by omega, Int.add_mul, Int.natCast_mul, Int.mul_comm ((128 ^ i : Nat) : Int), ← Int.mul_assoc, Int.mul_comm (z : Int)]
          rw [Int.add_assoc, Int.add_comm ((c - 128) * _)]
          rfl
        · rw [h2, vl_ge hge, hdiv]; omega
        · rw [vl_ge hge, hdiv, venc_ge hge, hdiv, hmod, Nat.add_comm 1, List.take_succ_cons, h3]
          congr 1
          omega
        · rw [vl_ge hge, hdiv, List.length_cons]; omega
theorem tk_back (l : List Int) (at_ most : Int) (hb : ∀ x ∈ l, 0 ≤ x ∧ x < 256) (h : (tk l at_ most).2.2 = 0) :
    0 ≤ at_ ∧ at_ ≤ (tk l at_ most).2.1 ∧ (tk l at_ most).2.1 ≤ l.length ∧ (l.take (tk l at_ most).2.1.toNat).drop at_.toNat = venc (tk l at_ most).1.toNat := by
  rw [tk] at h ⊢
  by_cases e1 : at_ < 0 ∨ (l.length : Int) < at_
  · rw [if_pos e1] at h; simp at h
  · rw [if_neg e1] at h ⊢
    by_cases e2 : (rdw most (l.drop at_.toNat) 0 0).2.2 = 0
    · rw [if_pos e2]
      obtain ⟨z, h1, h2, h3, _, h5⟩ := rdw_back most (l.drop at_.toNat) 0 0 (fun x hx => hb x (List.mem_of_mem_drop hx)) e2
      rw [show ((0 : Nat) : Int) = 0 from rfl] at h1 h2
      have hl : (l.drop at_.toNat).length = l.length - at_.toNat := List.length_drop
      have hz : (rdw most (l.drop at_.toNat) 0 0).1 = (z : Int) := by rw [h1]; simp
      rw [hz, h2]
      simp only []
      refine ⟨by omega, by omega, by omega, ?_⟩
      simp only [Int.toNat_natCast]
      rw [← h3, List.drop_take]
      congr 1
      omega
    · rw [if_neg e2] at h
      exact absurd h e2
theorem tk_fail (l : List Int) (at_ most : Int) (h : (tk l at_ most).2.2 ≠ 0) : (tk l at_ most).1 = 0 ∧ (tk l at_ most).2.1 = 0 := by
  rw [tk] at h ⊢
  by_cases e1 : at_ < 0 ∨ (l.length : Int) < at_
  · rw [if_pos e1]; exact ⟨rfl, rfl⟩
  · rw [if_neg e1] at h ⊢
    by_cases e2 : (rdw most (l.drop at_.toNat) 0 0).2.2 = 0
    · rw [if_pos e2] at h; exact absurd rfl h
    · rw [if_neg e2]; exact ⟨rfl, rfl⟩
theorem str_bytes (s : ByteArray) : strOfNums (bytesOf s) = s := by
  obtain ⟨⟨l⟩⟩ := s
  unfold strOfNums bytesOf
  simp only [List.map_map]
  have : (l.map ((fun n : Int => UInt8.ofNat n.toNat) ∘ fun b : UInt8 => (b.toNat : Int))) = l := by
    conv => rhs; rw [← List.map_id l]
    apply List.map_congr_left
    intro b _
    simp
  rw [this]
theorem rt_back (a r : List Int) (s : ByteArray) (h : ¬ (65536 : Int) < (s.size : Int)) :
    rtF (a ++ venc s.size ++ bytesOf s ++ r) a.length = (s, (a.length : Int) + (vl s.size : Int) + (s.size : Int), (0 : Int)) := by
  have ht : tk (a ++ venc s.size ++ bytesOf s ++ r) a.length 9 = ((s.size : Int), (a.length : Int) + (vl s.size : Int), (0 : Int)) := by
    rw [List.append_assoc (a ++ venc s.size)]
    exact tk_venc a _ s.size 9 (by decide) (by have := vl9 (z := s.size) (by omega); omega) (by omega)
  have hbl := bytesOf_length s
  have hvl : (venc s.size).length = vl s.size := rfl
  have hl : (a ++ venc s.size ++ bytesOf s ++ r).length = a.length + vl s.size + s.size + r.length := by simp [hbl, hvl]; omega
  have htk : ((a ++ venc s.size ++ bytesOf s ++ r).take (a.length + vl s.size + s.size)).drop (a.length + vl s.size) = bytesOf s := by
    have e1 : a.length + vl s.size + s.size = (a ++ venc s.size ++ bytesOf s).length := by simp [hbl, hvl]; omega
    have e2 : a.length + vl s.size = (a ++ venc s.size).length := by simp [hvl]
    rw [e1, List.take_left, e2, List.drop_left]
  rw [rtF, ht]
  simp only []
  rw [if_neg (by simp), if_neg h, if_neg (by omega)]
  rw [show ((a.length : Int) + (vl s.size : Int) + (s.size : Int)).toNat = a.length + vl s.size + s.size by omega, show ((a.length : Int) + (vl s.size : Int)).toNat = a.length + vl s.size by omega, htk, str_bytes]
end Go.Proofs.YteidgpaakoeefaaDoor
namespace Go.Proofs.YteidgpaakoeefaaDoor
open Go.RowKit Go.Proofs.YteidgpaakoeefaaDoorW.PrintWords Go.Proofs.YteidgpaakoeefaaDoorW.PrintLast Go.Proofs.YteidgpaakoeefaaDoorW.PrintMore
set_option linter.unusedVariables false
set_option linter.unusedSimpArgs false
def val : List Int → Int
  | [] => 0
  | c :: cs => c % 128 + 128 * val cs
theorem val_nonneg : ∀ l, 0 ≤ val l
  | [] => Int.le_refl 0
  | c :: cs => by have := val_nonneg cs; rw [val]; omega
theorem val_snoc (c : Int) : ∀ a : List Int, val (a ++ [c]) = val a + c % 128 * (128 ^ a.length : Nat)
  | [] => by simp [val]
  | x :: xs => by
    rw [List.cons_append, val, val_snoc c xs, val, List.length_cons, Nat.pow_succ, Int.natCast_mul, Int.mul_add, Int.add_assoc]
    congr 1
    congr 1
    rw [← Int.mul_assoc, ← Int.mul_assoc, Int.mul_comm 128 (c % 128), Int.mul_assoc, Int.mul_assoc, Int.mul_comm (128 : Int)]
    rfl
theorem rd_get {l : List Int} {i : Nat} (h : i < l.length) : rd l (i : Int) = l[i] := by
  simp [rd, List.getD_eq_getElem?_getD, List.getElem?_eq_getElem h]
theorem val_take (R : List Int) (n : Nat) (h : n < R.length) : val (R.take (n + 1)) = val (R.take n) + rd R (n : Int) % 128 * (128 ^ n : Nat) := by
  rw [List.take_succ_eq_append_getElem h, val_snoc, rd_get h, List.length_take, Nat.min_eq_left (by omega)]
theorem val_drop (L : List Int) (i : Nat) (h : i < L.length) : val (L.drop i) = rd L (i : Int) % 128 + 128 * val (L.drop (i + 1)) := by
  rw [List.drop_eq_getElem_cons h, val, rd_get h]
theorem val_drop_le (L : List Int) : ∀ i, val (L.drop i) ≤ val L
  | 0 => by simp
  | i + 1 => by
    have h1 := val_drop_le L i
    by_cases h : i < L.length
    · have h2 := val_drop L i h
      have h3 := val_nonneg (L.drop (i + 1))
      omega
    · rw [List.drop_eq_nil_of_le (by omega)]
      exact val_nonneg L
theorem rdw_run (most : Int) (R : List Int) (hb : ∀ x ∈ R, 0 ≤ x ∧ x < 256) : ∀ n : Nat, (n : Int) ≤ most → n ≤ R.length → n ≤ 9 → (∀ j : Nat, j < n → 128 ≤ rd R (j : Int)) →
    rdw most R 0 0 = rdw most (R.drop n) n (val (R.take n))
  | 0, _, _, _, _ => by simp [val]
  | n + 1, hm, hl, h9, hc => by
    have ih := rdw_run most R hb n (by omega) (by omega) (by omega) (fun j hj => hc j (by omega))
    have hcn := hc n (by omega)
    have hcb := rd_mem hb (i := (n : Int)) (by omega) (by omega)
    have hat := rdw_at most R (n : Int) (val (R.take n)) (by omega) (by omega)
    rw [Int.toNat_natCast, if_neg (by omega), if_neg (by omega)] at hat
    rw [ih, hat, val_take R n (by omega), show ((n : Int) + 1).toNat = n + 1 by omega, show rd R (n : Int) - 128 = rd R (n : Int) % 128 by omega]
    rfl
theorem rdw_long (most : Int) (hm : most = 9 ∨ most = 10) (R : List Int) (hb : ∀ x ∈ R, 0 ≤ x ∧ x < 256) (n : Nat) (hn : (n : Int) = most) (hl : n ≤ R.length) (hc : ∀ j : Nat, j < n → 128 ≤ rd R (j : Int)) :
    rdw most R 0 0 = (0, 0, 20) := by
  rcases hm with rfl | rfl
  · have h9 : n = 9 := by omega
    subst h9
    rw [rdw_run 9 R hb 9 (by omega) hl (by omega) hc]
    cases hd : R.drop 9 with
    | nil => rw [rdw, if_pos (by decide)]
    | cons c cs => rw [rdw, if_pos (.inl rfl)]
  · have h10 : n = 10 := by omega
    subst h10
    have hat := rdw_at 10 R 9 (val (R.take 9)) (by omega) (by omega)
    have := hc 9 (by omega)
    rw [rdw_run 10 R hb 9 (by omega) (by omega) (by omega) (fun j hj => hc j (by omega))]
    rw [show ((9 : Nat) : Int) = 9 from rfl] at this ⊢
    rw [show (9 : Int).toNat = 9 from rfl] at hat
    rw [hat, if_pos (.inr ⟨rfl, by omega⟩)]
theorem rdw_end (most : Int) (R : List Int) (hb : ∀ x ∈ R, 0 ≤ x ∧ x < 256) (hm : most ≤ 10) (hn : (R.length : Int) < most) (hc : ∀ j : Nat, j < R.length → 128 ≤ rd R (j : Int)) :
    rdw most R 0 0 = (0, 0, 3) := by
  rw [rdw_run most R hb R.length (by omega) (Nat.le_refl _) (by omega) hc, List.drop_length, rdw, if_neg (by omega)]
theorem rdw_num (most : Int) (R : List Int) (hb : ∀ x ∈ R, 0 ≤ x ∧ x < 256) (hm : most ≤ 10) (n : Nat) (hn : (n : Int) < most) (hl : n < R.length) (hc : ∀ j : Nat, j < n → 128 ≤ rd R (j : Int)) (hlow : rd R (n : Int) < 128) :
    rdw most R 0 0 = if (rd R (n : Int) = 0 ∧ 0 < (n : Int)) ∨ ((n : Int) = 9 ∧ 1 < rd R (n : Int)) then (0, 0, 20) else (val (R.take (n + 1)), (n : Int) + 1, 0) := by
  have hcb := rd_mem hb (i := (n : Int)) (by omega) (by omega)
  have hat := rdw_at most R (n : Int) (val (R.take n)) (by omega) (by omega)
  rw [Int.toNat_natCast] at hat
  rw [rdw_run most R hb n (by omega) (by omega) (by omega) hc, hat]
  by_cases h1 : (n : Int) = 9 ∧ 1 < rd R (n : Int)
  · rw [if_pos (.inr h1), if_pos (.inr h1)]
  · rw [if_neg (by omega), if_pos hlow]
    by_cases h2 : rd R (n : Int) = 0 ∧ 0 < (n : Int)
    · rw [if_pos h2, if_pos (.inl h2)]
    · rw [if_neg h2, if_neg (by omega), val_take R n hl, show rd R (n : Int) % 128 = rd R (n : Int) by omega]
end Go.Proofs.YteidgpaakoeefaaDoor
namespace Go.Proofs.YteidgpaakoeefaaDoor
open Go.RowKit Go.Proofs.YteidgpaakoeefaaDoorW.PrintWords Go.Proofs.YteidgpaakoeefaaDoorW.PrintLast Go.Proofs.YteidgpaakoeefaaDoorW.PrintMore
set_option linter.unusedVariables false
set_option linter.unusedSimpArgs false
theorem rd_drop (l : List Int) (a n : Int) (ha : 0 ≤ a) (hn : 0 ≤ n) (h : a + n < l.length) : rd (l.drop a.toNat) n = rd l (a + n) := by
  obtain ⟨a, rfl⟩ := Int.eq_ofNat_of_zero_le ha
  obtain ⟨n, rfl⟩ := Int.eq_ofNat_of_zero_le hn
  rw [Int.toNat_natCast]
  have h1 : n < (l.drop a).length := by rw [List.length_drop]; omega
  rw [rd_get h1, show (a : Int) + (n : Int) = ((a + n : Nat) : Int) by omega, rd_get (by omega), List.getElem_drop]
theorem horner (R : List Int) (n : Nat) (i : Int) (h0 : 0 ≤ i) (h1 : i ≤ n) (hn : n < R.length) :
    val ((R.take (n + 1)).drop i.toNat) = rd R i % 128 + 128 * val ((R.take (n + 1)).drop (i + 1).toNat) := by
  obtain ⟨i, rfl⟩ := Int.eq_ofNat_of_zero_le h0
  have hl : (R.take (n + 1)).length = n + 1 := by rw [List.length_take]; omega
  rw [Int.toNat_natCast, val_drop _ i (by omega), show ((i : Int) + 1).toNat = i + 1 by omega, rd_get (by omega), rd_get (by omega), List.getElem_take]
set_option maxHeartbeats 4000000 in
set_option maxRecDepth 100000 in
theorem rread_calls (A0 : Option Addr) (c0 : Nat) (l0 : List Int) (at_ most : Int) (w : World)
    (hr0 : Kd.C (Kd.int .u8) w A0 l0.length l0) (hb : ∀ x ∈ l0, 0 ≤ x ∧ x < 256) (hl : l0.length ≤ 140737488355318) (ha1 : -9223372036854775808 ≤ at_) (ha2 : at_ ≤ 9223372036854775807) (hm : most = 9 ∨ most = 10) :
    Calls Tryd.prog 97 #[.slice A0 l0.length c0, .int .i64 at_, .int .i64 most] w
      fun e w' => e = .returned (.tuple #[.int .u64 (tk l0 at_ most).1, .int .i64 (tk l0 at_ most).2.1, .int .i64 (tk l0 at_ most).2.2]) ∧ w' = w := by
  have HR := Aside0.mk hr0
  clear hr0
  by_cases hat : at_ < 0 ∨ (l0.length : Int) < at_
  · have ht : tk l0 at_ most = (0, 0, 1) := if_pos hat
    rw [ht]
    rcases hat with h | h
    · have d1 : decide (at_ < 0) = true := decide_eq_true h
      clear h
      go_enter Tryd.func97, Tryd.ntmps97
      go_wp2
      go_ret3
      exact ⟨rfl, rfl⟩
    · by_cases h0 : at_ < 0
      · omega
      have d0 : decide (at_ < 0) = false := decide_eq_false h0
      have d1 : decide ((l0.length : Int) < at_) = true := decide_eq_true h
      clear h h0
      go_enter Tryd.func97, Tryd.ntmps97
      go_wp2
      go_ret3
      exact ⟨rfl, rfl⟩
  · have h0 : 0 ≤ at_ := by omega
    have h1 : at_ ≤ l0.length := by omega
    have d0 : decide (at_ < 0) = false := decide_eq_false (by omega)
    have d1 : decide ((l0.length : Int) < at_) = false := decide_eq_false (by omega)
    have hRl : (l0.drop at_.toNat).length = l0.length - at_.toNat := List.length_drop
    have hRl2 : (l0.length : Int) = at_ + ((l0.drop at_.toNat).length : Int) := by omega
    have hRb : ∀ x ∈ l0.drop at_.toNat, 0 ≤ x ∧ x < 256 := fun x hx => hb x (List.mem_of_mem_drop hx)
    have htk : tk l0 at_ most = if (rdw most (l0.drop at_.toNat) 0 0).2.2 = 0 then ((rdw most (l0.drop at_.toNat) 0 0).1, at_ + (rdw most (l0.drop at_.toNat) 0 0).2.1, 0) else (0, 0, (rdw most (l0.drop at_.toNat) 0 0).2.2) := if_neg hat
    have HRD : Aside0 (∀ n : Int, 0 ≤ n → at_ + n < l0.length → rd (l0.drop at_.toNat) n = rd l0 (at_ + n)) := ⟨fun n h2 h => rd_drop l0 at_ n h0 h2 h⟩
    have hrg := tk_range l0 at_ most (by omega) (by omega) hb
    clear hRl
    generalize l0.drop at_.toNat = R at hRl2 hRb htk HRD
    have HTK := Aside0.mk htk; have HRB := Aside0.mk hRb; have HRG := Aside0.mk hrg.2.2.1; have HL2 := Aside0.mk hRl2
    clear hat htk hRb hb hrg
    go_enter Tryd.func97, Tryd.ntmps97
    go_wp2
    go_loop [9] (fun vn => ∃ n : Int, vn = .int .i64 n ∧ 0 ≤ n ∧ n ≤ most ∧ n ≤ R.length ∧ Aside0 (∀ j : Nat, (j : Int) < n → 128 ≤ rd R (j : Int))) (fun vn => (most - intOf vn).toNat)
    case atStart => exact ⟨0, rfl, by omega, by omega, by omega, ⟨fun j hj => absurd hj (by omega)⟩⟩
    case round =>
      obtain ⟨n, rfl, hn0, hn1, hn2, HC⟩ := hrel
      by_cases e1 : n < R.length
      · have d2 : decide (at_ + n < (l0.length : Int)) = true := decide_eq_true (by omega)
        obtain ⟨ad, e, hcell⟩ := Kd.at_int HR.out (at_ + n) (by omega) (by omega)
        cases e
        have hci := HRD.out n hn0 (by omega)
        obtain ⟨c, hc⟩ : ∃ c, c = rd l0 (at_ + n) := ⟨_, rfl⟩
        rw [← hc] at hcell hci
        have hcb := rd_mem HRB.out hn0 e1
        rw [hci] at hcb
        have HCI := Aside0.mk hci
        clear hc hci
        by_cases e2 : n < most
        · have d3 : decide (n < most) = true := decide_eq_true e2
          by_cases e3 : 128 ≤ c
          · have d4 : decide (128 ≤ c) = true := decide_eq_true e3
            go_wp2
            refine ⟨⟨_, rfl, by omega, by omega, by omega, ⟨fun j hj => ?_⟩⟩, by simp only [intOf]; omega⟩
            by_cases e : (j : Int) < n
            · exact HC.out j e
            · rw [show (j : Int) = n by omega, HCI.out]; exact e3
          · have d4 : decide (128 ≤ c) = false := decide_eq_false e3
            have d5 : (n == most) = false := beq_eq_false_iff_ne.mpr (by omega)
            have d6 : (at_ + n == (l0.length : Int)) = false := beq_eq_false_iff_ne.mpr (by omega)
            have hc' : ∀ j : Nat, j < n.toNat → 128 ≤ rd R (j : Int) := fun j hj => HC.out j (by omega)
            have hrn := rdw_num most R HRB.out (by omega) n.toNat (by omega) (by omega) hc' (by rw [Int.toNat_of_nonneg hn0, HCI.out]; omega)
            rw [Int.toNat_of_nonneg hn0, HCI.out] at hrn
            by_cases g1 : (c = 0 ∧ 0 < n) ∨ (n = 9 ∧ 1 < c)
            · have hw : tk l0 at_ most = (0, 0, 20) := by
                rw [HTK.out, hrn, if_pos g1]; rfl
              have HW := Aside0.mk hw; clear hw hrn hc'
              rcases g1 with ⟨g1, g2⟩ | ⟨g1, g2⟩
              · have q1 : (c == 0) = true := beq_iff_eq.mpr g1
                have q2 : decide (0 < n) = true := decide_eq_true g2
                clear g1
                go_wp2
                go_ret3
                rw [HW.out]
                exact ⟨rfl, rfl⟩
              · have q1 : (c == 0) = false := beq_eq_false_iff_ne.mpr (by omega)
                have q2 : (n == 9) = true := beq_iff_eq.mpr g1
                have q3 : decide (1 < c) = true := decide_eq_true g2
                clear g1
                go_wp2
                go_ret3
                rw [HW.out]
                exact ⟨rfl, rfl⟩
            · have hw : tk l0 at_ most = (val (R.take (n + 1).toNat), at_ + n + 1, 0) := by
                rw [HTK.out, hrn, if_neg g1, if_pos rfl, show n.toNat + 1 = (n + 1).toNat by omega, show at_ + (n + 1) = at_ + n + 1 by omega]
              have HV : Aside0 (val (R.take (n + 1).toNat) < 18446744073709551616) := ⟨by have := HRG.out; rw [hw] at this; exact this⟩
              have HW := Aside0.mk hw; clear hw hrn hc'
              by_cases g2 : c = 0
              · have q1 : (c == 0) = true := beq_iff_eq.mpr g2
                have q2 : decide (0 < n) = false := decide_eq_false (by omega)
                have q3 : (n == 9) = false := beq_eq_false_iff_ne.mpr (by omega)
                clear g1 g2
                go_wp2
                go_loop [10, 11] (fun vz vi => ∃ z i : Int, vz = .int .u64 z ∧ vi = .int .i64 i ∧ -1 ≤ i ∧ i ≤ n ∧ Aside0 (z = val ((R.take (n + 1).toNat).drop (i + 1).toNat))) (fun _ vi => (intOf vi + 1).toNat)
                case atStart => exact ⟨0, n, rfl, rfl, by omega, by omega, ⟨by rw [List.drop_eq_nil_of_le (by rw [List.length_take]; omega)]; rfl⟩⟩
                case round =>
                  obtain ⟨z, i, rfl, rfl, hi0, hi1, HZ⟩ := hrel
                  by_cases f1 : 0 ≤ i
                  · have k1 : decide (0 ≤ i) = true := decide_eq_true f1
                    obtain ⟨ad2, e2_, hcell2⟩ := Kd.at_int HR.out (at_ + i) (by omega) (by omega)
                    cases e2_
                    have hbi := HRD.out i f1 (by omega)
                    obtain ⟨b, hbb⟩ : ∃ b, b = rd l0 (at_ + i) := ⟨_, rfl⟩
                    rw [← hbb] at hcell2 hbi
                    have hbr := rd_mem HRB.out f1 (by omega)
                    rw [hbi] at hbr
                    have HST := Aside0.mk (horner R n.toNat i f1 (by omega) (by omega))
                    have HBI := Aside0.mk hbi
                    clear hbb hbi
                    have hz64 : 0 ≤ z ∧ z < 18446744073709551616 ∧ z * 128 + b % 128 < 18446744073709551616 := by
                      have h1 := HST.out
                      have h2 := val_drop_le (R.take (n + 1).toNat) (i + 1).toNat
                      have h3 := val_drop_le (R.take (n + 1).toNat) i.toNat
                      have h4 := val_nonneg ((R.take (n + 1).toNat).drop (i + 1).toNat)
                      have h5 := HV.out
                      rw [show n.toNat + 1 = (n + 1).toNat by omega, ← HZ.out, HBI.out] at h1
                      rw [← HZ.out] at h2 h4
                      omega
                    go_wp2
                    refine ⟨⟨_, _, rfl, rfl, by omega, by omega, ⟨?_⟩⟩, by simp only [intOf]; omega⟩
                    have h1 := HST.out
                    rw [show n.toNat + 1 = (n + 1).toNat by omega, ← HZ.out, HBI.out] at h1
                    rw [show (i - 1 + 1).toNat = i.toNat by omega, h1]
                    omega
                  · have k1 : decide (0 ≤ i) = false := decide_eq_false f1
                    have hie : i = -1 := by omega
                    subst hie
                    have HWz : Aside0 (tk l0 at_ most = (z, at_ + n + 1, 0)) := ⟨by rw [HW.out, HZ.out]; rfl⟩
                    go_wp2
                    go_ret3
                    rw [HWz.out]
                    exact ⟨rfl, rfl⟩
              · have q1 : (c == 0) = false := beq_eq_false_iff_ne.mpr g2
                by_cases g3 : n = 9
                · have q2 : (n == 9) = true := beq_iff_eq.mpr g3
                  have q3 : decide (1 < c) = false := decide_eq_false (by omega)
                  have HG3 := Aside0.mk g3
                  clear g1 g2 g3
                  go_wp2
                  go_loop [10, 11] (fun vz vi => ∃ z i : Int, vz = .int .u64 z ∧ vi = .int .i64 i ∧ -1 ≤ i ∧ i ≤ n ∧ Aside0 (z = val ((R.take (n + 1).toNat).drop (i + 1).toNat))) (fun _ vi => (intOf vi + 1).toNat)
                  case atStart => exact ⟨0, n, rfl, rfl, by omega, by omega, ⟨by rw [List.drop_eq_nil_of_le (by rw [List.length_take]; omega)]; rfl⟩⟩
                  case round =>
                    obtain ⟨z, i, rfl, rfl, hi0, hi1, HZ⟩ := hrel
                    by_cases f1 : 0 ≤ i
                    · have k1 : decide (0 ≤ i) = true := decide_eq_true f1
                      obtain ⟨ad2, e2_, hcell2⟩ := Kd.at_int HR.out (at_ + i) (by omega) (by omega)
                      cases e2_
                      have hbi := HRD.out i f1 (by omega)
                      obtain ⟨b, hbb⟩ : ∃ b, b = rd l0 (at_ + i) := ⟨_, rfl⟩
                      rw [← hbb] at hcell2 hbi
                      have hbr := rd_mem HRB.out f1 (by omega)
                      rw [hbi] at hbr
                      have HST := Aside0.mk (horner R n.toNat i f1 (by omega) (by omega))
                      have HBI := Aside0.mk hbi
                      clear hbb hbi
                      have hz64 : 0 ≤ z ∧ z < 18446744073709551616 ∧ z * 128 + b % 128 < 18446744073709551616 := by
                        have h1 := HST.out
                        have h2 := val_drop_le (R.take (n + 1).toNat) (i + 1).toNat
                        have h3 := val_drop_le (R.take (n + 1).toNat) i.toNat
                        have h4 := val_nonneg ((R.take (n + 1).toNat).drop (i + 1).toNat)
                        have h5 := HV.out
                        rw [show n.toNat + 1 = (n + 1).toNat by omega, ← HZ.out, HBI.out] at h1
                        rw [← HZ.out] at h2 h4
                        omega
                      go_wp2
                      refine ⟨⟨_, _, rfl, rfl, by omega, by omega, ⟨?_⟩⟩, by simp only [intOf]; omega⟩
                      have h1 := HST.out
                      rw [show n.toNat + 1 = (n + 1).toNat by omega, ← HZ.out, HBI.out] at h1
                      rw [show (i - 1 + 1).toNat = i.toNat by omega, h1]
                      omega
                    · have k1 : decide (0 ≤ i) = false := decide_eq_false f1
                      have hie : i = -1 := by omega
                      subst hie
                      have HWz : Aside0 (tk l0 at_ most = (z, at_ + n + 1, 0)) := ⟨by rw [HW.out, HZ.out]; rfl⟩
                      go_wp2
                      go_ret3
                      rw [HWz.out]
                      exact ⟨rfl, rfl⟩
                · have q2 : (n == 9) = false := beq_eq_false_iff_ne.mpr g3
                  clear g1 g2 g3
                  go_wp2
                  go_loop [10, 11] (fun vz vi => ∃ z i : Int, vz = .int .u64 z ∧ vi = .int .i64 i ∧ -1 ≤ i ∧ i ≤ n ∧ Aside0 (z = val ((R.take (n + 1).toNat).drop (i + 1).toNat))) (fun _ vi => (intOf vi + 1).toNat)
                  case atStart => exact ⟨0, n, rfl, rfl, by omega, by omega, ⟨by rw [List.drop_eq_nil_of_le (by rw [List.length_take]; omega)]; rfl⟩⟩
                  case round =>
                    obtain ⟨z, i, rfl, rfl, hi0, hi1, HZ⟩ := hrel
                    by_cases f1 : 0 ≤ i
                    · have k1 : decide (0 ≤ i) = true := decide_eq_true f1
                      obtain ⟨ad2, e2_, hcell2⟩ := Kd.at_int HR.out (at_ + i) (by omega) (by omega)
                      cases e2_
                      have hbi := HRD.out i f1 (by omega)
                      obtain ⟨b, hbb⟩ : ∃ b, b = rd l0 (at_ + i) := ⟨_, rfl⟩
                      rw [← hbb] at hcell2 hbi
                      have hbr := rd_mem HRB.out f1 (by omega)
                      rw [hbi] at hbr
                      have HST := Aside0.mk (horner R n.toNat i f1 (by omega) (by omega))
                      have HBI := Aside0.mk hbi
                      clear hbb hbi
                      have hz64 : 0 ≤ z ∧ z < 18446744073709551616 ∧ z * 128 + b % 128 < 18446744073709551616 := by
                        have h1 := HST.out
                        have h2 := val_drop_le (R.take (n + 1).toNat) (i + 1).toNat
                        have h3 := val_drop_le (R.take (n + 1).toNat) i.toNat
                        have h4 := val_nonneg ((R.take (n + 1).toNat).drop (i + 1).toNat)
                        have h5 := HV.out
                        rw [show n.toNat + 1 = (n + 1).toNat by omega, ← HZ.out, HBI.out] at h1
                        rw [← HZ.out] at h2 h4
                        omega
                      go_wp2
                      refine ⟨⟨_, _, rfl, rfl, by omega, by omega, ⟨?_⟩⟩, by simp only [intOf]; omega⟩
                      have h1 := HST.out
                      rw [show n.toNat + 1 = (n + 1).toNat by omega, ← HZ.out, HBI.out] at h1
                      rw [show (i - 1 + 1).toNat = i.toNat by omega, h1]
                      omega
                    · have k1 : decide (0 ≤ i) = false := decide_eq_false f1
                      have hie : i = -1 := by omega
                      subst hie
                      have HWz : Aside0 (tk l0 at_ most = (z, at_ + n + 1, 0)) := ⟨by rw [HW.out, HZ.out]; rfl⟩
                      go_wp2
                      go_ret3
                      rw [HWz.out]
                      exact ⟨rfl, rfl⟩
        · have d3 : decide (n < most) = false := decide_eq_false e2
          have d5 : (n == most) = true := beq_iff_eq.mpr (by omega)
          have hw : tk l0 at_ most = (0, 0, 20) := by
            rw [HTK.out, rdw_long most hm R HRB.out n.toNat (by omega) (by omega) (fun j hj => HC.out j (by omega))]; rfl
          have HW := Aside0.mk hw; clear hw
          go_wp2
          go_ret3
          rw [HW.out]
          exact ⟨rfl, rfl⟩
      · have d2 : decide (at_ + n < (l0.length : Int)) = false := decide_eq_false (by omega)
        by_cases e2 : n = most
        · have d5 : (n == most) = true := beq_iff_eq.mpr e2
          have hw : tk l0 at_ most = (0, 0, 20) := by
            rw [HTK.out, rdw_long most hm R HRB.out n.toNat (by omega) (by omega) (fun j hj => HC.out j (by omega))]; rfl
          have HW := Aside0.mk hw; clear hw
          clear e2
          go_wp2
          go_ret3
          rw [HW.out]
          exact ⟨rfl, rfl⟩
        · have d5 : (n == most) = false := beq_eq_false_iff_ne.mpr e2
          have d6 : (at_ + n == (l0.length : Int)) = true := beq_iff_eq.mpr (by omega)
          have hw : tk l0 at_ most = (0, 0, 3) := by
            rw [HTK.out, rdw_end most R HRB.out (by omega) (by omega) (fun j hj => HC.out j (by omega))]; rfl
          have HW := Aside0.mk hw; clear hw
          clear e2
          go_wp2
          go_ret3
          rw [HW.out]
          exact ⟨rfl, rfl⟩
end Go.Proofs.YteidgpaakoeefaaDoor
namespace Go.Proofs.YteidgpaakoeefaaDoor
open Go.RowKit Go.Proofs.YteidgpaakoeefaaDoorW.PrintWords Go.Proofs.YteidgpaakoeefaaDoorW.PrintLast Go.Proofs.YteidgpaakoeefaaDoorW.PrintMore
set_option linter.unusedVariables false
set_option linter.unusedSimpArgs false
set_option maxHeartbeats 4000000 in
set_option maxRecDepth 100000 in
theorem rReadNum_calls (A0 : Option Addr) (c0 : Nat) (l0 : List Int) (at_ : Int) (w : World)
    (hr0 : Kd.C (Kd.int .u8) w A0 l0.length l0) (hc0 : l0.length ≤ c0) (hb : ∀ x ∈ l0, 0 ≤ x ∧ x < 256) (hl : l0.length ≤ 140737488355318) (ha1 : -9223372036854775808 ≤ at_) (ha2 : at_ ≤ 9223372036854775807) :
    Calls Tryd.prog 75 #[.slice A0 l0.length c0, .int .i64 at_] w
      fun e w' => e = .returned (.tuple #[.int .i64 (tk l0 at_ 9).1, .int .i64 (tk l0 at_ 9).2.1, .int .i64 (tk l0 at_ 9).2.2]) ∧ w' = w := by
  have hc := rread_calls A0 c0 l0 at_ 9 w hr0 hb hl ha1 ha2 (.inl rfl)
  have hr := tk_range l0 at_ 9 (by decide) (by decide) hb
  rw [show ((128 ^ (9 : Int).toNat : Nat) : Int) = 9223372036854775808 by decide] at hr
  generalize tk l0 at_ 9 = t at hc hr ⊢
  have hw : wrap64 t.1 = t.1 := by simp only [wrap64]; omega
  have HW := Aside0.mk hw
  clear hr0 hc0 hb hr hw
  go_enter Tryd.func75, Tryd.ntmps75
  go_wp2_with fail
  ((with_reducible refine hc.mono ?_); rintro e_ W1 ⟨rfl, rfl⟩)
  go_wp2
  go_ret3
  rw [HW.out]
  exact ⟨rfl, rfl⟩
set_option maxHeartbeats 4000000 in
set_option maxRecDepth 100000 in
theorem rReadText_calls (A0 : Option Addr) (c0 : Nat) (l0 : List Int) (at_ : Int) (w : World)
    (hr0 : Kd.C (Kd.int .u8) w A0 l0.length l0) (hc0 : l0.length ≤ c0) (hb : ∀ x ∈ l0, 0 ≤ x ∧ x < 256) (hl : l0.length ≤ 140737488355318) (ha1 : -9223372036854775808 ≤ at_) (ha2 : at_ ≤ 9223372036854775807) :
    Calls Tryd.prog 77 #[.slice A0 l0.length c0, .int .i64 at_] w
      fun e w' => e = .returned (.tuple #[.string (rtF l0 at_).1, .int .i64 (rtF l0 at_).2.1, .int .i64 (rtF l0 at_).2.2]) ∧ w' = w := by
  have hc := rReadNum_calls A0 c0 l0 at_ w hr0 hc0 hb hl ha1 ha2
  have hr := tk_range l0 at_ 9 (by decide) (by decide) hb
  rw [show ((128 ^ (9 : Int).toNat : Nat) : Int) = 9223372036854775808 by decide] at hr
  have hf : rtF l0 at_ = if (tk l0 at_ 9).2.2 ≠ 0 then (ByteArray.empty, 0, (tk l0 at_ 9).2.2) else if 65536 < (tk l0 at_ 9).1 then (ByteArray.empty, 0, 2)
    else if (l0.length : Int) - (tk l0 at_ 9).2.1 < (tk l0 at_ 9).1 then (ByteArray.empty, 0, 3)
    else (strOfNums ((l0.take ((tk l0 at_ 9).2.1 + (tk l0 at_ 9).1).toNat).drop (tk l0 at_ 9).2.1.toNat), (tk l0 at_ 9).2.1 + (tk l0 at_ 9).1, 0) := rfl
  rw [hf]
  clear hf
  generalize tk l0 at_ 9 = t at hc hr ⊢
  obtain ⟨z, p, e⟩ := t
  simp only [] at hc hr ⊢
  have hsub : wrap64 ((l0.length : Int) - p) = (l0.length : Int) - p := by simp only [wrap64]; omega
  by_cases h1 : e ≠ 0
  · rw [if_pos h1]
    have b1 : (e == 0) = false := beq_eq_false_iff_ne.mpr h1
    have b2 : (e != 0) = true := bne_iff_ne.mpr h1
    clear h1 hr0 hc0 hb hr
    go_enter Tryd.func77, Tryd.ntmps77
    go_wp2_with fail
    ((with_reducible refine hc.mono ?_); rintro e_ W1 ⟨rfl, rfl⟩)
    clear hc
    go_wp2
    go_ret3
    exact ⟨rfl, rfl⟩
  · rw [if_neg h1]
    have he : e = 0 := by omega
    subst he
    clear h1
    by_cases h2 : 65536 < z
    · rw [if_pos h2]
      have d2 : decide (65536 < z) = true := decide_eq_true h2
      clear h2 hr0 hc0 hb hr
      go_enter Tryd.func77, Tryd.ntmps77
      go_wp2_with fail
      ((with_reducible refine hc.mono ?_); rintro e_ W1 ⟨rfl, rfl⟩)
      clear hc
      go_wp2
      go_ret3
      exact ⟨rfl, rfl⟩
    · rw [if_neg h2]
      have d2 : decide (65536 < z) = false := decide_eq_false h2
      by_cases h3 : (l0.length : Int) - p < z
      · rw [if_pos h3]
        have d3 : decide ((l0.length : Int) - p < z) = true := decide_eq_true h3
        clear h2 h3 hr0 hc0 hb
        go_enter Tryd.func77, Tryd.ntmps77
        go_wp2_with fail
        ((with_reducible refine hc.mono ?_); rintro e_ W1 ⟨rfl, rfl⟩)
        clear hc
        go_wp2
        go_ret3
        exact ⟨rfl, rfl⟩
      · rw [if_neg h3]
        have d3 : decide ((l0.length : Int) - p < z) = false := decide_eq_false h3
        obtain ⟨i0, hi0, _, hsz0, _⟩ := info_parts infoB
        have hadd : wrap64 (p + z) = p + z := by simp only [wrap64]; omega
        obtain ⟨A1, hcut, hA, hc1⟩ := print_mid_of (P := Tryd.prog) (Value.int .u8) (0 : Int) 30 5 .i64 .i64 Tryd.underlying30 hi0 hsz0 A0 c0 l0 p (p + z) (by omega) (by omega) (by omega) hc0
        have hC1 : Kd.C (Kd.int .u8) w A1 ((l0.take (p + z).toNat).drop p.toNat).length ((l0.take (p + z).toNat).drop p.toNat) := Kd.C_of_reads (h1 := fun _ => rfl) (hA w (Kd.reads_of_C hr0))
        have s1 := Kd.C_string (P := Tryd.prog) (c := c0 - p.toNat) Tryd.underlying30 Tryd.underlying5 Tryd.underlying9 hC1
        have hlen : ((l0.take (p + z).toNat).drop p.toNat).length = z.toNat := by rw [List.length_drop, List.length_take]; omega
        rw [hlen] at s1
        generalize strOfNums ((l0.take (p + z).toNat).drop p.toNat) = S at s1 ⊢
        have hcut' : ∀ W : World, (Instr.slice 30 (.slice A0 l0.length c0) (some (.int .i64 p)) (some (.int .i64 (p + z))) none).run Tryd.prog W = .ok (.slice A1 z.toNat (c0 - p.toNat)) W := by
          intro W; have := hcut W; rw [hlen] at this; exact this
        clear h2 h3 hr0 hb hA hC1 hcut hc1 hlen
        go_enter Tryd.func77, Tryd.ntmps77
        go_wp2_with fail
        ((with_reducible refine hc.mono ?_); rintro e_ W1 ⟨rfl, rfl⟩)
        clear hc
        go_wp2
        go_ret3
        rw [hadd]
        exact ⟨rfl, rfl⟩
set_option maxHeartbeats 4000000 in
set_option maxRecDepth 100000 in
theorem rReadInt_calls (A0 : Option Addr) (c0 : Nat) (l0 : List Int) (at_ : Int) (w : World)
    (hr0 : Kd.C (Kd.int .u8) w A0 l0.length l0) (hb : ∀ x ∈ l0, 0 ≤ x ∧ x < 256) (hl : l0.length ≤ 140737488355318) (ha1 : -9223372036854775808 ≤ at_) (ha2 : at_ ≤ 9223372036854775807) :
    Calls Tryd.prog 76 #[.slice A0 l0.length c0, .int .i64 at_] w
      fun e w' => e = .returned (.tuple #[.int .i64 (uz (tk l0 at_ 10).1), .int .i64 (tk l0 at_ 10).2.1, .int .i64 (tk l0 at_ 10).2.2]) ∧ w' = w := by
  have hc := rread_calls A0 c0 l0 at_ 10 w hr0 hb hl ha1 ha2 (.inr rfl)
  have hr := tk_range l0 at_ 10 (by decide) (by decide) hb
  have hf := tk_fail l0 at_ 10
  generalize tk l0 at_ 10 = t at hc hr hf ⊢
  obtain ⟨z, p, e⟩ := t
  simp only [] at hc hr hf ⊢
  clear hr0 hb
  by_cases h1 : e = 0
  · subst h1
    have hz := hr.1; have hz2 := hr.2.2.1
    clear hf hr
    by_cases h2 : z % 2 = 1
    · have b2 : (z % 2 == 1) = true := beq_iff_eq.mpr h2
      have hu : uz z = -(z / 2) - 1 := if_pos h2
      have HU := Aside0.mk hu
      clear hu
      go_enter Tryd.func76, Tryd.ntmps76
      go_wp2_with fail
      ((with_reducible refine hc.mono ?_); rintro e_ W1 ⟨rfl, rfl⟩)
      clear hc
      go_wp2
      go_ret3
      rw [HU.out]
      exact ⟨rfl, rfl⟩
    · have b2 : (z % 2 == 1) = false := beq_eq_false_iff_ne.mpr h2
      have hu : uz z = z / 2 := if_neg h2
      have HU := Aside0.mk hu
      clear hu h2
      go_enter Tryd.func76, Tryd.ntmps76
      go_wp2_with fail
      ((with_reducible refine hc.mono ?_); rintro e_ W1 ⟨rfl, rfl⟩)
      clear hc
      go_wp2
      go_ret3
      rw [HU.out]
      exact ⟨rfl, rfl⟩
  · have b1 : (e != 0) = true := bne_iff_ne.mpr h1
    obtain ⟨rfl, rfl⟩ := hf h1
    clear hf hr h1
    go_enter Tryd.func76, Tryd.ntmps76
    go_wp2_with fail
    ((with_reducible refine hc.mono ?_); rintro e_ W1 ⟨rfl, rfl⟩)
    clear hc
    go_wp2
    go_ret3
    rw [show uz 0 = 0 by decide]
    exact ⟨rfl, rfl⟩
end Go.Proofs.YteidgpaakoeefaaDoor
namespace Go.Proofs.YteidgpaakoeefaaDoor
open Go.RowKit Go.Proofs.YteidgpaakoeefaaDoorW.PrintWords Go.Proofs.YteidgpaakoeefaaDoorW.PrintLast Go.Proofs.YteidgpaakoeefaaDoorW.PrintMore
set_option linter.unusedVariables false
set_option maxRecDepth 100000
set_option linter.unusedSimpArgs false
theorem made_one (z : Value) (n : Nat) : madeCells #[z] n = (List.replicate n z).toArray := by
  apply Array.ext
  · simp [madeCells]
  · intro i h1 h2
    simp [madeCells, Nat.mod_one]
theorem infoS : (Tryd.prog.info? 5).map (·.size) = some 1 := by kernel_rfl
theorem lent_copy (w : World) (A0 : Option Addr) (c0 : Nat) (l0 : List Int) (hr : Kd.C (Kd.int .u8) w A0 l0.length l0) :
    (Builtin.copy_ #[30, 30] 3 #[.slice (some ⟨w.heap.size, 0, none⟩) l0.length (l0.length + 3), .slice A0 l0.length c0]).run Tryd.prog (w.alloc (.cells (madeCells #[.int .u8 0] (l0.length + 3)) 5)) =
      .ok (goInt l0.length) (w.alloc (.cells (l0.map (Value.int .u8) ++ [Value.int .u8 0, Value.int .u8 0, Value.int .u8 0]).toArray 5)) := by
  rw [made_one]
  by_cases h0 : l0.length = 0
  · have hnil : l0 = [] := List.eq_nil_of_length_eq_zero h0
    subst hnil
    have h := run_copy_none (P := Tryd.prog) (w.alloc (.cells (List.replicate 3 (Value.int .u8 0)).toArray 5)) 30 30 3 5 (some ⟨w.heap.size, 0, none⟩) A0 0 3 0 c0 Tryd.underlying30 infoS (by simp)
    exact h
  · have hrd := Kd.C_alloc hr (.cells (List.replicate (l0.length + 3) (Value.int .u8 0)).toArray 5)
    obtain ⟨ad, hA, _⟩ := hr.2.2 (by omega)
    subst hA
    have hsrc : ∀ j v, (l0.map (Value.int .u8))[j]? = some v → (w.alloc (.cells (List.replicate (l0.length + 3) (Value.int .u8 0)).toArray 5)).cell? (ad.add j) = some v := by
      intro j v hj
      obtain ⟨x, hx, rfl⟩ : ∃ x, l0[j]? = some x ∧ v = .int .u8 x := by
        rw [List.getElem?_map] at hj
        cases hg : l0[j]? with
        | none => rw [hg] at hj; simp at hj
        | some x => rw [hg] at hj; simp at hj; exact ⟨x, rfl, hj.symm⟩
      have hjl : j < l0.length := (List.getElem?_eq_some_iff.1 hx).1
      obtain ⟨ad2, e, hc⟩ := Kd.at_int hrd (j : Int) (by omega) (by omega)
      cases e
      rw [Int.toNat_natCast, rd_get hjl] at hc
      rw [hc]
      have := (List.getElem?_eq_some_iff.1 hx).2
      rw [this]
    have h := run_copy_row (P := Tryd.prog) (w.alloc (.cells (List.replicate (l0.length + 3) (Value.int .u8 0)).toArray 5)) 30 30 3 5 w.heap.size 0 l0.length (l0.length + 3) ad l0.length c0 _ 5 (l0.map (Value.int .u8)) Tryd.underlying30 infoS (MapKept.heap_alloc w _).1 (by simp) hsrc (by simp) (by intro v hv; obtain ⟨x, _, rfl⟩ := List.mem_map.1 hv; rfl)
    rw [List.length_map] at h
    rw [h, World.setRow_alloc_new]
    congr 4
    simp
def spareC (l0 : List Int) (k : Nat) : Array Value := (l0.map (Value.int .u8) ++ (List.replicate k (Value.int .u8 77) ++ List.replicate (3 - k) (Value.int .u8 0))).toArray
theorem spare_at (l0 : List Int) (k : Nat) (hk : k < 3) : (spareC l0 k)[l0.length + k]? = some (.int .u8 0) ∧ (spareC l0 k).setIfInBounds (l0.length + k) (.int .u8 77) = spareC l0 (k + 1) := by
  have h3 : k = 0 ∨ k = 1 ∨ k = 2 := by omega
  constructor
  · rcases h3 with rfl | rfl | rfl <;> simp [spareC, List.getElem?_append_right]
  · have hl : (l0.map (Value.int .u8)).length = l0.length := by simp
    unfold spareC
    rw [List.setIfInBounds_toArray, List.set_append_right _ _ (by rw [hl]; omega), hl]
    congr 2
    rcases h3 with rfl | rfl | rfl <;> simp [List.replicate, List.set]
set_option maxHeartbeats 4000000 in
set_option maxRecDepth 100000 in
theorem Lent_calls (A0 : Option Addr) (c0 : Nat) (l0 : List Int) (w : World)
    (hr0 : Kd.C (Kd.int .u8) w A0 l0.length l0) (hl : l0.length ≤ 140737488355318) :
    Calls Tryd.prog 16 #[.slice A0 l0.length c0] w
      fun e w' => ∃ g, e = .returned (.slice (some ⟨g, 0, none⟩) l0.length (l0.length + 3)) ∧ w.heap.size ≤ g ∧ w'.heap[g]? = some (.cells (l0.map (Value.int .u8) ++ [Value.int .u8 77, Value.int .u8 77, Value.int .u8 77]).toArray 5 (0, 0)) ∧ Below w.heap.size w w' := by
  have HR := Aside0.mk hr0
  clear hr0
  obtain ⟨n, hn⟩ : ∃ n, n = l0.length := ⟨_, rfl⟩
  rw [← hn] at hl ⊢
  have HN := Aside0.mk hn; clear hn
  have hmk : ∀ W : World, (Instr.makeSlice 30 (.int .i64 (n : Int)) (.int .i64 ((n : Int) + 3))).run Tryd.prog W = .ok (.slice (some ⟨W.heap.size, 0, none⟩) n (n + 3)) (W.alloc (.cells (madeCells #[.int .u8 0] (n + 3)) 5)) := by
    intro W
    obtain ⟨i0, hi0, hz0, hsz0, hby⟩ := info_parts infoB
    have h := run_make (P := Tryd.prog) W 30 5 i0 (.int .u8 0) Tryd.underlying30 hi0 hz0 .i64 .i64 (n : Int) ((n : Int) + 3) (by omega) (by omega) (by rw [hby]; omega) (by omega)
    rw [hsz0, Nat.mul_one, show ((n : Int) + 3).toNat = n + 3 by omega, Int.toNat_natCast] at h
    exact h
  go_enter Tryd.func16, Tryd.ntmps16
  have hcp := lent_copy w A0 c0 l0 HR.out
  rw [← HN.out] at hcp
  go_wp2
  go_loopw [5] (fun v5 wr => ∃ i : Int, v5 = .int .i64 i ∧ (n : Int) ≤ i ∧ i ≤ (n : Int) + 3 ∧ Aside0 (wr.heap[w.heap.size]? = some (.cells (spareC l0 (i - (n : Int)).toNat) 5 (0, 0))) ∧ Aside0 (Below w.heap.size w wr)) (fun v5 _ => ((n : Int) + 3 - intOf v5).toNat)
  case atStart => exact ⟨_, rfl, by omega, by omega, ⟨by rw [show ((n : Int) - (n : Int)).toNat = 0 by omega]; exact (MapKept.heap_alloc w _).1⟩, ⟨below_alloc (Below.refl _ _) _⟩⟩
  case round =>
    obtain ⟨i, rfl, hi0, hi1, BK, HB⟩ := hrel
    by_cases hx : i < (n : Int) + 3
    · have dx : decide (i < (n : Int) + 3) = true := decide_eq_true hx
      obtain ⟨f1, f2⟩ := spare_at l0 (i - (n : Int)).toNat (by omega)
      rw [← HN.out, show n + (i - (n : Int)).toNat = i.toNat by omega] at f1 f2
      rw [show (i - (n : Int)).toNat + 1 = (i + 1 - (n : Int)).toNat by omega] at f2
      have hcl := (blk_cell BK.out i.toNat).trans f1
      have hfr := blk_frozen BK.out i.toNat
      have BK2 := Aside0.mk (blk_put BK.out i.toNat (.int .u8 77) f2)
      have HB2 := Aside0.mk (below_set HB.out (g := w.heap.size) (j := i.toNat) (v := .int .u8 77) (Nat.le_refl _))
      clear f1 f2
      go_wp2
      exact ⟨⟨i + 1, rfl, by omega, by omega, BK2, HB2⟩, by simp only [intOf]; omega⟩
    · have dx : decide (i < (n : Int) + 3) = false := decide_eq_false hx
      have hie : (i - (n : Int)).toNat = 3 := by omega
      rw [hie] at BK
      go_wp2
      go_ret
      exact ⟨_, rfl, Nat.le_refl _, by rw [BK.out]; rfl, HB.out⟩
end Go.Proofs.YteidgpaakoeefaaDoor
namespace Go.Proofs.YteidgpaakoeefaaDoor
open Go.RowKit Go.Proofs.YteidgpaakoeefaaDoorW.PrintWords Go.Proofs.YteidgpaakoeefaaDoorW.PrintLast Go.Proofs.YteidgpaakoeefaaDoorW.PrintMore
set_option linter.unusedVariables false
set_option maxRecDepth 100000
set_option linter.unusedSimpArgs false
theorem spare3_lo (l0 : List Int) (i : Nat) (h : i < l0.length) : (spareC l0 3)[i]? = some (.int .u8 (rd l0 (i : Int))) := by
  simp [spareC, List.getElem?_append_left, h, rd_get h]
theorem spare3_hi (l0 : List Int) (i : Nat) (h : l0.length ≤ i) (h2 : i < l0.length + 3) : (spareC l0 3)[i]? = some (.int .u8 77) := by
  have : i = l0.length + 0 ∨ i = l0.length + 1 ∨ i = l0.length + 2 := by omega
  rcases this with rfl | rfl | rfl <;> simp [spareC, List.getElem?_append_right, List.replicate]
end Go.Proofs.YteidgpaakoeefaaDoor
namespace Go.Proofs.YteidgpaakoeefaaDoor
open Go.RowKit Go.Proofs.YteidgpaakoeefaaDoorW.PrintWords Go.Proofs.YteidgpaakoeefaaDoorW.PrintLast Go.Proofs.YteidgpaakoeefaaDoorW.PrintMore
set_option linter.unusedVariables false
set_option maxRecDepth 100000
set_option linter.unusedSimpArgs false
theorem grown_set {W w : World} {g j : Nat} {v : Value} (h : W.grownBy w (some g)) : W.grownBy (w.setCell ⟨g, j, none⟩ v) (some g) := by
  have h2 := Below.setCell (B := g) (a := w) (w := w) ⟨rfl, rfl, rfl, Nat.le_refl _, fun _ _ => rfl⟩ (p := ⟨g, j, none⟩) (Nat.le_refl _) v
  refine ⟨h2.os.trans h.os, h2.tape.trans h.tape, h2.output.trans h.output, Nat.le_trans h.size h2.size, fun k hk hne => ?_⟩
  rw [Below.heap_setCell w ⟨g, j, none⟩ v k (fun e => hne (by rw [e]))]
  exact h.block k hk hne
theorem grown_drewN {W w : World} {row : Option Nat} (h : W.grownBy w row) (n : Nat) : W.grownBy (w.drewN n) row := ⟨h.os, h.tape, h.output, h.size, h.block⟩
theorem grown_back {W w : World} {g : Nat} (h : W.grownBy w (some g)) (hg : w.heap[g]? = W.heap[g]?) : Below W.heap.size W w :=
  ⟨h.os, h.tape, h.output, h.size, fun k hk => by
    by_cases e : k = g
    · rw [e]; exact hg
    · exact h.block k hk (fun e2 => e (by injection e2))⟩
def Fl (M : List Int) (k : Int) (cs : Array Value) : Prop := cs.size = M.length ∧ ∀ j : Nat, j < M.length → cs[j]? = some (.int .u8 (if (j : Int) < k then 255 - rd M (j : Int) else rd M (j : Int)))
theorem Fl.start (M : List Int) : Fl M 0 (M.map (Value.int .u8)).toArray := ⟨by simp, fun j hj => by
  rw [if_neg (by omega)]
  simp [rd_get' hj, hj]⟩
theorem Fl.step {M : List Int} {k : Int} {cs : Array Value} (h : Fl M k cs) (h0 : 0 ≤ k) (h1 : k < M.length) :
    Fl M (k + 1) (cs.setIfInBounds k.toNat (.int .u8 (255 - rd M k))) := by
  refine ⟨by simpa using h.1, fun j hj => ?_⟩
  by_cases e : j = k.toNat
  · subst e
    rw [Array.getElem?_setIfInBounds_self_of_lt (by rw [h.1]; exact hj), if_pos (by omega), Int.toNat_of_nonneg h0]
  · rw [Array.getElem?_setIfInBounds_ne (by omega), h.2 j hj]
    by_cases hk : (j : Int) < k
    · rw [if_pos hk, if_pos (by omega)]
    · rw [if_neg hk, if_neg (by omega)]
def Bk (M : List Int) (k : Int) (cs : Array Value) : Prop := cs.size = M.length ∧ ∀ j : Nat, j < M.length → cs[j]? = some (.int .u8 (if (j : Int) < k then rd M (j : Int) else 255 - rd M (j : Int)))
theorem Bk.start {M : List Int} {k : Int} {cs : Array Value} (h : Fl M k cs) (hk : (M.length : Int) ≤ k) : Bk M 0 cs := ⟨h.1, fun j hj => by
  rw [h.2 j hj, if_pos (by omega), if_neg (by omega)]⟩
theorem Bk.step {M : List Int} {k : Int} {cs : Array Value} (h : Bk M k cs) (h0 : 0 ≤ k) (h1 : k < M.length) :
    Bk M (k + 1) (cs.setIfInBounds k.toNat (.int .u8 (rd M k))) := by
  refine ⟨by simpa using h.1, fun j hj => ?_⟩
  by_cases e : j = k.toNat
  · subst e
    rw [Array.getElem?_setIfInBounds_self_of_lt (by rw [h.1]; exact hj), if_pos (by omega), Int.toNat_of_nonneg h0]
  · rw [Array.getElem?_setIfInBounds_ne (by omega), h.2 j hj]
    by_cases hk : (j : Int) < k
    · rw [if_pos hk, if_pos (by omega)]
    · rw [if_neg hk, if_neg (by omega)]
theorem RF.form {base : Nat} {w : World} {v : Value} {xs sp : List Int} (h : RF base w v xs sp) :
    ∃ A, v = .slice A xs.length (xs ++ sp).length ∧ ((A = none ∧ xs ++ sp = []) ∨ ∃ g, A = some ⟨g, 0, none⟩ ∧ w.heap[g]? = some (.cells ((xs ++ sp).map (Value.int .u8)).toArray 5 (0, 0))) ∧ (∀ x ∈ sp, 0 ≤ x ∧ x < 256) ∧ (xs ++ sp).length ≤ 9223372036854775807 := by
  rcases h with ⟨rfl, rfl, rfl⟩ | ⟨g, rfl, h2, h3, h4, h5⟩
  · exact ⟨none, rfl, .inl ⟨rfl, rfl⟩, by simp, by simp⟩
  · exact ⟨_, by rw [List.length_append], .inr ⟨g, rfl, h3⟩, h5, by rw [List.length_append]; simpa [maxLen] using h4⟩
theorem RF.move {base : Nat} {w w1 : World} {v : Value} {xs sp : List Int} (h : RF base w v xs sp) (hm : ∀ b, v.ownBlock = some b → b < w.heap.size → w1.heap[b]? = w.heap[b]?) : RF base w1 v xs sp := by
  rcases h with h | ⟨g, h1, h2, h3, h4⟩
  · exact .inl h
  · refine .inr ⟨g, h1, h2, ?_, h4⟩
    rw [hm g (by rw [h1]; rfl) (Array.getElem?_eq_some_iff.1 h3).1]
    exact h3
def St (W1 : World) (A : Option Addr) (M : List Int) (F : Array Value → Prop) (wr : World) : Prop :=
  (A = none ∧ M = [] ∧ Below W1.heap.size W1 wr) ∨ ∃ g cs, A = some ⟨g, 0, none⟩ ∧ W1.grownBy wr (some g) ∧ wr.heap[g]? = some (.cells cs 5 (0, 0)) ∧ F cs
theorem St.far {W1 wr : World} {A : Option Addr} {M : List Int} {F : Array Value → Prop} (h : St W1 A M F wr) {b : Nat} (hb : b < W1.heap.size) (hne : ∀ o, A ≠ some ⟨b, o, none⟩) : wr.heap[b]? = W1.heap[b]? := by
  rcases h with ⟨_, _, h⟩ | ⟨g, cs, rfl, h, _⟩
  · exact h.block b hb
  · exact h.block b hb (fun e => by injection e with e; subst e; exact hne 0 rfl)
theorem St.drewN {W1 wr : World} {A : Option Addr} {M : List Int} {F : Array Value → Prop} (h : St W1 A M F wr) (k : Nat) : St W1 A M F (wr.drewN k) := by
  rcases h with ⟨h1, h2, h⟩ | ⟨g, cs, rfl, h, h3⟩
  · exact .inl ⟨h1, h2, pw_below_drewN h k⟩
  · exact .inr ⟨g, cs, rfl, grown_drewN h k, h3⟩
theorem St.back {W1 wr : World} {A : Option Addr} {M : List Int} {F : Array Value → Prop} (h : St W1 A M F wr) (hF : ∀ cs, F cs → cs = (M.map (Value.int .u8)).toArray)
    (hA : ∀ g, A = some ⟨g, 0, none⟩ → W1.heap[g]? = some (.cells (M.map (Value.int .u8)).toArray 5 (0, 0))) : Below W1.heap.size W1 wr := by
  rcases h with ⟨_, _, h⟩ | ⟨g, cs, h1, h2, h3, h4⟩
  · exact h
  · exact grown_back h2 (by rw [h3, hA g h1, hF cs h4])
theorem St.start {W1 wr : World} {A : Option Addr} {M : List Int} (hb : Below W1.heap.size W1 wr)
    (hA : (A = none ∧ M = []) ∨ ∃ g, A = some ⟨g, 0, none⟩ ∧ W1.heap[g]? = some (.cells (M.map (Value.int .u8)).toArray 5 (0, 0))) : St W1 A M (Fl M 0) wr := by
  rcases hA with ⟨h1, h2⟩ | ⟨g, h1, h2⟩
  · exact .inl ⟨h1, h2, hb⟩
  · exact .inr ⟨g, _, h1, grown_of_below hb _, by rw [hb.block g (Array.getElem?_eq_some_iff.1 h2).1]; exact h2, Fl.start M⟩
theorem St.at {W1 wr : World} {A : Option Addr} {M : List Int} {F : Array Value → Prop} (h : St W1 A M F wr) {k : Int} (h0 : 0 ≤ k) (h1 : k < M.length) :
    ∃ g cs, A = some ⟨g, 0, none⟩ ∧ W1.grownBy wr (some g) ∧ wr.heap[g]? = some (.cells cs 5 (0, 0)) ∧ F cs := by
  rcases h with ⟨_, rfl, _⟩ | h
  · simp at h1; omega
  · exact h
end Go.Proofs.YteidgpaakoeefaaDoor
namespace Go.Proofs.YteidgpaakoeefaaDoor
open Go.RowKit Go.Proofs.YteidgpaakoeefaaDoorW.PrintWords Go.Proofs.YteidgpaakoeefaaDoorW.PrintLast Go.Proofs.YteidgpaakoeefaaDoorW.PrintMore
set_option linter.unusedVariables false
set_option linter.unusedSimpArgs false
def nibN (i : Nat) : Nat := (nib.getD i 0).toNat
def nstepN (s : Nat) : Nat := (s / 16) ^^^ nibN (s % 16)
theorem nibN_lt (i : Nat) : nibN i < 4294967296 := by
  have := nib_range i
  unfold nibN; omega
theorem nibN_cast (i : Nat) : ((nibN i : Nat) : Int) = nib.getD i 0 := by
  have := nib_range i
  unfold nibN; omega
theorem nstepN_lt (s : Nat) (h : s < 4294967296) : nstepN s < 4294967296 := by
  have h1 := nibN_lt (s % 16)
  exact Nat.xor_lt_two_pow (n := 32) (by omega) (by omega)
theorem nstep_cast (s : Nat) (h : s < 4294967296) : nstep (s : Int) = ((nstepN s : Nat) : Int) := by
  have h15 := u32_and15 (s : Int) (by omega) (by omega)
  unfold nstep
  rw [h15, show ((s : Int) % 16).toNat = s % 16 by omega, ← nibN_cast, show (s : Int) / 16 = ((s / 16 : Nat) : Int) by omega, u32_xor_nat _ _ (by omega) (nibN_lt _)]
  rfl
theorem split16 (y : Nat) : 16 * (y / 16) ^^^ y % 16 = y := by
  have := Nat.two_pow_add_eq_or_of_lt (i := 4) (b := y % 16) (by omega) (y / 16)
  rw [show 2 ^ 4 * (y / 16) + y % 16 = y by omega] at this
  have hx : 2 ^ 4 * (y / 16) ^^^ y % 16 = 2 ^ 4 * (y / 16) ||| y % 16 := by
    apply Nat.eq_of_testBit_eq
    intro i
    rw [Nat.testBit_xor, Nat.testBit_or, Nat.testBit_two_pow_mul, show (16 : Nat) = 2 ^ 4 by rfl, Nat.testBit_mod_two_pow]
    by_cases hi : i < 4
    · have hn : ¬ 4 ≤ i := by omega
      simp [hi, hn]
    · simp [hi]
  rw [show (16 : Nat) * (y / 16) = 2 ^ 4 * (y / 16) by rfl, hx, ← this]
end Go.Proofs.YteidgpaakoeefaaDoor
namespace Go.Proofs.YteidgpaakoeefaaDoor.PIm
open Go.RowKit Go.Proofs.YteidgpaakoeefaaDoorW.PrintWords Go.Proofs.YteidgpaakoeefaaDoorW.PrintLast Go.Proofs.YteidgpaakoeefaaDoorW.PrintMore
attribute [local go_sem] max2_int min2_int max_two min_two max_three min_three max_four min_four   -- for this text's walks alone
set_option linter.unusedVariables false
set_option linter.unusedSimpArgs false
def slices_Equal_byte_byte.l0 : Nat → List Int → List Int → Int → Int → Option (Bool)
  | 0, _, _, _, _ => none
  | k + 1, x0, x1, x12, x13 => if x13 < x12 then (if 0 ≤ x13 then (if x13 < (x0.length : Int) then (if x13 < (x1.length : Int) then (if (rd x0 x13) = (rd x1 x13) then (slices_Equal_byte_byte.l0 k x0 x1 x12 (wrap64 (x13 + 1))) else (some false)) else (none)) else (none)) else (none)) else (some true)
def slices_Equal_byte_byte.f (k : Nat) (l0 : List Int) (l1 : List Int) : Option (Bool) := if (l0.length : Int) = (l1.length : Int) then (slices_Equal_byte_byte.l0 k l0 l1 (l0.length : Int) 0) else (some false)
set_option maxHeartbeats 8000000 in
set_option maxRecDepth 100000 in
theorem slices_Equal_byte_byte.calls (k : Nat) (A0 : Option Addr) (c0 : Nat) (l0 : List Int) (A1 : Option Addr) (c1 : Nat) (l1 : List Int) (r : Bool) (w : World) (hr0 : Kd.C (Kd.int .u8) w A0 l0.length l0) (hc0 : l0.length ≤ c0) (hr1 : Kd.C (Kd.int .u8) w A1 l1.length l1) (hc1 : l1.length ≤ c1) (h : slices_Equal_byte_byte.f k l0 l1 = some r) :
    Calls Tryd.prog 51 #[.slice A0 l0.length c0, .slice A1 l1.length c1] w fun e w' => e = .returned (.bool r) ∧ Drawn0 w w' := by
  have HR0 := Aside0.mk hr0
  have HC0 := Aside0.mk hc0
  clear hr0 hc0
  have HR1 := Aside0.mk hr1
  have HC1 := Aside0.mk hc1
  clear hr1 hc1
  have H : (if (l0.length : Int) = (l1.length : Int) then (slices_Equal_byte_byte.l0 k l0 l1 (l0.length : Int) 0) else (some false)) = some r := h
  clear h
  by_cases c3 : (l0.length : Int) = (l1.length : Int)
  · rw [if_pos c3] at H
    have c3b0 : ((l0.length : Int) == (l1.length : Int)) = true := beq_iff_eq.mpr c3
    have c3b1 : ((l0.length : Int) != (l1.length : Int)) = false := bne_eq_false_iff_eq.mpr c3
    have c3b2 : (l0.length == l1.length) = true := by first | simpa using c3 | (simp at c3 ⊢; omega)
    clear c3
    have H' := Aside0.mk H
    clear H
    go_enter Tryd.func51, Tryd.ntmps51
    go_wp2
    repeat (go_quiet (fail); try go_wp2)
    go_loopg [13] k (fun kq v13 w' => ∃ (x13_1 : Int), v13 = .int .i64 x13_1 ∧ Aside0 (slices_Equal_byte_byte.l0 kq l0 l1 (l0.length : Int) x13_1 = some r) ∧ Aside0 (kq ≤ k) ∧ Drawn0 w w')
    case atStart => exact ⟨(0), (by first | rfl | (simp; done) | (simp [*]; done)), H', ⟨Nat.le_refl _⟩, by repeat (first | exact Drawn0.refl _ | apply Drawn0.step)⟩
    case round =>
      clear H'
      try clear c1
      try clear p2
      try clear c3
      try clear c3b0
      try clear c3b1
      try clear c3b2
      obtain ⟨x13_1, rfl, HA, HK1, ⟨m1, rfl⟩⟩ := hrel
      cases gk with
      | zero => exact absurd HA.out (by simp [slices_Equal_byte_byte.l0])
      | succ k1 =>
        have H := HA.out
        clear HA
        simp only [slices_Equal_byte_byte.l0] at H
        by_cases c4 : x13_1 < (l0.length : Int)
        · rw [if_pos c4] at H
          have c4b0 : decide (x13_1 < (l0.length : Int)) = true := decide_eq_true c4
          clear c4
          by_cases c5 : 0 ≤ x13_1
          · rw [if_pos c5] at H
            have c5b0 : decide (0 ≤ x13_1) = true := decide_eq_true c5
            clear c5
            by_cases c6 : x13_1 < (l0.length : Int)
            · rw [if_pos c6] at H
              have c6b0 : decide (x13_1 < (l0.length : Int)) = true := decide_eq_true c6
              clear c6
              by_cases c7 : x13_1 < (l1.length : Int)
              · rw [if_pos c7] at H
                have c7b0 : decide (x13_1 < (l1.length : Int)) = true := decide_eq_true c7
                clear c7
                by_cases c8 : (rd l0 x13_1) = (rd l1 x13_1)
                · rw [if_pos c8] at H
                  have c8b0 : ((rd l0 x13_1) == (rd l1 x13_1)) = true := beq_iff_eq.mpr c8
                  have c8b1 : ((rd l0 x13_1) != (rd l1 x13_1)) = false := bne_eq_false_iff_eq.mpr c8
                  clear c8
                  have H' := Aside0.mk H
                  clear H
                  have p197 : 0 ≤ (x13_1 : Int) := of_decide_eq_true (by first | (with_reducible assumption) | assumption)
                  have q197 : x13_1 < (l0.length : Int) := of_decide_eq_true (by first | (with_reducible assumption) | assumption)
                  obtain ⟨ad197, e197, hx197_0⟩ := Kd.at_int HR0.out x13_1 p197 q197
                  cases e197
                  replace p197 := eq_true p197
                  replace q197 := eq_true q197
                  have p198 : 0 ≤ (x13_1 : Int) := of_decide_eq_true (by first | (with_reducible assumption) | assumption)
                  have q198 : x13_1 < (l1.length : Int) := of_decide_eq_true (by first | (with_reducible assumption) | assumption)
                  obtain ⟨ad198, e198, hx198_0⟩ := Kd.at_int HR1.out x13_1 p198 q198
                  cases e198
                  replace p198 := eq_true p198
                  replace q198 := eq_true q198
                  go_wp2
                  repeat (go_quiet (fail); try go_wp2)
                  go_roundg k1
                  case measure => have := HK1.out; omega
                  case rel => exact ⟨(wrap64 (x13_1 + 1)), (by first | rfl | (simp; done) | (simp [*]; done)), H', ⟨by have := HK1.out; omega⟩, by repeat (first | exact Drawn0.refl _ | apply Drawn0.step)⟩
                · rw [if_neg c8] at H
                  have c8b0 : ((rd l0 x13_1) == (rd l1 x13_1)) = false := beq_eq_false_iff_ne.mpr c8
                  have c8b1 : ((rd l0 x13_1) != (rd l1 x13_1)) = true := bne_iff_ne.mpr c8
                  obtain rfl := Option.some.inj H
                  have p197 : 0 ≤ (x13_1 : Int) := of_decide_eq_true (by first | (with_reducible assumption) | assumption)
                  have q197 : x13_1 < (l0.length : Int) := of_decide_eq_true (by first | (with_reducible assumption) | assumption)
                  obtain ⟨ad197, e197, hx197_0⟩ := Kd.at_int HR0.out x13_1 p197 q197
                  cases e197
                  replace p197 := eq_true p197
                  replace q197 := eq_true q197
                  have p198 : 0 ≤ (x13_1 : Int) := of_decide_eq_true (by first | (with_reducible assumption) | assumption)
                  have q198 : x13_1 < (l1.length : Int) := of_decide_eq_true (by first | (with_reducible assumption) | assumption)
                  obtain ⟨ad198, e198, hx198_0⟩ := Kd.at_int HR1.out x13_1 p198 q198
                  cases e198
                  replace p198 := eq_true p198
                  replace q198 := eq_true q198
                  go_wp2
                  repeat (go_quiet (fail); try go_wp2)
                  go_ret
                  exact ⟨by first | rfl | (simp; done) | (simp [*]; done), by repeat (first | exact Drawn0.refl _ | apply Drawn0.step)⟩
              · rw [if_neg c7] at H
                exact absurd H (by simp)
            · rw [if_neg c6] at H
              exact absurd H (by simp)
          · rw [if_neg c5] at H
            exact absurd H (by simp)
        · rw [if_neg c4] at H
          have c4b0 : decide (x13_1 < (l0.length : Int)) = false := decide_eq_false c4
          clear c4
          obtain rfl := Option.some.inj H
          go_wp2
          repeat (go_quiet (fail); try go_wp2)
          go_ret
          exact ⟨by first | rfl | (simp; done) | (simp [*]; done), by repeat (first | exact Drawn0.refl _ | apply Drawn0.step)⟩
  · rw [if_neg c3] at H
    have c3b0 : ((l0.length : Int) == (l1.length : Int)) = false := beq_eq_false_iff_ne.mpr c3
    have c3b1 : ((l0.length : Int) != (l1.length : Int)) = true := bne_iff_ne.mpr c3
    have c3b2 : (l0.length == l1.length) = false := by first | simpa using c3 | (simp at c3 ⊢; omega)
    obtain rfl := Option.some.inj H
    go_enter Tryd.func51, Tryd.ntmps51
    go_wp2
    repeat (go_quiet (fail); try go_wp2)
    go_ret
    exact ⟨by first | rfl | (simp; done) | (simp [*]; done), by repeat (first | exact Drawn0.refl _ | apply Drawn0.step)⟩
end Go.Proofs.YteidgpaakoeefaaDoor.PIm
namespace Go.Proofs.YteidgpaakoeefaaDoor
open Go.RowKit Go.Proofs.YteidgpaakoeefaaDoorW.PrintWords Go.Proofs.YteidgpaakoeefaaDoorW.PrintLast Go.Proofs.YteidgpaakoeefaaDoorW.PrintMore
set_option linter.unusedVariables false
set_option maxRecDepth 100000
set_option linter.unusedSimpArgs false
def bN (s : Nat) : Nat := if s % 2 = 1 then s / 2 ^^^ 3988292384 else s / 2
theorem bN_high (h u : Nat) : bN (2 * h ^^^ u) = h ^^^ bN u := by
  have h1 : (2 * h ^^^ u) / 2 = h ^^^ u / 2 := by
    have := Nat.xor_div_two_pow (a := 2 * h) (b := u) (n := 1)
    rw [show (2 : Nat) ^ 1 = 2 by rfl, show 2 * h / 2 = h by omega] at this
    exact this
  have h2 : (2 * h ^^^ u) % 2 = u % 2 := by
    have := Nat.xor_mod_two_pow (a := 2 * h) (b := u) (n := 1)
    rw [show (2 : Nat) ^ 1 = 2 by rfl, show 2 * h % 2 = 0 by omega, Nat.zero_xor] at this
    exact this
  unfold bN
  rw [h1, h2]
  split
  · rw [Nat.xor_assoc]
  · rfl
theorem bN_four (s : Nat) : bN (bN (bN (bN s))) = nstepN s := by
  have hs := split16 s
  have hl : ∀ u : Fin 16, bN (bN (bN (bN u.val))) = nibN u.val := by decide +kernel
  have h1 := hl ⟨s % 16, by omega⟩
  have e : bN (bN (bN (bN s))) = s / 16 ^^^ bN (bN (bN (bN (s % 16)))) := by
    conv => lhs; rw [← hs]
    rw [show 16 * (s / 16) = 2 * (8 * (s / 16)) by omega, bN_high, show 8 * (s / 16) = 2 * (4 * (s / 16)) by omega, bN_high, show 4 * (s / 16) = 2 * (2 * (s / 16)) by omega, bN_high, bN_high]
  rw [e]
  unfold nstepN
  rw [← h1]
theorem bN_lt (s : Nat) (h : s < 4294967296) : bN s < 4294967296 := by
  unfold bN
  split
  · exact Nat.xor_lt_two_pow (n := 32) (by omega) (by omega)
  · omega
def bstep (s : Int) : Int := if s % 2 = 1 then bits .xor .u32 (s / 2) 3988292384 else s / 2
theorem bstep_cast (s : Nat) (h : s < 4294967296) : bstep (s : Int) = ((bN s : Nat) : Int) := by
  unfold bstep bN
  by_cases hs : s % 2 = 1
  · rw [if_pos hs, if_pos (by omega), show (s : Int) / 2 = ((s / 2 : Nat) : Int) by omega, show (3988292384 : Int) = ((3988292384 : Nat) : Int) by rfl, u32_xor_nat _ _ (by omega) (by omega)]
  · rw [if_neg hs, if_neg (by omega)]
    omega
def bIt : Nat → Int → Int
  | 0, s => s
  | k + 1, s => bstep (bIt k s)
theorem bIt_range (s : Int) (h0 : 0 ≤ s) (h1 : s < 4294967296) : ∀ k, 0 ≤ bIt k s ∧ bIt k s < 4294967296
  | 0 => ⟨h0, h1⟩
  | k + 1 => by
    have ih := bIt_range s h0 h1 k
    show 0 ≤ bstep (bIt k s) ∧ bstep (bIt k s) < 4294967296
    unfold bstep
    split
    · exact u32_range _ _
    · omega
theorem bIt_eight (s : Int) (h0 : 0 ≤ s) (h1 : s < 4294967296) : bIt 8 s = nstep (nstep s) := by
  obtain ⟨n, rfl⟩ : ∃ n : Nat, s = (n : Int) := ⟨s.toNat, by omega⟩
  have hn : n < 4294967296 := by omega
  have b1 := bN_lt n hn; have b2 := bN_lt _ b1; have b3 := bN_lt _ b2; have b4 := bN_lt _ b3; have b5 := bN_lt _ b4; have b6 := bN_lt _ b5; have b7 := bN_lt _ b6
  simp only [bIt]
  rw [bstep_cast n hn, bstep_cast _ b1, bstep_cast _ b2, bstep_cast _ b3, bstep_cast _ b4, bstep_cast _ b5, bstep_cast _ b6, bstep_cast _ b7, bN_four, bN_four, nstep_cast n hn, nstep_cast _ (nstepN_lt n hn)]
theorem u32_and1 (x : Int) (h0 : 0 ≤ x) (h1 : x < 4294967296) : bits .and .u32 x 1 = x % 2 := bits_mask .u32 32 (by decide) wraps_u32 1 (by decide) x h0 h1
set_option maxHeartbeats 4000000 in
set_option maxRecDepth 100000 in
theorem rSum_calls (A0 : Option Addr) (c0 : Nat) (l0 : List Int) (w : World)
    (hr0 : Kd.C (Kd.int .u8) w A0 l0.length l0) (hl : l0.length ≤ 140737488355328) :
    Calls Tryd.prog 65 #[.slice A0 l0.length c0] w
      fun e w' => e = .returned (.int .i64 (sumF l0)) ∧ w' = w := by
  have HR := Aside0.mk hr0
  clear hr0
  go_enter Tryd.func65, Tryd.ntmps65
  go_wp2
  go_loop [3, 4] (fun vs vi => ∃ (s i : Int), vs = .int .u32 s ∧ vi = .int .i64 i ∧ 0 ≤ i ∧ i ≤ l0.length ∧ 0 ≤ s ∧ s < 4294967296 ∧ Aside0 (s = (l0.take i.toNat).foldl sstep 4294967295)) (fun _ vi => (l0.length - intOf vi).toNat)
  case atStart => exact ⟨_, _, rfl, rfl, by omega, by omega, by omega, by omega, ⟨rfl⟩⟩
  case round =>
    obtain ⟨s, i, rfl, rfl, hi0, hi1, hs0, hs1, HS⟩ := hrel
    by_cases hx : i < l0.length
    · have dx : decide (i < (l0.length : Int)) = true := decide_eq_true hx
      obtain ⟨ad, e, hcell⟩ := Kd.at_int HR.out i hi0 hx
      cases e
      obtain ⟨c, hc⟩ : ∃ c, c = rd l0 i := ⟨_, rfl⟩
      rw [← hc] at hcell
      have HC := Aside0.mk hc; clear hc
      have hr := u32_range s (c % 4294967296)
      obtain ⟨t, ht⟩ : ∃ t, t = bits .xor .u32 s (c % 4294967296) := ⟨_, rfl⟩
      rw [← ht] at hr
      have HTT := Aside0.mk ht
      go_wp2
      rw [← ht]
      clear ht
      go_loop [3, 5] (fun vs vk => ∃ (s k : Int), vs = .int .u32 s ∧ vk = .int .i64 k ∧ 0 ≤ k ∧ k ≤ 8 ∧ Aside0 (s = bIt k.toNat t)) (fun _ vk => (8 - intOf vk).toNat)
      case atStart => exact ⟨_, _, rfl, rfl, by omega, by omega, ⟨rfl⟩⟩
      case round =>
        obtain ⟨u, k, rfl, rfl, hk0, hk1, HU⟩ := hrel
        by_cases hy : k < 8
        · have dy : decide (k < 8) = true := decide_eq_true hy
          have hur := bIt_range t hr.1 hr.2 k.toNat
          rw [← HU.out] at hur
          have h1 := u32_and1 u hur.1 hur.2
          have hst : bIt (k + 1).toNat t = bstep u := by
            rw [show (k + 1).toNat = k.toNat + 1 by omega, HU.out]; rfl
          have HST := Aside0.mk hst; clear hst
          by_cases ho : u % 2 = 1
          · have e1 : decide (bits .and .u32 u 1 = 1) = true := by rw [h1]; exact decide_eq_true ho
            have e2 : (bits .and .u32 u 1 == 1) = true := by rw [h1, ho]; rfl
            have e3 : bits .and .u32 u 1 = 1 := by rw [h1]; exact ho
            go_wp2
            refine ⟨⟨_, k + 1, rfl, rfl, by omega, by omega, ⟨?_⟩⟩, by simp only [intOf]; omega⟩
            rw [HST.out]
            unfold bstep
            rw [if_pos ho]
          · have e1 : decide (bits .and .u32 u 1 = 1) = false := by rw [h1]; exact decide_eq_false ho
            have e2 : (bits .and .u32 u 1 == 1) = false := by rw [h1]; simpa using ho
            have e3 : ¬ bits .and .u32 u 1 = 1 := by rw [h1]; exact ho
            go_wp2
            refine ⟨⟨_, k + 1, rfl, rfl, by omega, by omega, ⟨?_⟩⟩, by simp only [intOf]; omega⟩
            rw [HST.out]
            unfold bstep
            rw [if_neg ho]
        · have dy : decide (k < 8) = false := decide_eq_false hy
          have hu8 : u = sstep s c := by
            rw [HU.out, show k.toNat = 8 by omega, bIt_eight t hr.1 hr.2, HTT.out]
            rfl
          have hrg := sstep_range s c
          rw [← hu8] at hrg
          have HU8 := Aside0.mk hu8
          clear hu8
          go_wp2
          refine ⟨⟨_, _, rfl, rfl, by omega, by omega, hrg.1, hrg.2, ⟨?_⟩⟩, by simp only [intOf]; omega⟩
          rw [fold_take l0 i hi0 hx, ← HS.out, ← HC.out, HU8.out]
    · have dx : decide (i < (l0.length : Int)) = false := decide_eq_false hx
      go_wp2
      go_ret
      have hsf : sumF l0 = 4294967295 - s := by
        rw [HS.out, List.take_of_length_le (by omega)]; rfl
      rw [hsf]
      rw [← max_xor s hs0 hs1]
      have hx2 := u32_range IntKind.u32.max s
      have hx3 : wrap64 (bits .xor .u32 IntKind.u32.max s) = bits .xor .u32 IntKind.u32.max s := by simp only [wrap64]; omega
      rw [hx3]
      exact ⟨rfl, rfl⟩
set_option maxHeartbeats 4000000 in
set_option maxRecDepth 100000 in
/-- Bytes in other memory, and others behind them. -/
theorem copied_callsF (A0 A1 : Option Addr) (c0 c1 n0 n1 : Nat) (l0 l1 : List Int) (w : World) (hn0 : l0.length = n0) (hn1 : l1.length = n1)
    (hr0 : Kd.C (Kd.int .u8) w A0 n0 l0) (hr1 : Kd.C (Kd.int .u8) w A1 n1 l1) (hl : n0 + n1 ≤ 140737488355328) :
    Calls Tryd.prog 66 #[.slice A0 n0 c0, .slice A1 n1 c1] w
      fun e w' => ∃ v, e = .returned v ∧ RS w.heap.size w' v (l0 ++ l1) ∧ Below w.heap.size w w' := by
  have HR0 := Aside0.mk hr0; have HR1 := Aside0.mk hr1; have HN0 := Aside0.mk hn0; have HN1 := Aside0.mk hn1
  clear hr0 hr1 hn0 hn1
  have HB := Aside0.mk (below_alloc (Below.refl w.heap.size w) (.cells #[] 5))
  have HO0 : Aside0 (RF w.heap.size (w.alloc (.cells #[] 5)) (.slice (some ⟨w.heap.size, 0, none⟩) 0 0) [] []) := ⟨.inr ⟨w.heap.size, rfl, Nat.le_refl _, (MapKept.heap_alloc w _).1, by simp, by simp⟩⟩
  go_enter Tryd.func66, Tryd.ntmps66
  go_wp2_with (first | ((with_reducible refine gate_builtin (b := .append) (xs := #[.tmp 5, .tmp 6]) rfl ?_); at_builtin; refine wp_rf_rows (w0 := w) w.heap.size rfl (.tmp 5) (.tmp 6) rfl _ [] [] l0 _ _ _ rfl rfl HO0.out (Kd.C_below HR0.out HB.out) HB.out (below_size HB.out) (by simp; omega) ?_; intro v1 w1 sp1 ho hb hg; have HO1 := Aside0.mk ho; clear HB; have HB := Aside0.mk hb; clear ho hb hg) | ((with_reducible refine gate_builtin (b := .append) (xs := #[.tmp 7, .tmp 8]) rfl ?_); at_builtin; refine wp_rf_rows (w0 := w) w.heap.size rfl (.tmp 7) (.tmp 8) rfl _ l0 sp1 l1 _ _ _ rfl rfl HO1.out (Kd.C_below HR1.out HB.out) HB.out (below_size HB.out) (by have := HN0.out; omega) ?_; intro v2 w2 sp2 ho hb hg; have HO2 := Aside0.mk ho; clear HB; have HB := Aside0.mk hb; clear ho hb hg))
  go_ret
  exact ⟨_, rfl, ⟨sp2, HO2.out⟩, HB.out⟩
end Go.Proofs.YteidgpaakoeefaaDoor
namespace Go.Proofs.YteidgpaakoeefaaDoor
open Go.RowKit Go.Proofs.YteidgpaakoeefaaDoorW.PrintWords Go.Proofs.YteidgpaakoeefaaDoorW.PrintLast Go.Proofs.YteidgpaakoeefaaDoorW.PrintMore
set_option linter.unusedVariables false
set_option maxRecDepth 100000
set_option linter.unusedSimpArgs false
set_option maxHeartbeats 4000000 in
set_option maxRecDepth 100000 in
theorem rFrame_callsF (A0 : Option Addr) (c0 m : Nat) (l0 : List Int) (w : World) (hm : l0.length = m)
    (hr0 : Kd.C (Kd.int .u8) w A0 m l0) (hl : m ≤ 140737488355318) :
    Calls Tryd.prog 38 #[.slice A0 m c0] w
      fun e w' => ∃ v, e = .returned v ∧ RS w.heap.size w' v (frameF l0) ∧ Below w.heap.size w w' := by
  have HM := Aside0.mk hm
  have hc := rSum_calls A0 c0 l0 w (by rw [hm]; exact hr0) (by omega)
  rw [hm] at hc
  have HR := Aside0.mk hr0
  have hs := sumF_range l0
  have hff : frameF l0 = l0 ++ [sumF l0 % 256, sumF l0 / 256 % 256, sumF l0 / 65536 % 256, sumF l0 / 16777216] := rfl
  rw [hff]
  clear hr0 hff hm
  generalize sumF l0 = s at hs hc ⊢
  have t1 : Int.tdiv s 256 = s / 256 := Int.tdiv_eq_ediv_of_nonneg hs.1
  have t2 : Int.tdiv s 65536 = s / 65536 := Int.tdiv_eq_ediv_of_nonneg hs.1
  have t3 : Int.tdiv s 16777216 = s / 16777216 := Int.tdiv_eq_ediv_of_nonneg hs.1
  have t4 : s / 16777216 % 256 = s / 16777216 := by omega
  go_enter Tryd.func38, Tryd.ntmps38
  go_wp2_with fail
  ((with_reducible refine hc.mono ?_); rintro e_ W1 ⟨rfl, rfl⟩)
  clear hc
  go_wp2_with fail
  have hC : Kd.C (Kd.int .u8) (W1.alloc (Obj.cells #[.int .u8 (s % 256), .int .u8 (s / 256 % 256), .int .u8 (s / 65536 % 256), .int .u8 (s / 16777216)] 5)) (some ⟨W1.heap.size, 0, none⟩) 4 [s % 256, s / 256 % 256, s / 65536 % 256, s / 16777216] := C_pre W1 [s % 256, s / 256 % 256, s / 65536 % 256, s / 16777216] [] 5 (by simp) _ rfl
  ((with_reducible refine (copied_callsF A0 (some ⟨W1.heap.size, 0, none⟩) c0 4 m 4 l0 [s % 256, s / 256 % 256, s / 65536 % 256, s / 16777216] _ HM.out rfl (Kd.C_alloc HR.out _) hC (by omega)).mono ?_); rintro e_ W2 ⟨v0, rfl, ho_, hb_⟩)
  have hb1 := below_alloc (Below.refl W1.heap.size W1) (Obj.cells #[.int .u8 (s % 256), .int .u8 (s / 256 % 256), .int .u8 (s / 65536 % 256), .int .u8 (s / 16777216)] 5)
  have HO := Aside0.mk (ho_.lower (below_size hb1)); have HB := Aside0.mk (below_step hb1 hb_)
  clear hC hb1 ho_ hb_
  go_wp2
  go_ret
  exact ⟨_, rfl, HO.out, HB.out⟩
def opF (l : List Int) : List Int × Bool := if l.length < 4 then ([], false) else if frameF (l.take (l.length - 4)) = l then (l.take (l.length - 4), true) else ([], false)
theorem equal_l0 (x y : List Int) (hl : x.length = y.length) (hm : x.length ≤ 9223372036854775806) : ∀ (k i : Nat), i ≤ x.length → x.length < k + i → PIm.slices_Equal_byte_byte.l0 k x y (x.length : Int) (i : Int) = some (decide (x.drop i = y.drop i))
  | 0, i, h, hk => by omega
  | k + 1, i, h, hk => by
    unfold PIm.slices_Equal_byte_byte.l0
    by_cases hi : i < x.length
    · have hi2 : i < y.length := by omega
      rw [if_pos (by omega), if_pos (by omega), if_pos (by omega), if_pos (by omega), rd_get' hi, rd_get' hi2, show x.drop i = x[i] :: x.drop (i + 1) from List.drop_eq_getElem_cons hi, show y.drop i = y[i] :: y.drop (i + 1) from List.drop_eq_getElem_cons hi2]
      by_cases he : x[i] = y[i]
      · rw [if_pos he, show wrap64 ((i : Int) + 1) = ((i + 1 : Nat) : Int) by simp only [wrap64]; omega, equal_l0 x y hl hm k (i + 1) (by omega) (by omega)]
        refine congrArg some (decide_eq_decide.2 ⟨fun h => by rw [he, h], fun h => by injection h⟩)
      · rw [if_neg he]
        refine congrArg some (decide_eq_false fun h => he ?_).symm
        injection h
    · rw [if_neg (by omega), List.drop_of_length_le (by omega), List.drop_of_length_le (by omega)]
      simp
theorem equal_law (x y : List Int) (hm : x.length ≤ 9223372036854775806) : PIm.slices_Equal_byte_byte.f (x.length + 1) x y = some (decide (x = y)) := by
  unfold PIm.slices_Equal_byte_byte.f
  by_cases hl : x.length = y.length
  · rw [if_pos (by omega)]
    have := equal_l0 x y hl hm (x.length + 1) 0 (by omega) (by omega)
    simpa using this
  · rw [if_neg (by omega)]
    have : x ≠ y := fun e => hl (by rw [e])
    simp [this]
theorem Equal_calls (A0 A1 : Option Addr) (c0 c1 n0 n1 : Nat) (x y : List Int) (w : World) (hn0 : x.length = n0) (hn1 : y.length = n1)
    (hr0 : Kd.C (Kd.int .u8) w A0 n0 x) (hc0 : n0 ≤ c0) (hr1 : Kd.C (Kd.int .u8) w A1 n1 y) (hc1 : n1 ≤ c1) (hm : n0 ≤ 9223372036854775806) :
    Calls Tryd.prog 51 #[.slice A0 n0 c0, .slice A1 n1 c1] w fun e w' => e = .returned (.bool (decide (x = y))) ∧ Drawn0 w w' := by
  subst hn0 hn1
  exact PIm.slices_Equal_byte_byte.calls (x.length + 1) A0 c0 x A1 c1 y _ w hr0 hc0 hr1 hc1 (equal_law x y hm)
theorem cutTo (A : Option Addr) (m c j : Nat) (hc : j ≤ c) (W : World) : (Instr.slice 30 (.slice A m c) none (some (.int .i64 (j : Int))) none).run Tryd.prog W = .ok (.slice A j c) W := by
  obtain ⟨i0, hi0, _, hsz0, _⟩ := info_parts infoB
  have ht := Tryd.underlying30
  have hel : Tryd.prog.elem 30 = 5 := by simp [Program.elem, ht]
  have hu : Tryd.prog.underlying 30 = some (.slice (Tryd.prog.elem 30)) := by rw [hel]; exact ht
  have ha : (A.map fun x => x.add 0) = A := by cases A <;> simp [Addr.add]
  rw [run_slice_h W 30 A m c hu .i64 (j : Int) (by omega) (by omega), hel]
  simp [sizeOf, typeInfo, hi0, hsz0, sliced, Result.andThen, ha]
theorem C_first {w : World} {A : Option Addr} {n : Nat} {xs : List Int} (h : Kd.C (Kd.int .u8) w A n xs) (j : Nat) (hj : j ≤ n) : Kd.C (Kd.int .u8) w A j (xs.take j) := by
  have hn : xs.length = n := h.1
  refine ⟨by rw [List.length_take]; omega, Nat.le_trans hj h.2.1, fun h0 => ?_⟩
  obtain ⟨ad, h1, h2⟩ := h.2.2 (by omega)
  exact ⟨ad, h1, fun i p hi => h2 i p (by
    rw [List.getElem?_take] at hi
    split at hi
    · exact hi
    · cases hi)⟩
end Go.Proofs.YteidgpaakoeefaaDoor
namespace Go.Proofs.YteidgpaakoeefaaDoor
open Go.RowKit Go.Proofs.YteidgpaakoeefaaDoorW.PrintWords Go.Proofs.YteidgpaakoeefaaDoorW.PrintLast Go.Proofs.YteidgpaakoeefaaDoorW.PrintMore
set_option linter.unusedVariables false
set_option maxRecDepth 100000
set_option linter.unusedSimpArgs false
theorem frameF_len (l : List Int) : (frameF l).length = l.length + 4 := by simp [frameF]
set_option maxHeartbeats 4000000 in
set_option maxRecDepth 100000 in
theorem Open_callsF (A0 : Option Addr) (c0 : Nat) (l0 : List Int) (w : World)
    (hr0 : Kd.C (Kd.int .u8) w A0 l0.length l0) (hc0 : l0.length ≤ c0) (hl : l0.length ≤ 140737488355318) (hT : Tab w) :
    Calls Tryd.prog 21 #[.slice A0 l0.length c0] w
      fun e w' => ∃ v, e = .returned (.tuple #[v, .bool (opF l0).2]) ∧ RS w.heap.size w' v (opF l0).1 ∧ Below w.heap.size w w' := by
  have HR := Aside0.mk hr0; have HT := Aside0.mk hT
  clear hr0 hT
  by_cases hs : l0.length < 4
  · have hf : opF l0 = ([], false) := if_pos hs
    rw [hf]
    clear hf
    obtain ⟨m, hm⟩ : ∃ m, m = l0.length := ⟨_, rfl⟩
    rw [← hm] at hl hs hc0 ⊢
    clear hm
    have e1 : decide ((m : Int) - 4 < 0) = true := decide_eq_true (by omega)
    go_enter Tryd.func21, Tryd.ntmps21
    go_wp2
    go_ret2
    exact ⟨_, rfl, RS.nil _ _, Below.refl _ _⟩
  · have hf : opF l0 = if frameF (l0.take (l0.length - 4)) = l0 then (l0.take (l0.length - 4), true) else ([], false) := if_neg hs
    obtain ⟨n, hn⟩ : ∃ n, l0.length = n + 4 := ⟨l0.length - 4, by omega⟩
    have hCR := HR.out
    rw [hn] at hCR hl hc0 hf ⊢
    rw [show n + 4 - 4 = n by omega] at hf
    have e1 : decide (((n + 4 : Nat) : Int) - 4 < 0) = false := decide_eq_false (by omega)
    have e0 : ((n + 4 : Nat) : Int) - 4 = (n : Int) := by omega
    have e2 : decide ((n : Int) < 0) = false := decide_eq_false (by omega)
    have hcut := cutTo A0 (n + 4) c0 n (by omega)
    have hC1 := C_first hCR n (by omega)
    have hln : (l0.take n).length = n := by rw [List.length_take]; omega
    have hfr := fun W (h : Kd.C (Kd.int .u8) W A0 n (l0.take n)) (hT : Tab W) => Frame_callsF A0 c0 (l0.take n) W (by rw [hln]; exact h) (by omega) hT
    rw [hln] at hfr
    have hfl : (frameF (l0.take n)).length = n + 4 := by rw [frameF_len, hln]
    by_cases hx : frameF (l0.take n) = l0
    · have hf2 := hf
      rw [if_pos hx] at hf2
      rw [hf2]
      have e3 : decide (frameF (l0.take n) = l0) = true := decide_eq_true hx
      have HLN := Aside0.mk hln; have HFL := Aside0.mk hfl; have HN := Aside0.mk hn; have HCR := Aside0.mk hCR; have HC1 := Aside0.mk hC1; have E3 := Aside0.mk e3; have HX := Aside0.mk hx
      clear hln hfl hn hCR hC1 hf hf2 e3 hx
      go_enter Tryd.func21, Tryd.ntmps21
      go_wp2_with fail
      ((with_reducible refine (hfr _ HC1.out HT.out).mono ?_); rintro e_ W1 ⟨v0, rfl, ho_, hb_⟩)
      obtain ⟨sp0, ho0⟩ := ho_
      obtain ⟨A1, c1, hv⟩ := Kd.R_slice ho0.R
      subst hv
      have HB := Aside0.mk hb_
      have hRR := Kd.R_reads' ho0.R
      rw [HFL.out] at hRR
      have HRR := Aside0.mk hRR
      clear hb_ ho0 hRR hfr
      rw [HFL.out]
      go_wp2_with fail
      ((with_reducible refine (Equal_calls _ _ _ _ _ _ _ _ _ HFL.out HN.out HRR.out.2.2 HRR.out.2.1 (Kd.C_below HCR.out HB.out) hc0 (by omega)).mono ?_); rintro e_ W2 ⟨rfl, hd_⟩)
      rw [E3.out]
      have HB2 := Aside0.mk (below_step HB.out hd_.below)
      clear hd_
      obtain ⟨ad, hA, hcs⟩ := HCR.out.2.2 (by omega)
      subst hA
      have hmk : ∀ W : World, (Instr.makeSlice 30 (.int .i64 0) (.int .i64 (n : Int))).run Tryd.prog W = .ok (.slice (some ⟨W.heap.size, 0, none⟩) 0 n) (W.alloc (.cells (madeCells #[.int .u8 0] n) 5)) := by
        intro W
        obtain ⟨i0, hi0, hz0, hsz0, hby⟩ := info_parts infoB
        have h := run_make (P := Tryd.prog) W 30 5 i0 (.int .u8 0) Tryd.underlying30 hi0 hz0 .i64 .i64 (0 : Int) (n : Int) (by omega) (by omega) (by rw [hby]; omega) (by omega)
        rw [hsz0, Nat.mul_one, Int.toNat_natCast] at h
        exact h
      have hC2 := C_cells (Kd.C_drew (Kd.C_alloc (C_first (Kd.C_below HCR.out HB2.out) n (by omega)) (.cells (madeCells #[.int .u8 0] n) 5))) HLN.out.symm
      have hload : (loadCellsFrom ad 0 n #[]).run Tryd.prog (W2.alloc (.cells (madeCells #[.int .u8 0] n) 5)).drew = .ok ((l0.take n).map (Value.int .u8)).toArray (W2.alloc (.cells (madeCells #[.int .u8 0] n) 5)).drew := by
        have h := run_loadCells_list (P := Tryd.prog) _ ad _ hC2
        rw [List.length_map, HLN.out] at h
        exact h
      have hmn : (madeCells #[Value.int .u8 0] n).size = n := by simp [madeCells]
      have hstore : (storeCells ⟨W2.heap.size, 0, none⟩ ((l0.take n).map (Value.int .u8))).run Tryd.prog (W2.alloc (.cells (madeCells #[.int .u8 0] n) 5)).drew = .ok () (W2.alloc (.cells ((l0.take n).map (Value.int .u8)).toArray 5)).drew := by
        have h := run_storeCells_at Tryd.prog W2.heap.size 0 5 ((l0.take n).map (Value.int .u8)) 0 (madeCells #[.int .u8 0] n) (W2.alloc (.cells (madeCells #[.int .u8 0] n) 5)).drew (MapKept.heap_alloc W2 _).1 (by rw [hmn, List.length_map, HLN.out]; omega) (by intro u hu; obtain ⟨x, _, rfl⟩ := List.mem_map.1 hu; rfl)
        rw [h]
        have e : ((madeCells #[Value.int .u8 0] n).toList.take (0 + 0) ++ (l0.take n).map (Value.int .u8) ++ (madeCells #[Value.int .u8 0] n).toList.drop (0 + 0 + ((l0.take n).map (Value.int .u8)).length)).toArray = ((l0.take n).map (Value.int .u8)).toArray := by
          rw [List.drop_of_length_le (by rw [Array.length_toList, hmn, List.length_map, HLN.out]; omega)]
          simp
        rw [e]
        show Result.ok () ((W2.alloc _).setRow W2.heap.size _).drew = _
        rw [World.setRow_alloc_new]
      clear hC2 hmn
      generalize hcs2 : (l0.take n).map (Value.int .u8) = cs at hload hstore
      have HCS := Aside0.mk hcs2
      clear hcs hcs2
      go_wp2
      go_region
      go_wp2
      go_ret2
      refine ⟨_, rfl, ⟨[], .inr ⟨W2.heap.size, by rw [HLN.out]; rfl, below_size HB2.out, ?_, by rw [HLN.out]; simp only [maxLen, List.length_nil]; omega, by simp⟩⟩, below_drew (below_alloc HB2.out _)⟩
      rw [List.append_nil, HCS.out]
      exact (MapKept.heap_alloc W2 _).1
    · have hf2 := hf
      rw [if_neg hx] at hf2
      rw [hf2]
      have e3 : decide (frameF (l0.take n) = l0) = false := decide_eq_false hx
      have HLN := Aside0.mk hln; have HFL := Aside0.mk hfl; have HN := Aside0.mk hn; have HCR := Aside0.mk hCR; have HC1 := Aside0.mk hC1; have E3 := Aside0.mk e3; have HX := Aside0.mk hx
      clear hln hfl hn hCR hC1 hf hf2 e3 hx
      go_enter Tryd.func21, Tryd.ntmps21
      go_wp2_with fail
      ((with_reducible refine (hfr _ HC1.out HT.out).mono ?_); rintro e_ W1 ⟨v0, rfl, ho_, hb_⟩)
      obtain ⟨sp0, ho0⟩ := ho_
      obtain ⟨A1, c1, hv⟩ := Kd.R_slice ho0.R
      subst hv
      have HB := Aside0.mk hb_
      have hRR := Kd.R_reads' ho0.R
      rw [HFL.out] at hRR
      have HRR := Aside0.mk hRR
      clear hb_ ho0 hRR hfr
      rw [HFL.out]
      go_wp2_with fail
      ((with_reducible refine (Equal_calls _ _ _ _ _ _ _ _ _ HFL.out HN.out HRR.out.2.2 HRR.out.2.1 (Kd.C_below HCR.out HB.out) hc0 (by omega)).mono ?_); rintro e_ W2 ⟨rfl, hd_⟩)
      rw [E3.out]
      have HB2 := Aside0.mk (below_step HB.out hd_.below)
      clear hd_
      go_wp2
      go_ret2
      exact ⟨_, rfl, RS.nil _ _, HB2.out⟩
theorem bytesOf_str (a : List Int) (h : ∀ x ∈ a, 0 ≤ x ∧ x < 256) : bytesOf (strOfNums a) = a := by
  unfold bytesOf
  rw [strOfNums_data, List.map_map]
  have : ∀ x ∈ a, ((fun b : UInt8 => (b.toNat : Int)) ∘ fun n : Int => UInt8.ofNat n.toNat) x = x := by
    intro x hx
    have := h x hx
    show ((UInt8.ofNat x.toNat).toNat : Int) = x
    rw [UInt8.toNat_ofNat']
    omega
  rw [List.map_congr_left this]
  simp
theorem strList_inj {a b : List Int} (ha : ∀ x ∈ a, 0 ≤ x ∧ x < 256) (hb : ∀ x ∈ b, 0 ≤ x ∧ x < 256) : (strOfNums a).toList = (strOfNums b).toList ↔ a = b := by
  constructor
  · intro h
    rw [ByteArray.toList_eq, ByteArray.toList_eq] at h
    rw [← bytesOf_str a ha, ← bytesOf_str b hb]
    unfold bytesOf
    rw [h]
  · intro h
    rw [h]
theorem frameF_range (l : List Int) (h : ∀ x ∈ l, 0 ≤ x ∧ x < 256) : ∀ x ∈ frameF l, 0 ≤ x ∧ x < 256 := by
  intro x hx
  have hs := sumF_range l
  rcases List.mem_append.1 hx with hx | hx
  · exact h x hx
  · simp only [List.mem_cons, List.not_mem_nil, or_false] at hx
    rcases hx with rfl | rfl | rfl | rfl <;> omega
set_option maxHeartbeats 4000000 in
set_option maxRecDepth 100000 in
theorem rOpen_callsF (A0 : Option Addr) (c0 : Nat) (l0 : List Int) (w : World)
    (hr0 : Kd.C (Kd.int .u8) w A0 l0.length l0) (hc0 : l0.length ≤ c0) (hb : ∀ x ∈ l0, 0 ≤ x ∧ x < 256) (hl : l0.length ≤ 140737488355318) :
    Calls Tryd.prog 46 #[.slice A0 l0.length c0] w
      fun e w' => ∃ v, e = .returned (.tuple #[v, .bool (opF l0).2]) ∧ RS w.heap.size w' v (opF l0).1 ∧ Below w.heap.size w w' := by
  have HR := Aside0.mk hr0
  clear hr0
  by_cases hs : l0.length < 4
  · have hf : opF l0 = ([], false) := if_pos hs
    rw [hf]
    clear hf
    obtain ⟨m, hm⟩ : ∃ m, m = l0.length := ⟨_, rfl⟩
    rw [← hm] at hl hs hc0 ⊢
    clear hm
    have e1 : decide ((m : Int) < 4) = true := decide_eq_true (by omega)
    go_enter Tryd.func46, Tryd.ntmps46
    go_wp2
    go_ret2
    exact ⟨_, rfl, RS.nil _ _, Below.refl _ _⟩
  · have hf : opF l0 = if frameF (l0.take (l0.length - 4)) = l0 then (l0.take (l0.length - 4), true) else ([], false) := if_neg hs
    obtain ⟨n, hn⟩ : ∃ n, l0.length = n + 4 := ⟨l0.length - 4, by omega⟩
    have hCR := HR.out
    rw [hn] at hCR hl hc0 hf ⊢
    rw [show n + 4 - 4 = n by omega] at hf
    have e1 : decide (((n + 4 : Nat) : Int) < 4) = false := decide_eq_false (by omega)
    have e0 : ((n + 4 : Nat) : Int) - 4 = (n : Int) := by omega
    have hcut := cutTo A0 (n + 4) c0 n (by omega)
    have hC1 := C_first hCR n (by omega)
    have hln : (l0.take n).length = n := by rw [List.length_take]; omega
    have hfr := fun W (h : Kd.C (Kd.int .u8) W A0 n (l0.take n)) => rFrame_callsF A0 c0 n (l0.take n) W hln h (by omega)
    have hfb : ∀ x ∈ frameF (l0.take n), 0 ≤ x ∧ x < 256 := frameF_range _ (fun x hx => hb x (List.mem_of_mem_take hx))
    have hsx : (strOfNums (frameF (l0.take n))).toList = (strOfNums l0).toList ↔ frameF (l0.take n) = l0 := strList_inj hfb hb
    have conv0 : ∀ W', Below w.heap.size w W' → (convert 30 9 (.slice A0 (n + 4) c0)).run Tryd.prog W' = .ok (.string (strOfNums l0)) W' := fun W' hb' => Kd.C_string (P := Tryd.prog) Tryd.underlying30 Tryd.underlying5 Tryd.underlying9 (Kd.C_below hCR hb')
    clear hfb hb
    by_cases hx : frameF (l0.take n) = l0
    · have hf2 := hf
      rw [if_pos hx] at hf2
      rw [hf2]
      have hse : strOfNums (frameF (l0.take n)) = strOfNums l0 := by rw [hx]
      have HLN := Aside0.mk hln; have HN := Aside0.mk hn; have HCR := Aside0.mk hCR; have HC1 := Aside0.mk hC1; have HX := Aside0.mk hx
      have HB := Aside0.mk (Below.refl w.heap.size w)
      clear hln hn hCR hC1 hf hf2 hx hsx
      generalize hF : frameF (l0.take n) = Fr at hfr hse
      have HF := Aside0.mk hF
      clear hF
      have HSE := Aside0.mk hse; clear hse
      obtain ⟨s0, hs0⟩ : ∃ s0, s0 = strOfNums l0 := ⟨_, rfl⟩
      rw [← hs0] at conv0
      have HS0 := Aside0.mk hs0; clear hs0
      go_enter Tryd.func46, Tryd.ntmps46
      go_wp2_with fail
      refine wp_region_held_drew (S := fun w' => (convert 30 9 (.slice A0 (n + 4) c0)).run Tryd.prog w' = .ok (.string s0) w') (by kernel_rfl) (conv0 _ (below_drew1 HB.out)) (fun hHeld => ?_)
      refine wpAnyH_take (i := 0) (oi := { dst := some 13, op := Op.move (Operand.tmp 4), type := 30, pos := "ref.go:132", after := #[], guard := none }) (v := .slice A0 n c0) rfl (by kernel_rfl) (by kernel_rfl) (by kernel_rfl) (fun _ _ _ h => h) (Or.inl ⟨by rfl, by intro w_ hSw; (try dsimp only at hSw); go_simp⟩) (by assumption) ?_
      try simp only [Act.put, List.setIfInBounds_toArray, List.set_cons_zero, List.set_cons_succ]
      refine wpAnyH_take (i := 3) (oi := { dst := some 16, op := Op.move (Operand.tmp 0), type := 30, pos := "ref.go:132", after := #[], guard := none }) (v := .slice A0 (n + 4) c0) rfl (by kernel_rfl) (by kernel_rfl) (by kernel_rfl) (fun _ _ _ h => h) (Or.inl ⟨by rfl, by intro w_ hSw; (try dsimp only at hSw); go_simp⟩) (by assumption) ?_
      try simp only [Act.put, List.setIfInBounds_toArray, List.set_cons_zero, List.set_cons_succ]
      refine wpAnyH_take (i := 4) (oi := { dst := some 17, op := Op.convert 30 9 (Operand.tmp 16), type := 9, pos := "ref.go:132", after := #[{ on := 3, ground := Ground.data }], guard := none }) (v := .string s0) rfl (by kernel_rfl) (by kernel_rfl) (by kernel_rfl) (fun _ _ _ h => h) (Or.inl ⟨by rfl, by intro w_ hSw; (try dsimp only at hSw); go_simp⟩) (by assumption) ?_
      try simp only [Act.put, List.setIfInBounds_toArray, List.set_cons_zero, List.set_cons_succ]
      refine wpAnyH_ready (rs := [1]) (by kernel_rfl) (by simp) ?_
      refine AllReadyH.cons (o := { dst := some 14, op := Op.call { callee := Callee.value (Operand.func 38), args := #[Operand.tmp 13], argTypes := #[30] }, type := 30, pos := "ref.go:132", after := #[{ on := 0, ground := Ground.data }], guard := none }) rfl (fun K hK => ?_) AllReadyH.nil
      go_simp
      ((with_reducible refine (hfr _ (Kd.C_below HC1.out (below_drew1 HB.out))).mono ?_); rintro e_ W1 ⟨v_, rfl, ho_, hb_⟩)
      have n_ := Aside0.mk (below_step (below_drew1 HB.out) hb_); clear HB; have HB := n_; clear n_ hb_ hfr
      obtain ⟨sp_, ho_⟩ := ho_
      obtain ⟨A10, c10, e_, _, hC_⟩ := Kd.R_reads ho_.R
      subst e_
      have s2 := Kd.C_string (P := Tryd.prog) (c := c10) Tryd.underlying30 Tryd.underlying5 Tryd.underlying9 hC_
      clear ho_ hC_ hHeld
      rw [HSE.out, ← HS0.out] at s2
      go_wp2_with fail
      refine hK.out _ _ (conv0 _ HB.out) (fun hHeld => ?_)
      clear hK K
      try simp only [Act.put, List.setIfInBounds_toArray, List.set_cons_zero, List.set_cons_succ]
      refine wpAnyH_ready (rs := [2]) (by kernel_rfl) (by simp) ?_
      refine AllReadyH.cons (o := { dst := some 15, op := Op.convert 30 9 (Operand.tmp 14), type := 9, pos := "ref.go:132", after := #[{ on := 1, ground := Ground.data }], guard := none }) rfl (fun K hK => ?_) AllReadyH.nil
      go_simp
      refine hK.out _ _ (conv0 _ HB.out) (fun hHeld => ?_)
      clear hK K
      try simp only [Act.put, List.setIfInBounds_toArray, List.set_cons_zero, List.set_cons_succ]
      refine wpAnyH_take (i := 5) (oi := { dst := some 18, op := Op.binOp BinOp.neq 9 (Operand.tmp 15) (Operand.tmp 17) 9, type := 4, pos := "ref.go:132", after := #[{ on := 2, ground := Ground.data }, { on := 4, ground := Ground.data }], guard := none }) (v := .bool false) rfl (by kernel_rfl) (by kernel_rfl) (by kernel_rfl) (fun _ _ _ h => h) (Or.inl ⟨by rfl, by intro w_ hSw; (try dsimp only at hSw); go_simp⟩) (by assumption) ?_
      try simp only [Act.put, List.setIfInBounds_toArray, List.set_cons_zero, List.set_cons_succ]
      refine wpAnyH_done (by kernel_rfl) ?_ _
      have hbn := below_alloc HB.out (.cells #[] 5)
      have HBN := Aside0.mk hbn; clear hbn
      have HO0 : Aside0 (RF w.heap.size (W1.alloc (.cells #[] 5)) (.slice (some ⟨W1.heap.size, 0, none⟩) 0 0) [] []) := ⟨.inr ⟨W1.heap.size, rfl, below_size HB.out, (MapKept.heap_alloc W1 _).1, by simp, by simp⟩⟩
      go_wp2_with (first | ((with_reducible refine gate_builtin (b := .append) (xs := #[.tmp 19, .tmp 20]) rfl ?_); at_builtin; refine wp_rf_rows (w0 := w) w.heap.size rfl (.tmp 19) (.tmp 20) rfl _ [] [] (l0.take n) _ _ _ rfl rfl HO0.out (Kd.C_below HC1.out HBN.out) HBN.out (below_size HBN.out) (by simp; omega) ?_; intro v1 w1 sp1 ho hb hg; have HO1 := Aside0.mk ho; clear HB HBN; have HB := Aside0.mk hb; clear ho hb hg))
      go_ret2
      exact ⟨_, rfl, ⟨_, HO1.out⟩, HB.out⟩
    · have hf2 := hf
      rw [if_neg hx] at hf2
      rw [hf2]
      have hse : ¬ (strOfNums (frameF (l0.take n))).toList = (strOfNums l0).toList := fun h => hx (hsx.1 h)
      have HLN := Aside0.mk hln; have HN := Aside0.mk hn; have HCR := Aside0.mk hCR; have HC1 := Aside0.mk hC1; have HX := Aside0.mk hx
      have HB := Aside0.mk (Below.refl w.heap.size w)
      clear hln hn hCR hC1 hf hf2 hx hsx
      generalize hF : frameF (l0.take n) = Fr at hfr hse
      have HF := Aside0.mk hF
      clear hF
      obtain ⟨s0, hs0⟩ : ∃ s0, s0 = strOfNums l0 := ⟨_, rfl⟩
      rw [← hs0] at conv0 hse
      have HSE := Aside0.mk hse; clear hse
      clear hs0
      go_enter Tryd.func46, Tryd.ntmps46
      go_wp2_with fail
      refine wp_region_held_drew (S := fun w' => (convert 30 9 (.slice A0 (n + 4) c0)).run Tryd.prog w' = .ok (.string s0) w') (by kernel_rfl) (conv0 _ (below_drew1 HB.out)) (fun hHeld => ?_)
      refine wpAnyH_take (i := 0) (oi := { dst := some 13, op := Op.move (Operand.tmp 4), type := 30, pos := "ref.go:132", after := #[], guard := none }) (v := .slice A0 n c0) rfl (by kernel_rfl) (by kernel_rfl) (by kernel_rfl) (fun _ _ _ h => h) (Or.inl ⟨by rfl, by intro w_ hSw; (try dsimp only at hSw); go_simp⟩) (by assumption) ?_
      try simp only [Act.put, List.setIfInBounds_toArray, List.set_cons_zero, List.set_cons_succ]
      refine wpAnyH_take (i := 3) (oi := { dst := some 16, op := Op.move (Operand.tmp 0), type := 30, pos := "ref.go:132", after := #[], guard := none }) (v := .slice A0 (n + 4) c0) rfl (by kernel_rfl) (by kernel_rfl) (by kernel_rfl) (fun _ _ _ h => h) (Or.inl ⟨by rfl, by intro w_ hSw; (try dsimp only at hSw); go_simp⟩) (by assumption) ?_
      try simp only [Act.put, List.setIfInBounds_toArray, List.set_cons_zero, List.set_cons_succ]
      refine wpAnyH_take (i := 4) (oi := { dst := some 17, op := Op.convert 30 9 (Operand.tmp 16), type := 9, pos := "ref.go:132", after := #[{ on := 3, ground := Ground.data }], guard := none }) (v := .string s0) rfl (by kernel_rfl) (by kernel_rfl) (by kernel_rfl) (fun _ _ _ h => h) (Or.inl ⟨by rfl, by intro w_ hSw; (try dsimp only at hSw); go_simp⟩) (by assumption) ?_
      try simp only [Act.put, List.setIfInBounds_toArray, List.set_cons_zero, List.set_cons_succ]
      refine wpAnyH_ready (rs := [1]) (by kernel_rfl) (by simp) ?_
      refine AllReadyH.cons (o := { dst := some 14, op := Op.call { callee := Callee.value (Operand.func 38), args := #[Operand.tmp 13], argTypes := #[30] }, type := 30, pos := "ref.go:132", after := #[{ on := 0, ground := Ground.data }], guard := none }) rfl (fun K hK => ?_) AllReadyH.nil
      go_simp
      ((with_reducible refine (hfr _ (Kd.C_below HC1.out (below_drew1 HB.out))).mono ?_); rintro e_ W1 ⟨v_, rfl, ho_, hb_⟩)
      have n_ := Aside0.mk (below_step (below_drew1 HB.out) hb_); clear HB; have HB := n_; clear n_ hb_ hfr
      obtain ⟨sp_, ho_⟩ := ho_
      obtain ⟨A10, c10, e_, _, hC_⟩ := Kd.R_reads ho_.R
      subst e_
      have s2 := Kd.C_string (P := Tryd.prog) (c := c10) Tryd.underlying30 Tryd.underlying5 Tryd.underlying9 hC_
      clear ho_ hC_ hHeld
      generalize strOfNums Fr = s1 at s2 HSE
      have q1 := HSE.out
      go_wp2_with fail
      refine hK.out _ _ (conv0 _ HB.out) (fun hHeld => ?_)
      clear hK K
      try simp only [Act.put, List.setIfInBounds_toArray, List.set_cons_zero, List.set_cons_succ]
      refine wpAnyH_ready (rs := [2]) (by kernel_rfl) (by simp) ?_
      refine AllReadyH.cons (o := { dst := some 15, op := Op.convert 30 9 (Operand.tmp 14), type := 9, pos := "ref.go:132", after := #[{ on := 1, ground := Ground.data }], guard := none }) rfl (fun K hK => ?_) AllReadyH.nil
      go_simp
      refine hK.out _ _ (conv0 _ HB.out) (fun hHeld => ?_)
      clear hK K
      try simp only [Act.put, List.setIfInBounds_toArray, List.set_cons_zero, List.set_cons_succ]
      refine wpAnyH_take (i := 5) (oi := { dst := some 18, op := Op.binOp BinOp.neq 9 (Operand.tmp 15) (Operand.tmp 17) 9, type := 4, pos := "ref.go:132", after := #[{ on := 2, ground := Ground.data }, { on := 4, ground := Ground.data }], guard := none }) (v := .bool true) rfl (by kernel_rfl) (by kernel_rfl) (by kernel_rfl) (fun _ _ _ h => h) (Or.inl ⟨by rfl, by intro w_ hSw; (try dsimp only at hSw); go_simp⟩) (by assumption) ?_
      try simp only [Act.put, List.setIfInBounds_toArray, List.set_cons_zero, List.set_cons_succ]
      refine wpAnyH_done (by kernel_rfl) ?_ _
      go_wp2
      go_ret2
      exact ⟨_, rfl, RS.nil _ _, HB.out⟩
end Go.Proofs.YteidgpaakoeefaaDoor
namespace Go.Proofs.YteidgpaakoeefaaDoor
open Go.RowKit Go.Proofs.YteidgpaakoeefaaDoorW.PrintWords Go.Proofs.YteidgpaakoeefaaDoorW.PrintLast Go.Proofs.YteidgpaakoeefaaDoorW.PrintMore
set_option linter.unusedVariables false
set_option linter.unusedSimpArgs false
set_option maxRecDepth 100000
namespace PIm
def wire_Num.f (l0 : List Int) (a1 : Int) : Option (List Int × Int) := if l0.length ≤ 140737488355318 ∧ -9223372036854775808 ≤ a1 ∧ a1 ≤ 9223372036854775807 then some (numF l0 a1) else none
theorem wire_Num.calls (A0 : Option Addr) (c0 : Nat) (l0 : List Int) (a1 : Int) (r1 : List Int) (r2 : Int) (w : World) (hr0 : Kd.C (Kd.int .u8) w A0 l0.length l0) (hc0 : l0.length ≤ c0) (h : wire_Num.f l0 a1 = some (r1, r2)) :
    Calls Tryd.prog 59 #[.slice A0 l0.length c0, .int .i64 a1] w fun e w' => ∃ v0_ : Value, e = .returned (.tuple #[v0_, .int .i64 r2]) ∧ Kd.R (Kd.int .u8) 5 w' w.heap.size (fun _ => True) v0_ r1 ∧ Below w.heap.size w w' := by
  unfold wire_Num.f at h
  split at h
  · next hc =>
    have e := Option.some.inj h
    have := Num_calls A0 c0 l0 a1 w hr0 hc.1 hc.2.1 hc.2.2
    rw [e] at this
    exact this
  · cases h
def wire_Int.f (l0 : List Int) (a1 : Int) : Option (List Int) := if l0.length ≤ 140737488355318 ∧ -9223372036854775808 ≤ a1 ∧ a1 ≤ 9223372036854775807 then some (l0 ++ venc (zz a1).toNat) else none
theorem wire_Int.calls (A0 : Option Addr) (c0 : Nat) (l0 : List Int) (a1 : Int) (r : List Int) (w : World) (hr0 : Kd.C (Kd.int .u8) w A0 l0.length l0) (hc0 : l0.length ≤ c0) (h : wire_Int.f l0 a1 = some r) :
    Calls Tryd.prog 58 #[.slice A0 l0.length c0, .int .i64 a1] w fun e w' => ∃ v0_ : Value, e = .returned (v0_) ∧ Kd.R (Kd.int .u8) 5 w' w.heap.size (fun _ => True) v0_ r ∧ Below w.heap.size w w' := by
  unfold wire_Int.f at h
  split at h
  · next hc =>
    obtain rfl := Option.some.inj h
    exact Int_calls A0 c0 l0 a1 w hr0 hc.1 hc.2.1 hc.2.2
  · cases h
def wire_Frame.f (l0 : List Int) : Option (List Int) := if l0.length ≤ 140737488355318 then some (frameF l0) else none
theorem wire_Frame.calls (A0 : Option Addr) (c0 : Nat) (l0 : List Int) (r : List Int) (w : World) (hr0 : Kd.C (Kd.int .u8) w A0 l0.length l0) (hc0 : l0.length ≤ c0) (h : wire_Frame.f l0 = some r) (hW : Tab w) :
    Calls Tryd.prog 15 #[.slice A0 l0.length c0] w fun e w' => ∃ v0_ : Value, e = .returned (v0_) ∧ Kd.R (Kd.int .u8) 5 w' w.heap.size (fun _ => True) v0_ r ∧ Below w.heap.size w w' := by
  unfold wire_Frame.f at h
  split at h
  · next hc =>
    obtain rfl := Option.some.inj h
    exact Frame_calls A0 c0 l0 w hr0 hc hW
  · cases h
def wire_Open.f (l0 : List Int) : Option (List Int × Bool) := if l0.length ≤ 140737488355318 then some (opF l0) else none
theorem wire_Open.calls (A0 : Option Addr) (c0 : Nat) (l0 : List Int) (r1 : List Int) (r2 : Bool) (w : World) (hr0 : Kd.C (Kd.int .u8) w A0 l0.length l0) (hc0 : l0.length ≤ c0) (h : wire_Open.f l0 = some (r1, r2)) (hW : Tab w) :
    Calls Tryd.prog 21 #[.slice A0 l0.length c0] w fun e w' => ∃ v0_ : Value, e = .returned (.tuple #[v0_, .bool r2]) ∧ Kd.R (Kd.int .u8) 5 w' w.heap.size (fun _ => True) v0_ r1 ∧ Below w.heap.size w w' := by
  unfold wire_Open.f at h
  split at h
  · next hc =>
    have e := Option.some.inj h
    have := Open_callsF A0 c0 l0 w hr0 hc0 hc hW
    rw [e] at this
    refine this.mono ?_
    rintro e w' ⟨v, h1, ⟨sp, h2⟩, h3⟩
    exact ⟨v, h1, h2.R, h3⟩
  · cases h
end PIm
end Go.Proofs.YteidgpaakoeefaaDoor
namespace Go.Proofs.YteidgpaakoeefaaDoor
open Go.RowKit Go.Proofs.YteidgpaakoeefaaDoorW.PrintWords Go.Proofs.YteidgpaakoeefaaDoorW.PrintLast Go.Proofs.YteidgpaakoeefaaDoorW.PrintMore
set_option linter.unusedVariables false
set_option linter.unusedSimpArgs false
open PIm
def RdB (w : World) (B : Nat) (A : Option Addr) (n c : Nat) (i : Int) : Prop := w.heap[B]? = some (.cells #[.slice A n c, .int .i64 i] 78 (0, 0))
def Kp (w W : World) (S : Nat → Prop) : Prop := w.heap.size ≤ W.heap.size ∧ Kept w W S ∧ W.os = w.os ∧ W.tape = w.tape ∧ W.output = w.output
theorem Kp.size {w W : World} {S : Nat → Prop} (h : Kp w W S) : w.heap.size ≤ W.heap.size := h.1
theorem Kp.kept {w W : World} {S : Nat → Prop} (h : Kp w W S) : Kept w W S := h.2.1
theorem Kp.os {w W : World} {S : Nat → Prop} (h : Kp w W S) : W.os = w.os := h.2.2.1
theorem Kp.tape {w W : World} {S : Nat → Prop} (h : Kp w W S) : W.tape = w.tape := h.2.2.2.1
theorem Kp.output {w W : World} {S : Nat → Prop} (h : Kp w W S) : W.output = w.output := h.2.2.2.2
theorem Kp.mk {w W : World} {S : Nat → Prop} (a : w.heap.size ≤ W.heap.size) (b : Kept w W S) (c : W.os = w.os) (d : W.tape = w.tape) (e : W.output = w.output) : Kp w W S := And.intro a ⟨b, c, d, e⟩
theorem Kp.refl (w : World) (S : Nat → Prop) : Kp w w S := .mk (Nat.le_refl _) (Kept.refl _ _) rfl rfl rfl
theorem Kp.then_ {w W W2 : World} {S S2 : Nat → Prop} (h : Kp w W S) (k : Kp W W2 S2) (hs : ∀ k, S2 k → S k ∨ w.heap.size ≤ k) : Kp w W2 S :=
  .mk (Nat.le_trans h.size k.size) (h.kept.then_ k.kept hs) (k.os.trans h.os) (k.tape.trans h.tape) (k.output.trans h.output)
theorem Kp.below {w W W2 : World} {S : Nat → Prop} (h : Kp w W S) (hb : Below W.heap.size W W2) : Kp w W2 S :=
  .mk (Nat.le_trans h.size hb.size) (h.kept.below hb) (hb.os.trans h.os) (hb.tape.trans h.tape) (hb.output.trans h.output)
theorem Kp.alloc {w W : World} {S : Nat → Prop} (h : Kp w W S) (o : Obj) : Kp w (W.alloc o) S := h.below (below_alloc (Below.refl _ _) o)
theorem Kp.setCell {w W : World} {S : Nat → Prop} (h : Kp w W S) {p : Addr} (hp : S p.block ∨ w.heap.size ≤ p.block) (u : Value) : Kp w (W.setCell p u) S :=
  .mk (by simpa [World.setCell] using h.size) (h.kept.setCell hp u) h.os h.tape h.output
theorem Kp.of_grown {w W W2 : World} {S : Nat → Prop} {row : Option Nat} (hg : W.grownBy W2 row) (h : Kp w W S) (hr : ∀ k, row = some k → S k ∨ w.heap.size ≤ k) : Kp w W2 S :=
  .mk (Nat.le_trans h.size hg.size) (Kept.of_grown hg h.kept hr) (hg.os.trans h.os) (hg.tape.trans h.tape) (hg.output.trans h.output)
theorem Kp.below_of {w W W2 : World} {B : Nat} (h : Kp W W2 (fun k => k = B)) (hb : Below w.heap.size w W) (hB : w.heap.size ≤ B) : Below w.heap.size w W2 :=
  ⟨h.os.trans hb.os, h.tape.trans hb.tape, h.output.trans hb.output, Nat.le_trans hb.size h.size, fun k hk => (h.kept.2 k (Nat.lt_of_lt_of_le hk hb.size) (by omega)).trans (hb.block k hk)⟩
def Rp {α : Type} (w w' : World) (B : Nat) (A : Option Addr) (n c : Nat) (r : Option (α × Int)) (V : World → α → Value → Prop) (e : Ending) : Prop :=
  Kp w w' (fun k => k = B) ∧ match r with
  | some (x, j) => (∃ v, e = .returned v ∧ V w' x v) ∧ RdB w' B A n c j
  | none => ∃ m, e = .panicked [{ v := .iface 28 (.int .i64 m), recovered := false }]
theorem rdb_set {w : World} {B : Nat} {A : Option Addr} {n c : Nat} {i : Int} (h : RdB w B A n c i) (j : Int) : RdB (w.setCell ⟨B, 1, none⟩ (.int .i64 j)) B A n c j :=
  blk_put (cs := #[.slice A n c, .int .i64 i]) h 1 _ rfl
def rdN (l : List Int) (i : Int) : Option (Int × Int) := if (tk l i 9).2.2 = 0 then some ((tk l i 9).1, (tk l i 9).2.1) else none
def rdW (l : List Int) (i : Int) : Option (Int × Int) := if (tk l i 10).2.2 = 0 then some (uz (tk l i 10).1, (tk l i 10).2.1) else none
def rdT (l : List Int) (i : Int) : Option (ByteArray × Int) := if (rtF l i).2.2 = 0 then some ((rtF l i).1, (rtF l i).2.1) else none
set_option maxHeartbeats 1000000 in
theorem took_int (B : Nat) (A : Option Addr) (n c : Nat) (i : Int) (v : Int) (j x : Int) (w : World) (hb : RdB w B A n c i) :
    Calls Tryd.prog 92 #[.pointer (some ⟨B, 0, none⟩), .int .i64 v, .int .i64 j, .int .i64 x] w
      fun e w' => Rp w w' B A n c (if x = 0 then some (v, j) else none) (fun _ y u => u = .int .i64 y) e := by
  have hc0 : w.cell? ⟨B, 0, none⟩ = some (.slice A n c) := (blk_cell hb 0).trans rfl
  have hc1 : w.cell? ⟨B, 1, none⟩ = some (.int .i64 i) := (blk_cell hb 1).trans rfl
  have hf1 := blk_frozen hb 1
  have HBk := Aside0.mk hb
  clear hb
  by_cases hx : x = 0
  · have b2 : (x != 0) = false := by simp [hx]
    rw [if_pos hx]
    clear hx
    go_enter Tryd.func92, Tryd.ntmps92
    go_wp2
    go_ret
    refine ⟨?_, ?_, ?_⟩
    · exact Kp.setCell (S := fun k => k = B) (Kp.refl w _) (.inl rfl) _
    · exact ⟨_, rfl, rfl⟩
    · exact rdb_set HBk.out j
  · have b2 : (x != 0) = true := by simp [hx]
    rw [if_neg hx]
    clear hx
    go_enter Tryd.func92, Tryd.ntmps92
    go_wp2
    exact ⟨rfl, Kp.refl _ _, _, rfl⟩
set_option maxHeartbeats 1000000 in
theorem took_str (B : Nat) (A : Option Addr) (n c : Nat) (i : Int) (v : ByteArray) (j x : Int) (w : World) (hb : RdB w B A n c i) :
    Calls Tryd.prog 95 #[.pointer (some ⟨B, 0, none⟩), .string v, .int .i64 j, .int .i64 x] w
      fun e w' => Rp w w' B A n c (if x = 0 then some (v, j) else none) (fun _ y u => u = .string y) e := by
  have hc0 : w.cell? ⟨B, 0, none⟩ = some (.slice A n c) := (blk_cell hb 0).trans rfl
  have hc1 : w.cell? ⟨B, 1, none⟩ = some (.int .i64 i) := (blk_cell hb 1).trans rfl
  have hf1 := blk_frozen hb 1
  have HBk := Aside0.mk hb
  clear hb
  by_cases hx : x = 0
  · have b2 : (x != 0) = false := by simp [hx]
    rw [if_pos hx]
    clear hx
    go_enter Tryd.func95, Tryd.ntmps95
    go_wp2
    go_ret
    refine ⟨?_, ?_, ?_⟩
    · exact Kp.setCell (S := fun k => k = B) (Kp.refl w _) (.inl rfl) _
    · exact ⟨_, rfl, rfl⟩
    · exact rdb_set HBk.out j
  · have b2 : (x != 0) = true := by simp [hx]
    rw [if_neg hx]
    clear hx
    go_enter Tryd.func95, Tryd.ntmps95
    go_wp2
    exact ⟨rfl, Kp.refl _ _, _, rfl⟩
set_option maxHeartbeats 2000000 in
theorem rd_nat (B : Nat) (A : Option Addr) (c : Nat) (l : List Int) (i : Int) (w : World) (hb : RdB w B A l.length c i)
    (hr : Kd.C (Kd.int .u8) w A l.length l) (hc : l.length ≤ c) (hbt : ∀ x ∈ l, 0 ≤ x ∧ x < 256) (hl : l.length ≤ 140737488355318) (h1 : -9223372036854775808 ≤ i) (h2 : i ≤ 9223372036854775807) :
    Calls Tryd.prog 68 #[.pointer (some ⟨B, 0, none⟩)] w fun e w' => Rp w w' B A l.length c (rdN l i) (fun _ y u => u = .int .i64 y) e := by
  have hc0 : w.cell? ⟨B, 0, none⟩ = some (.slice A l.length c) := (blk_cell hb 0).trans rfl
  have hc1 : w.cell? ⟨B, 1, none⟩ = some (.int .i64 i) := (blk_cell hb 1).trans rfl
  have HC := Aside0.mk (fun n => ReadNum_calls A c l i (w.drewN n) (Kd.C_drewN hr n) hc hbt hl h1 h2)
  have HBk := Aside0.mk hb
  obtain ⟨R, hR⟩ : ∃ R, R = rdN l i := ⟨_, rfl⟩
  rw [← hR]
  have HRR := Aside0.mk hR
  clear hR hb hr hbt hc h1 h2 hl
  go_enter Tryd.func68, Tryd.ntmps68
  go_wp2_with fail
  go_quiet ((go_at_call 91; refine (HC.out _).mono ?_; rintro e_ w_ ⟨rfl, rfl⟩; exact ⟨rfl, _, rfl⟩))
  go_wp2_with fail
  refine (took_int B A l.length c i _ _ _ _ (blk_drewN HBk.out _)).mono ?_
  rintro e_ w1 ⟨hk, h⟩
  by_cases hx : (tk l i 9).2.2 = 0
  · rw [if_pos hx] at h
    obtain ⟨⟨v, rfl, rfl⟩, hb2⟩ := h
    have HK := Aside0.mk hk; have HB2 := Aside0.mk hb2; have HR2 := Aside0.mk (HRR.out.trans (if_pos hx))
    clear hk hb2 hx HRR
    go_wp2
    go_ret
    rw [HR2.out]
    exact ⟨HK.out, ⟨_, rfl, rfl⟩, HB2.out⟩
  · rw [if_neg hx] at h
    obtain ⟨m, rfl⟩ := h
    have HK := Aside0.mk hk; have HR2 := Aside0.mk (HRR.out.trans (if_neg hx))
    clear hk hx HRR
    go_wp2
    rw [HR2.out]
    exact ⟨rfl, HK.out, m, rfl⟩
set_option maxHeartbeats 2000000 in
theorem rd_whole (B : Nat) (A : Option Addr) (c : Nat) (l : List Int) (i : Int) (w : World) (hb : RdB w B A l.length c i)
    (hr : Kd.C (Kd.int .u8) w A l.length l) (hc : l.length ≤ c) (hbt : ∀ x ∈ l, 0 ≤ x ∧ x < 256) (hl : l.length ≤ 140737488355318) (h1 : -9223372036854775808 ≤ i) (h2 : i ≤ 9223372036854775807) :
    Calls Tryd.prog 69 #[.pointer (some ⟨B, 0, none⟩)] w fun e w' => Rp w w' B A l.length c (rdW l i) (fun _ y u => u = .int .i64 y) e := by
  have hc0 : w.cell? ⟨B, 0, none⟩ = some (.slice A l.length c) := (blk_cell hb 0).trans rfl
  have hc1 : w.cell? ⟨B, 1, none⟩ = some (.int .i64 i) := (blk_cell hb 1).trans rfl
  have HC := Aside0.mk (fun n => ReadInt_calls A c l i (w.drewN n) (Kd.C_drewN hr n) hc hbt hl h1 h2)
  have HBk := Aside0.mk hb
  obtain ⟨R, hR⟩ : ∃ R, R = rdW l i := ⟨_, rfl⟩
  rw [← hR]
  have HRR := Aside0.mk hR
  clear hR hb hr hbt hc h1 h2 hl
  go_enter Tryd.func69, Tryd.ntmps69
  go_wp2_with fail
  go_quiet ((go_at_call 93; refine (HC.out _).mono ?_; rintro e_ w_ ⟨rfl, rfl⟩; exact ⟨rfl, _, rfl⟩))
  go_wp2_with fail
  refine (took_int B A l.length c i _ _ _ _ (blk_drewN HBk.out _)).mono ?_
  rintro e_ w1 ⟨hk, h⟩
  by_cases hx : (tk l i 10).2.2 = 0
  · rw [if_pos hx] at h
    obtain ⟨⟨v, rfl, rfl⟩, hb2⟩ := h
    have HK := Aside0.mk hk; have HB2 := Aside0.mk hb2; have HR2 := Aside0.mk (HRR.out.trans (if_pos hx))
    clear hk hb2 hx HRR
    go_wp2
    go_ret
    rw [HR2.out]
    exact ⟨HK.out, ⟨_, rfl, rfl⟩, HB2.out⟩
  · rw [if_neg hx] at h
    obtain ⟨m, rfl⟩ := h
    have HK := Aside0.mk hk; have HR2 := Aside0.mk (HRR.out.trans (if_neg hx))
    clear hk hx HRR
    go_wp2
    rw [HR2.out]
    exact ⟨rfl, HK.out, m, rfl⟩
set_option maxHeartbeats 2000000 in
theorem rd_text (B : Nat) (A : Option Addr) (c : Nat) (l : List Int) (i : Int) (w : World) (hb : RdB w B A l.length c i)
    (hr : Kd.C (Kd.int .u8) w A l.length l) (hc : l.length ≤ c) (hbt : ∀ x ∈ l, 0 ≤ x ∧ x < 256) (hl : l.length ≤ 140737488355318) (h1 : -9223372036854775808 ≤ i) (h2 : i ≤ 9223372036854775807) :
    Calls Tryd.prog 70 #[.pointer (some ⟨B, 0, none⟩)] w fun e w' => Rp w w' B A l.length c (rdT l i) (fun _ y u => u = .string y) e := by
  have hc0 : w.cell? ⟨B, 0, none⟩ = some (.slice A l.length c) := (blk_cell hb 0).trans rfl
  have hc1 : w.cell? ⟨B, 1, none⟩ = some (.int .i64 i) := (blk_cell hb 1).trans rfl
  have HC := Aside0.mk (fun n => ReadText_calls A c l i (w.drewN n) (Kd.C_drewN hr n) hc hbt hl h1 h2)
  have HBk := Aside0.mk hb
  obtain ⟨R, hR⟩ : ∃ R, R = rdT l i := ⟨_, rfl⟩
  rw [← hR]
  have HRR := Aside0.mk hR
  clear hR hb hr hbt hc h1 h2 hl
  go_enter Tryd.func70, Tryd.ntmps70
  go_wp2_with fail
  go_quiet ((go_at_call 94; refine (HC.out _).mono ?_; rintro e_ w_ ⟨rfl, rfl⟩; exact ⟨rfl, _, rfl⟩))
  go_wp2_with fail
  refine (took_str B A l.length c i _ _ _ _ (blk_drewN HBk.out _)).mono ?_
  rintro e_ w1 ⟨hk, h⟩
  by_cases hx : (rtF l i).2.2 = 0
  · rw [if_pos hx] at h
    obtain ⟨⟨v, rfl, rfl⟩, hb2⟩ := h
    have HK := Aside0.mk hk; have HB2 := Aside0.mk hb2; have HR2 := Aside0.mk (HRR.out.trans (if_pos hx))
    clear hk hb2 hx HRR
    go_wp2
    go_ret
    rw [HR2.out]
    exact ⟨HK.out, ⟨_, rfl, rfl⟩, HB2.out⟩
  · rw [if_neg hx] at h
    obtain ⟨m, rfl⟩ := h
    have HK := Aside0.mk hk; have HR2 := Aside0.mk (HRR.out.trans (if_neg hx))
    clear hk hx HRR
    go_wp2
    rw [HR2.out]
    exact ⟨rfl, HK.out, m, rfl⟩
end Go.Proofs.YteidgpaakoeefaaDoor
namespace Go.Proofs.YteidgpaakoeefaaDoor
open Go.RowKit Go.Proofs.YteidgpaakoeefaaDoorW.PrintWords Go.Proofs.YteidgpaakoeefaaDoorW.PrintLast Go.Proofs.YteidgpaakoeefaaDoorW.PrintMore
set_option linter.unusedVariables false
set_option linter.unusedSimpArgs false
open PIm
theorem rdN_rng {l : List Int} {i x j : Int} (hb : ∀ x ∈ l, 0 ≤ x ∧ x < 256) (h : rdN l i = some (x, j)) : 0 ≤ j ∧ j ≤ (l.length : Int) := by
  have hr := tk_range l i 9 (by decide) (by decide) hb
  unfold rdN at h
  split at h
  · injection h with h; injection h with h1 h2; subst h2; exact ⟨hr.2.2.2.1, hr.2.2.2.2⟩
  · cases h
theorem rdW_rng {l : List Int} {i x j : Int} (hb : ∀ x ∈ l, 0 ≤ x ∧ x < 256) (h : rdW l i = some (x, j)) : 0 ≤ j ∧ j ≤ (l.length : Int) := by
  have hr := tk_range l i 10 (by decide) (by decide) hb
  unfold rdW at h
  split at h
  · injection h with h; injection h with h1 h2; subst h2; exact ⟨hr.2.2.2.1, hr.2.2.2.2⟩
  · cases h
def rdG (l : List Int) (i : Int) : Option (S48 × Int) := (rdN l i).bind fun a => (rdN l a.2).bind fun b => (rdW l b.2).bind fun v => some (⟨a.1, b.1, v.1⟩, v.2)
def rdC (l : List Int) (i : Int) : Option (S50 × Int) := (rdN l i).bind fun a => (rdW l a.2).bind fun b => (rdN l b.2).bind fun v => some (⟨a.1, b.1, v.1⟩, v.2)
set_option maxHeartbeats 4000000 in
set_option maxRecDepth 100000 in
theorem rd_glob (B : Nat) (A : Option Addr) (c : Nat) (l : List Int) (i : Int) (w : World) (hb : RdB w B A l.length c i)
    (hr : ∀ W', Kept w W' (fun k => k = B) → Kd.C (Kd.int .u8) W' A l.length l) (hc : l.length ≤ c) (hbt : ∀ x ∈ l, 0 ≤ x ∧ x < 256) (hl : l.length ≤ 140737488355318) (h1 : 0 ≤ i) (h2 : i ≤ l.length) :
    Calls Tryd.prog 43 #[.pointer (some ⟨B, 0, none⟩)] w fun e w' => Rp w w' B A l.length c (rdG l i) (fun _ y u => u = .agg #[.int .i64 y.f0, .int .i64 y.f1, .int .i64 y.f2]) e := by
  obtain ⟨R, hR⟩ : ∃ R, R = rdG l i := ⟨_, rfl⟩
  rw [← hR]
  have HRR := Aside0.mk hR; have RB := Aside0.mk hb; have HC := Aside0.mk hr; have HCC := Aside0.mk hc; have HBT := Aside0.mk hbt; have HL := Aside0.mk hl; have HI := Aside0.mk (And.intro h1 h2)
  have HBw : Aside0 (B < w.heap.size) := ⟨blk_lt RB.out⟩
  have HK : Aside0 (Kp w w (fun k => k = B)) := ⟨Kp.refl _ _⟩
  clear hR hb hr hc hbt hl h1 h2
  go_enter Tryd.func43, Tryd.ntmps43
  go_wp2_with (first | ((with_reducible refine gate_dst (N := 2) rfl ?_); refine box_event ?hg (N := 2) ?hd (cs := #[.int .i64 0, .int .i64 0, .int .i64 0]) (t := 48) ?hr ?_; (case hd => rfl); (case hg => rfl); (case hr => first | (go_simp; done) | (go_simp; rfl)); intro g hg_ W1 hbox_ hb_; have GEg := Aside0.mk (by rw [hg_]; exact HK.out.1 : w.heap.size ≤ g); have NBg : Aside0 (g ≠ B) := ⟨(by rw [hg_]; exact Ne.symm (Nat.ne_of_lt (blk_lt RB.out)))⟩; clear hg_; have n_ := Aside0.mk (show RdB W1 B A l.length c i from blk_below RB.out hb_); clear RB; have RB := n_; clear n_; have n_ := Aside0.mk (Kp.below HK.out hb_); clear HK; have HK := n_; clear n_; have BKg := Aside0.mk hbox_; clear hbox_ hb_; have hcg_0 : W1.cell? ⟨g, 0, none⟩ = some (.int .i64 0) := (blk_cell BKg.out 0).trans rfl; have hfg_0 := blk_frozen BKg.out 0; have hcg_1 : W1.cell? ⟨g, 1, none⟩ = some (.int .i64 0) := (blk_cell BKg.out 1).trans rfl; have hfg_1 := blk_frozen BKg.out 1; have hcg_2 : W1.cell? ⟨g, 2, none⟩ = some (.int .i64 0) := (blk_cell BKg.out 2).trans rfl; have hfg_2 := blk_frozen BKg.out 2))
  refine (rd_nat B A c l i _ RB.out (HC.out _ HK.out.kept) HCC.out HBT.out HL.out (by have := HI.out; omega) (by have := HI.out; have := HL.out; omega)).mono ?_
  rintro e_ W2 ⟨hk_, h_⟩
  rcases hR0 : rdN l i with _ | ⟨x0, i1⟩
  · rw [hR0] at h_
    obtain ⟨m_, rfl⟩ := h_
    have HK2 := Aside0.mk (HK.out.then_ hk_ (fun _ h => .inl h)); have HX := Aside0.mk hR0
    clear hk_ hR0
    go_wp2
    rw [show R = none from HRR.out.trans (by simp only [rdG, HX.out, Option.bind_some, Option.bind_none])]
    exact ⟨rfl, HK2.out, m_, rfl⟩
  rw [hR0] at h_
  obtain ⟨⟨v0, rfl, hv0⟩, hb2_⟩ := h_
  obtain rfl := hv0
  have HX0 := Aside0.mk hR0; have n_ := Aside0.mk (rdN_rng HBT.out hR0); clear HI; have HI := n_; clear n_ hR0
  have n_ := Aside0.mk (blk_kept BKg.out hk_.kept NBg.out); clear BKg; have BKg := n_; clear n_
  clear hcg_0 hfg_0
  clear hcg_1 hfg_1
  clear hcg_2 hfg_2
  have n_ := Aside0.mk (HK.out.then_ hk_ (fun _ h => .inl h)); clear HK RB; have HK := n_; have RB := Aside0.mk hb2_; clear n_ hk_ hb2_
  have hcg_0 : W2.cell? ⟨g, 0, none⟩ = some (.int .i64 0) := (blk_cell BKg.out 0).trans rfl
  have hfg_0 := blk_frozen BKg.out 0
  have hcg_1 : W2.cell? ⟨g, 1, none⟩ = some (.int .i64 0) := (blk_cell BKg.out 1).trans rfl
  have hfg_1 := blk_frozen BKg.out 1
  have hcg_2 : W2.cell? ⟨g, 2, none⟩ = some (.int .i64 0) := (blk_cell BKg.out 2).trans rfl
  have hfg_2 := blk_frozen BKg.out 2
  go_wp2_with fail
  have n_ : Aside0 ((W2.setCell ⟨g, 0, none⟩ (.int .i64 x0)).heap[g]? = some (.cells #[.int .i64 x0, .int .i64 0, .int .i64 0] 48 (0, 0))) := ⟨by refine blk_put (cs := #[.int .i64 0, .int .i64 0, .int .i64 0]) ?_ 0 _ rfl; exact BKg.out⟩
  have m_ : Aside0 (RdB (W2.setCell ⟨g, 0, none⟩ (.int .i64 x0)) B A l.length c i1) := ⟨(blk_far RB.out NBg.out.symm _)⟩; have o_ : Aside0 (Kp w (W2.setCell ⟨g, 0, none⟩ (.int .i64 x0)) (fun k => k = B)) := ⟨(Kp.setCell (p := ⟨g, 0, none⟩) HK.out (.inr GEg.out) _)⟩
  clear BKg RB HK; have BKg := n_; have RB := m_; have HK := o_; clear n_ m_ o_
  clear hcg_0 hfg_0
  clear hcg_1 hfg_1
  clear hcg_2 hfg_2
  generalize (W2.setCell ⟨g, 0, none⟩ (.int .i64 x0)) = W3 at *
  have hcg_0 : W3.cell? ⟨g, 0, none⟩ = some (.int .i64 x0) := (blk_cell BKg.out 0).trans rfl
  have hfg_0 := blk_frozen BKg.out 0
  have hcg_1 : W3.cell? ⟨g, 1, none⟩ = some (.int .i64 0) := (blk_cell BKg.out 1).trans rfl
  have hfg_1 := blk_frozen BKg.out 1
  have hcg_2 : W3.cell? ⟨g, 2, none⟩ = some (.int .i64 0) := (blk_cell BKg.out 2).trans rfl
  have hfg_2 := blk_frozen BKg.out 2
  go_wp2_with fail
  refine (rd_nat B A c l i1 _ RB.out (HC.out _ HK.out.kept) HCC.out HBT.out HL.out (by have := HI.out; omega) (by have := HI.out; have := HL.out; omega)).mono ?_
  rintro e_ W4 ⟨hk_, h_⟩
  rcases hR1 : rdN l i1 with _ | ⟨x1, i2⟩
  · rw [hR1] at h_
    obtain ⟨m_, rfl⟩ := h_
    have HK2 := Aside0.mk (HK.out.then_ hk_ (fun _ h => .inl h)); have HX := Aside0.mk hR1
    clear hk_ hR1
    go_wp2
    rw [show R = none from HRR.out.trans (by simp only [rdG, HX0.out, HX.out, Option.bind_some, Option.bind_none])]
    exact ⟨rfl, HK2.out, m_, rfl⟩
  rw [hR1] at h_
  obtain ⟨⟨v1, rfl, hv1⟩, hb2_⟩ := h_
  obtain rfl := hv1
  have HX1 := Aside0.mk hR1; have n_ := Aside0.mk (rdN_rng HBT.out hR1); clear HI; have HI := n_; clear n_ hR1
  have n_ := Aside0.mk (blk_kept BKg.out hk_.kept NBg.out); clear BKg; have BKg := n_; clear n_
  clear hcg_0 hfg_0
  clear hcg_1 hfg_1
  clear hcg_2 hfg_2
  have n_ := Aside0.mk (HK.out.then_ hk_ (fun _ h => .inl h)); clear HK RB; have HK := n_; have RB := Aside0.mk hb2_; clear n_ hk_ hb2_
  have hcg_0 : W4.cell? ⟨g, 0, none⟩ = some (.int .i64 x0) := (blk_cell BKg.out 0).trans rfl
  have hfg_0 := blk_frozen BKg.out 0
  have hcg_1 : W4.cell? ⟨g, 1, none⟩ = some (.int .i64 0) := (blk_cell BKg.out 1).trans rfl
  have hfg_1 := blk_frozen BKg.out 1
  have hcg_2 : W4.cell? ⟨g, 2, none⟩ = some (.int .i64 0) := (blk_cell BKg.out 2).trans rfl
  have hfg_2 := blk_frozen BKg.out 2
  go_wp2_with fail
  have n_ : Aside0 ((W4.setCell ⟨g, 1, none⟩ (.int .i64 x1)).heap[g]? = some (.cells #[.int .i64 x0, .int .i64 x1, .int .i64 0] 48 (0, 0))) := ⟨by refine blk_put (cs := #[.int .i64 x0, .int .i64 0, .int .i64 0]) ?_ 1 _ rfl; exact BKg.out⟩
  have m_ : Aside0 (RdB (W4.setCell ⟨g, 1, none⟩ (.int .i64 x1)) B A l.length c i2) := ⟨(blk_far RB.out NBg.out.symm _)⟩; have o_ : Aside0 (Kp w (W4.setCell ⟨g, 1, none⟩ (.int .i64 x1)) (fun k => k = B)) := ⟨(Kp.setCell (p := ⟨g, 1, none⟩) HK.out (.inr GEg.out) _)⟩
  clear BKg RB HK; have BKg := n_; have RB := m_; have HK := o_; clear n_ m_ o_
  clear hcg_0 hfg_0
  clear hcg_1 hfg_1
  clear hcg_2 hfg_2
  generalize (W4.setCell ⟨g, 1, none⟩ (.int .i64 x1)) = W5 at *
  have hcg_0 : W5.cell? ⟨g, 0, none⟩ = some (.int .i64 x0) := (blk_cell BKg.out 0).trans rfl
  have hfg_0 := blk_frozen BKg.out 0
  have hcg_1 : W5.cell? ⟨g, 1, none⟩ = some (.int .i64 x1) := (blk_cell BKg.out 1).trans rfl
  have hfg_1 := blk_frozen BKg.out 1
  have hcg_2 : W5.cell? ⟨g, 2, none⟩ = some (.int .i64 0) := (blk_cell BKg.out 2).trans rfl
  have hfg_2 := blk_frozen BKg.out 2
  go_wp2_with fail
  refine (rd_whole B A c l i2 _ RB.out (HC.out _ HK.out.kept) HCC.out HBT.out HL.out (by have := HI.out; omega) (by have := HI.out; have := HL.out; omega)).mono ?_
  rintro e_ W6 ⟨hk_, h_⟩
  rcases hR2 : rdW l i2 with _ | ⟨x2, i3⟩
  · rw [hR2] at h_
    obtain ⟨m_, rfl⟩ := h_
    have HK2 := Aside0.mk (HK.out.then_ hk_ (fun _ h => .inl h)); have HX := Aside0.mk hR2
    clear hk_ hR2
    go_wp2
    rw [show R = none from HRR.out.trans (by simp only [rdG, HX0.out, HX1.out, HX.out, Option.bind_some, Option.bind_none])]
    exact ⟨rfl, HK2.out, m_, rfl⟩
  rw [hR2] at h_
  obtain ⟨⟨v2, rfl, hv2⟩, hb2_⟩ := h_
  obtain rfl := hv2
  have HX2 := Aside0.mk hR2; have n_ := Aside0.mk (rdW_rng HBT.out hR2); clear HI; have HI := n_; clear n_ hR2
  have n_ := Aside0.mk (blk_kept BKg.out hk_.kept NBg.out); clear BKg; have BKg := n_; clear n_
  clear hcg_0 hfg_0
  clear hcg_1 hfg_1
  clear hcg_2 hfg_2
  have n_ := Aside0.mk (HK.out.then_ hk_ (fun _ h => .inl h)); clear HK RB; have HK := n_; have RB := Aside0.mk hb2_; clear n_ hk_ hb2_
  have hcg_0 : W6.cell? ⟨g, 0, none⟩ = some (.int .i64 x0) := (blk_cell BKg.out 0).trans rfl
  have hfg_0 := blk_frozen BKg.out 0
  have hcg_1 : W6.cell? ⟨g, 1, none⟩ = some (.int .i64 x1) := (blk_cell BKg.out 1).trans rfl
  have hfg_1 := blk_frozen BKg.out 1
  have hcg_2 : W6.cell? ⟨g, 2, none⟩ = some (.int .i64 0) := (blk_cell BKg.out 2).trans rfl
  have hfg_2 := blk_frozen BKg.out 2
  go_wp2_with fail
  have n_ : Aside0 ((W6.setCell ⟨g, 2, none⟩ (.int .i64 x2)).heap[g]? = some (.cells #[.int .i64 x0, .int .i64 x1, .int .i64 x2] 48 (0, 0))) := ⟨by refine blk_put (cs := #[.int .i64 x0, .int .i64 x1, .int .i64 0]) ?_ 2 _ rfl; exact BKg.out⟩
  have m_ : Aside0 (RdB (W6.setCell ⟨g, 2, none⟩ (.int .i64 x2)) B A l.length c i3) := ⟨(blk_far RB.out NBg.out.symm _)⟩; have o_ : Aside0 (Kp w (W6.setCell ⟨g, 2, none⟩ (.int .i64 x2)) (fun k => k = B)) := ⟨(Kp.setCell (p := ⟨g, 2, none⟩) HK.out (.inr GEg.out) _)⟩
  clear BKg RB HK; have BKg := n_; have RB := m_; have HK := o_; clear n_ m_ o_
  clear hcg_0 hfg_0
  clear hcg_1 hfg_1
  clear hcg_2 hfg_2
  generalize (W6.setCell ⟨g, 2, none⟩ (.int .i64 x2)) = W7 at *
  have hcg_0 : W7.cell? ⟨g, 0, none⟩ = some (.int .i64 x0) := (blk_cell BKg.out 0).trans rfl
  have hfg_0 := blk_frozen BKg.out 0
  have hcg_1 : W7.cell? ⟨g, 1, none⟩ = some (.int .i64 x1) := (blk_cell BKg.out 1).trans rfl
  have hfg_1 := blk_frozen BKg.out 1
  have hcg_2 : W7.cell? ⟨g, 2, none⟩ = some (.int .i64 x2) := (blk_cell BKg.out 2).trans rfl
  have hfg_2 := blk_frozen BKg.out 2
  go_wp2_with fail
  have n_ : Aside0 ((((W7.setCell ⟨g, 0, none⟩ (.int .i64 x0)).setCell ⟨g, 1, none⟩ (.int .i64 x1)).setCell ⟨g, 2, none⟩ (.int .i64 x2)).heap[g]? = some (.cells #[.int .i64 x0, .int .i64 x1, .int .i64 x2] 48 (0, 0))) := ⟨by refine blk_put (cs := #[.int .i64 x0, .int .i64 x1, .int .i64 x2]) ?_ 2 _ rfl; refine blk_put (cs := #[.int .i64 x0, .int .i64 x1, .int .i64 x2]) ?_ 1 _ rfl; refine blk_put (cs := #[.int .i64 x0, .int .i64 x1, .int .i64 x2]) ?_ 0 _ rfl; exact BKg.out⟩
  have m_ : Aside0 (RdB (((W7.setCell ⟨g, 0, none⟩ (.int .i64 x0)).setCell ⟨g, 1, none⟩ (.int .i64 x1)).setCell ⟨g, 2, none⟩ (.int .i64 x2)) B A l.length c i3) := ⟨(blk_far (blk_far (blk_far RB.out NBg.out.symm _) NBg.out.symm _) NBg.out.symm _)⟩; have o_ : Aside0 (Kp w (((W7.setCell ⟨g, 0, none⟩ (.int .i64 x0)).setCell ⟨g, 1, none⟩ (.int .i64 x1)).setCell ⟨g, 2, none⟩ (.int .i64 x2)) (fun k => k = B)) := ⟨(Kp.setCell (p := ⟨g, 2, none⟩) (Kp.setCell (p := ⟨g, 1, none⟩) (Kp.setCell (p := ⟨g, 0, none⟩) HK.out (.inr GEg.out) _) (.inr GEg.out) _) (.inr GEg.out) _)⟩
  clear BKg RB HK; have BKg := n_; have RB := m_; have HK := o_; clear n_ m_ o_
  clear hcg_0 hfg_0
  clear hcg_1 hfg_1
  clear hcg_2 hfg_2
  generalize (((W7.setCell ⟨g, 0, none⟩ (.int .i64 x0)).setCell ⟨g, 1, none⟩ (.int .i64 x1)).setCell ⟨g, 2, none⟩ (.int .i64 x2)) = W8 at *
  have hcg_0 : W8.cell? ⟨g, 0, none⟩ = some (.int .i64 x0) := (blk_cell BKg.out 0).trans rfl
  have hfg_0 := blk_frozen BKg.out 0
  have hcg_1 : W8.cell? ⟨g, 1, none⟩ = some (.int .i64 x1) := (blk_cell BKg.out 1).trans rfl
  have hfg_1 := blk_frozen BKg.out 1
  have hcg_2 : W8.cell? ⟨g, 2, none⟩ = some (.int .i64 x2) := (blk_cell BKg.out 2).trans rfl
  have hfg_2 := blk_frozen BKg.out 2
  refine bodyPost_ret (results_cell_row rfl _ _ g 48 #[.int .i64 x0, .int .i64 x1, .int .i64 x2] (0, 0) _ rfl BKg.out Tryd.underlying48 rfl (by kernel_rfl)) rfl ?_
  rw [show R = some (⟨x0, x1, x2⟩, i3) from HRR.out.trans (by simp only [rdG, Option.bind_some, HX0.out, HX1.out, HX2.out])]
  exact ⟨HK.out, ⟨_, rfl, rfl⟩, RB.out⟩
set_option maxHeartbeats 4000000 in
set_option maxRecDepth 100000 in
theorem rd_instr (B : Nat) (A : Option Addr) (c : Nat) (l : List Int) (i : Int) (w : World) (hb : RdB w B A l.length c i)
    (hr : ∀ W', Kept w W' (fun k => k = B) → Kd.C (Kd.int .u8) W' A l.length l) (hc : l.length ≤ c) (hbt : ∀ x ∈ l, 0 ≤ x ∧ x < 256) (hl : l.length ≤ 140737488355318) (h1 : 0 ≤ i) (h2 : i ≤ l.length) :
    Calls Tryd.prog 74 #[.pointer (some ⟨B, 0, none⟩)] w fun e w' => Rp w w' B A l.length c (rdC l i) (fun _ y u => u = .agg #[.int .i64 y.f0, .int .i64 y.f1, .int .i64 y.f2]) e := by
  obtain ⟨R, hR⟩ : ∃ R, R = rdC l i := ⟨_, rfl⟩
  rw [← hR]
  have HRR := Aside0.mk hR; have RB := Aside0.mk hb; have HC := Aside0.mk hr; have HCC := Aside0.mk hc; have HBT := Aside0.mk hbt; have HL := Aside0.mk hl; have HI := Aside0.mk (And.intro h1 h2)
  have HBw : Aside0 (B < w.heap.size) := ⟨blk_lt RB.out⟩
  have HK : Aside0 (Kp w w (fun k => k = B)) := ⟨Kp.refl _ _⟩
  clear hR hb hr hc hbt hl h1 h2
  go_enter Tryd.func74, Tryd.ntmps74
  go_wp2_with (first | ((with_reducible refine gate_dst (N := 2) rfl ?_); refine box_event ?hg (N := 2) ?hd (cs := #[.int .i64 0, .int .i64 0, .int .i64 0]) (t := 50) ?hr ?_; (case hd => rfl); (case hg => rfl); (case hr => first | (go_simp; done) | (go_simp; rfl)); intro g hg_ W1 hbox_ hb_; have GEg := Aside0.mk (by rw [hg_]; exact HK.out.1 : w.heap.size ≤ g); have NBg : Aside0 (g ≠ B) := ⟨(by rw [hg_]; exact Ne.symm (Nat.ne_of_lt (blk_lt RB.out)))⟩; clear hg_; have n_ := Aside0.mk (show RdB W1 B A l.length c i from blk_below RB.out hb_); clear RB; have RB := n_; clear n_; have n_ := Aside0.mk (Kp.below HK.out hb_); clear HK; have HK := n_; clear n_; have BKg := Aside0.mk hbox_; clear hbox_ hb_; have hcg_0 : W1.cell? ⟨g, 0, none⟩ = some (.int .i64 0) := (blk_cell BKg.out 0).trans rfl; have hfg_0 := blk_frozen BKg.out 0; have hcg_1 : W1.cell? ⟨g, 1, none⟩ = some (.int .i64 0) := (blk_cell BKg.out 1).trans rfl; have hfg_1 := blk_frozen BKg.out 1; have hcg_2 : W1.cell? ⟨g, 2, none⟩ = some (.int .i64 0) := (blk_cell BKg.out 2).trans rfl; have hfg_2 := blk_frozen BKg.out 2))
  refine (rd_nat B A c l i _ RB.out (HC.out _ HK.out.kept) HCC.out HBT.out HL.out (by have := HI.out; omega) (by have := HI.out; have := HL.out; omega)).mono ?_
  rintro e_ W2 ⟨hk_, h_⟩
  rcases hR0 : rdN l i with _ | ⟨x0, i1⟩
  · rw [hR0] at h_
    obtain ⟨m_, rfl⟩ := h_
    have HK2 := Aside0.mk (HK.out.then_ hk_ (fun _ h => .inl h)); have HX := Aside0.mk hR0
    clear hk_ hR0
    go_wp2
    rw [show R = none from HRR.out.trans (by simp only [rdC, HX.out, Option.bind_some, Option.bind_none])]
    exact ⟨rfl, HK2.out, m_, rfl⟩
  rw [hR0] at h_
  obtain ⟨⟨v0, rfl, hv0⟩, hb2_⟩ := h_
  obtain rfl := hv0
  have HX0 := Aside0.mk hR0; have n_ := Aside0.mk (rdN_rng HBT.out hR0); clear HI; have HI := n_; clear n_ hR0
  have n_ := Aside0.mk (blk_kept BKg.out hk_.kept NBg.out); clear BKg; have BKg := n_; clear n_
  clear hcg_0 hfg_0
  clear hcg_1 hfg_1
  clear hcg_2 hfg_2
  have n_ := Aside0.mk (HK.out.then_ hk_ (fun _ h => .inl h)); clear HK RB; have HK := n_; have RB := Aside0.mk hb2_; clear n_ hk_ hb2_
  have hcg_0 : W2.cell? ⟨g, 0, none⟩ = some (.int .i64 0) := (blk_cell BKg.out 0).trans rfl
  have hfg_0 := blk_frozen BKg.out 0
  have hcg_1 : W2.cell? ⟨g, 1, none⟩ = some (.int .i64 0) := (blk_cell BKg.out 1).trans rfl
  have hfg_1 := blk_frozen BKg.out 1
  have hcg_2 : W2.cell? ⟨g, 2, none⟩ = some (.int .i64 0) := (blk_cell BKg.out 2).trans rfl
  have hfg_2 := blk_frozen BKg.out 2
  go_wp2_with fail
  have n_ : Aside0 ((W2.setCell ⟨g, 0, none⟩ (.int .i64 x0)).heap[g]? = some (.cells #[.int .i64 x0, .int .i64 0, .int .i64 0] 50 (0, 0))) := ⟨by refine blk_put (cs := #[.int .i64 0, .int .i64 0, .int .i64 0]) ?_ 0 _ rfl; exact BKg.out⟩
  have m_ : Aside0 (RdB (W2.setCell ⟨g, 0, none⟩ (.int .i64 x0)) B A l.length c i1) := ⟨(blk_far RB.out NBg.out.symm _)⟩; have o_ : Aside0 (Kp w (W2.setCell ⟨g, 0, none⟩ (.int .i64 x0)) (fun k => k = B)) := ⟨(Kp.setCell (p := ⟨g, 0, none⟩) HK.out (.inr GEg.out) _)⟩
  clear BKg RB HK; have BKg := n_; have RB := m_; have HK := o_; clear n_ m_ o_
  clear hcg_0 hfg_0
  clear hcg_1 hfg_1
  clear hcg_2 hfg_2
  generalize (W2.setCell ⟨g, 0, none⟩ (.int .i64 x0)) = W3 at *
  have hcg_0 : W3.cell? ⟨g, 0, none⟩ = some (.int .i64 x0) := (blk_cell BKg.out 0).trans rfl
  have hfg_0 := blk_frozen BKg.out 0
  have hcg_1 : W3.cell? ⟨g, 1, none⟩ = some (.int .i64 0) := (blk_cell BKg.out 1).trans rfl
  have hfg_1 := blk_frozen BKg.out 1
  have hcg_2 : W3.cell? ⟨g, 2, none⟩ = some (.int .i64 0) := (blk_cell BKg.out 2).trans rfl
  have hfg_2 := blk_frozen BKg.out 2
  go_wp2_with fail
  refine (rd_whole B A c l i1 _ RB.out (HC.out _ HK.out.kept) HCC.out HBT.out HL.out (by have := HI.out; omega) (by have := HI.out; have := HL.out; omega)).mono ?_
  rintro e_ W4 ⟨hk_, h_⟩
  rcases hR1 : rdW l i1 with _ | ⟨x1, i2⟩
  · rw [hR1] at h_
    obtain ⟨m_, rfl⟩ := h_
    have HK2 := Aside0.mk (HK.out.then_ hk_ (fun _ h => .inl h)); have HX := Aside0.mk hR1
    clear hk_ hR1
    go_wp2
    rw [show R = none from HRR.out.trans (by simp only [rdC, HX0.out, HX.out, Option.bind_some, Option.bind_none])]
    exact ⟨rfl, HK2.out, m_, rfl⟩
  rw [hR1] at h_
  obtain ⟨⟨v1, rfl, hv1⟩, hb2_⟩ := h_
  obtain rfl := hv1
  have HX1 := Aside0.mk hR1; have n_ := Aside0.mk (rdW_rng HBT.out hR1); clear HI; have HI := n_; clear n_ hR1
  have n_ := Aside0.mk (blk_kept BKg.out hk_.kept NBg.out); clear BKg; have BKg := n_; clear n_
  clear hcg_0 hfg_0
  clear hcg_1 hfg_1
  clear hcg_2 hfg_2
  have n_ := Aside0.mk (HK.out.then_ hk_ (fun _ h => .inl h)); clear HK RB; have HK := n_; have RB := Aside0.mk hb2_; clear n_ hk_ hb2_
  have hcg_0 : W4.cell? ⟨g, 0, none⟩ = some (.int .i64 x0) := (blk_cell BKg.out 0).trans rfl
  have hfg_0 := blk_frozen BKg.out 0
  have hcg_1 : W4.cell? ⟨g, 1, none⟩ = some (.int .i64 0) := (blk_cell BKg.out 1).trans rfl
  have hfg_1 := blk_frozen BKg.out 1
  have hcg_2 : W4.cell? ⟨g, 2, none⟩ = some (.int .i64 0) := (blk_cell BKg.out 2).trans rfl
  have hfg_2 := blk_frozen BKg.out 2
  go_wp2_with fail
  have n_ : Aside0 ((W4.setCell ⟨g, 1, none⟩ (.int .i64 x1)).heap[g]? = some (.cells #[.int .i64 x0, .int .i64 x1, .int .i64 0] 50 (0, 0))) := ⟨by refine blk_put (cs := #[.int .i64 x0, .int .i64 0, .int .i64 0]) ?_ 1 _ rfl; exact BKg.out⟩
  have m_ : Aside0 (RdB (W4.setCell ⟨g, 1, none⟩ (.int .i64 x1)) B A l.length c i2) := ⟨(blk_far RB.out NBg.out.symm _)⟩; have o_ : Aside0 (Kp w (W4.setCell ⟨g, 1, none⟩ (.int .i64 x1)) (fun k => k = B)) := ⟨(Kp.setCell (p := ⟨g, 1, none⟩) HK.out (.inr GEg.out) _)⟩
  clear BKg RB HK; have BKg := n_; have RB := m_; have HK := o_; clear n_ m_ o_
  clear hcg_0 hfg_0
  clear hcg_1 hfg_1
  clear hcg_2 hfg_2
  generalize (W4.setCell ⟨g, 1, none⟩ (.int .i64 x1)) = W5 at *
  have hcg_0 : W5.cell? ⟨g, 0, none⟩ = some (.int .i64 x0) := (blk_cell BKg.out 0).trans rfl
  have hfg_0 := blk_frozen BKg.out 0
  have hcg_1 : W5.cell? ⟨g, 1, none⟩ = some (.int .i64 x1) := (blk_cell BKg.out 1).trans rfl
  have hfg_1 := blk_frozen BKg.out 1
  have hcg_2 : W5.cell? ⟨g, 2, none⟩ = some (.int .i64 0) := (blk_cell BKg.out 2).trans rfl
  have hfg_2 := blk_frozen BKg.out 2
  go_wp2_with fail
  refine (rd_nat B A c l i2 _ RB.out (HC.out _ HK.out.kept) HCC.out HBT.out HL.out (by have := HI.out; omega) (by have := HI.out; have := HL.out; omega)).mono ?_
  rintro e_ W6 ⟨hk_, h_⟩
  rcases hR2 : rdN l i2 with _ | ⟨x2, i3⟩
  · rw [hR2] at h_
    obtain ⟨m_, rfl⟩ := h_
    have HK2 := Aside0.mk (HK.out.then_ hk_ (fun _ h => .inl h)); have HX := Aside0.mk hR2
    clear hk_ hR2
    go_wp2
    rw [show R = none from HRR.out.trans (by simp only [rdC, HX0.out, HX1.out, HX.out, Option.bind_some, Option.bind_none])]
    exact ⟨rfl, HK2.out, m_, rfl⟩
  rw [hR2] at h_
  obtain ⟨⟨v2, rfl, hv2⟩, hb2_⟩ := h_
  obtain rfl := hv2
  have HX2 := Aside0.mk hR2; have n_ := Aside0.mk (rdN_rng HBT.out hR2); clear HI; have HI := n_; clear n_ hR2
  have n_ := Aside0.mk (blk_kept BKg.out hk_.kept NBg.out); clear BKg; have BKg := n_; clear n_
  clear hcg_0 hfg_0
  clear hcg_1 hfg_1
  clear hcg_2 hfg_2
  have n_ := Aside0.mk (HK.out.then_ hk_ (fun _ h => .inl h)); clear HK RB; have HK := n_; have RB := Aside0.mk hb2_; clear n_ hk_ hb2_
  have hcg_0 : W6.cell? ⟨g, 0, none⟩ = some (.int .i64 x0) := (blk_cell BKg.out 0).trans rfl
  have hfg_0 := blk_frozen BKg.out 0
  have hcg_1 : W6.cell? ⟨g, 1, none⟩ = some (.int .i64 x1) := (blk_cell BKg.out 1).trans rfl
  have hfg_1 := blk_frozen BKg.out 1
  have hcg_2 : W6.cell? ⟨g, 2, none⟩ = some (.int .i64 0) := (blk_cell BKg.out 2).trans rfl
  have hfg_2 := blk_frozen BKg.out 2
  go_wp2_with fail
  have n_ : Aside0 ((W6.setCell ⟨g, 2, none⟩ (.int .i64 x2)).heap[g]? = some (.cells #[.int .i64 x0, .int .i64 x1, .int .i64 x2] 50 (0, 0))) := ⟨by refine blk_put (cs := #[.int .i64 x0, .int .i64 x1, .int .i64 0]) ?_ 2 _ rfl; exact BKg.out⟩
  have m_ : Aside0 (RdB (W6.setCell ⟨g, 2, none⟩ (.int .i64 x2)) B A l.length c i3) := ⟨(blk_far RB.out NBg.out.symm _)⟩; have o_ : Aside0 (Kp w (W6.setCell ⟨g, 2, none⟩ (.int .i64 x2)) (fun k => k = B)) := ⟨(Kp.setCell (p := ⟨g, 2, none⟩) HK.out (.inr GEg.out) _)⟩
  clear BKg RB HK; have BKg := n_; have RB := m_; have HK := o_; clear n_ m_ o_
  clear hcg_0 hfg_0
  clear hcg_1 hfg_1
  clear hcg_2 hfg_2
  generalize (W6.setCell ⟨g, 2, none⟩ (.int .i64 x2)) = W7 at *
  have hcg_0 : W7.cell? ⟨g, 0, none⟩ = some (.int .i64 x0) := (blk_cell BKg.out 0).trans rfl
  have hfg_0 := blk_frozen BKg.out 0
  have hcg_1 : W7.cell? ⟨g, 1, none⟩ = some (.int .i64 x1) := (blk_cell BKg.out 1).trans rfl
  have hfg_1 := blk_frozen BKg.out 1
  have hcg_2 : W7.cell? ⟨g, 2, none⟩ = some (.int .i64 x2) := (blk_cell BKg.out 2).trans rfl
  have hfg_2 := blk_frozen BKg.out 2
  go_wp2_with fail
  have n_ : Aside0 ((((W7.setCell ⟨g, 0, none⟩ (.int .i64 x0)).setCell ⟨g, 1, none⟩ (.int .i64 x1)).setCell ⟨g, 2, none⟩ (.int .i64 x2)).heap[g]? = some (.cells #[.int .i64 x0, .int .i64 x1, .int .i64 x2] 50 (0, 0))) := ⟨by refine blk_put (cs := #[.int .i64 x0, .int .i64 x1, .int .i64 x2]) ?_ 2 _ rfl; refine blk_put (cs := #[.int .i64 x0, .int .i64 x1, .int .i64 x2]) ?_ 1 _ rfl; refine blk_put (cs := #[.int .i64 x0, .int .i64 x1, .int .i64 x2]) ?_ 0 _ rfl; exact BKg.out⟩
  have m_ : Aside0 (RdB (((W7.setCell ⟨g, 0, none⟩ (.int .i64 x0)).setCell ⟨g, 1, none⟩ (.int .i64 x1)).setCell ⟨g, 2, none⟩ (.int .i64 x2)) B A l.length c i3) := ⟨(blk_far (blk_far (blk_far RB.out NBg.out.symm _) NBg.out.symm _) NBg.out.symm _)⟩; have o_ : Aside0 (Kp w (((W7.setCell ⟨g, 0, none⟩ (.int .i64 x0)).setCell ⟨g, 1, none⟩ (.int .i64 x1)).setCell ⟨g, 2, none⟩ (.int .i64 x2)) (fun k => k = B)) := ⟨(Kp.setCell (p := ⟨g, 2, none⟩) (Kp.setCell (p := ⟨g, 1, none⟩) (Kp.setCell (p := ⟨g, 0, none⟩) HK.out (.inr GEg.out) _) (.inr GEg.out) _) (.inr GEg.out) _)⟩
  clear BKg RB HK; have BKg := n_; have RB := m_; have HK := o_; clear n_ m_ o_
  clear hcg_0 hfg_0
  clear hcg_1 hfg_1
  clear hcg_2 hfg_2
  generalize (((W7.setCell ⟨g, 0, none⟩ (.int .i64 x0)).setCell ⟨g, 1, none⟩ (.int .i64 x1)).setCell ⟨g, 2, none⟩ (.int .i64 x2)) = W8 at *
  have hcg_0 : W8.cell? ⟨g, 0, none⟩ = some (.int .i64 x0) := (blk_cell BKg.out 0).trans rfl
  have hfg_0 := blk_frozen BKg.out 0
  have hcg_1 : W8.cell? ⟨g, 1, none⟩ = some (.int .i64 x1) := (blk_cell BKg.out 1).trans rfl
  have hfg_1 := blk_frozen BKg.out 1
  have hcg_2 : W8.cell? ⟨g, 2, none⟩ = some (.int .i64 x2) := (blk_cell BKg.out 2).trans rfl
  have hfg_2 := blk_frozen BKg.out 2
  refine bodyPost_ret (results_cell_row rfl _ _ g 50 #[.int .i64 x0, .int .i64 x1, .int .i64 x2] (0, 0) _ rfl BKg.out Tryd.underlying50 rfl (by kernel_rfl)) rfl ?_
  rw [show R = some (⟨x0, x1, x2⟩, i3) from HRR.out.trans (by simp only [rdC, Option.bind_some, HX0.out, HX1.out, HX2.out])]
  exact ⟨HK.out, ⟨_, rfl, rfl⟩, RB.out⟩
end Go.Proofs.YteidgpaakoeefaaDoor
namespace Go.Proofs.YteidgpaakoeefaaDoor
open Go.RowKit Go.Proofs.YteidgpaakoeefaaDoorW.PrintWords Go.Proofs.YteidgpaakoeefaaDoorW.PrintLast Go.Proofs.YteidgpaakoeefaaDoorW.PrintMore
set_option linter.unusedVariables false
set_option linter.unusedSimpArgs false
open PIm
def rdRow {α : Type} (one : Int → Option (α × Int)) : Nat → Int → Option (List α × Int)
  | 0, i => some ([], i)
  | n + 1, i => (one i).bind fun a => (rdRow one n a.2).bind fun b => some (a.1 :: b.1, b.2)
def rdRows {α : Type} (one : Int → Option (α × Int)) (most : Int) (l : List Int) (i : Int) : Option (List α × Int) :=
  (rdN l i).bind fun a => if most < a.1 then none else rdRow one a.1.toNat a.2
theorem rdN_val {l : List Int} {i x j : Int} (hb : ∀ x ∈ l, 0 ≤ x ∧ x < 256) (h : rdN l i = some (x, j)) : 0 ≤ x ∧ x ≤ 9223372036854775807 := by
  have hr := tk_range l i 9 (by decide) (by decide) hb
  rw [show ((128 ^ (9 : Int).toNat : Nat) : Int) = 9223372036854775808 by decide] at hr
  unfold rdN at h
  split at h
  · injection h with h; injection h with h1 h2; subst h1; exact ⟨hr.1, by have := hr.2.1; omega⟩
  · cases h
theorem rdG_rng {l : List Int} {i j : Int} {x : S48} (hb : ∀ x ∈ l, 0 ≤ x ∧ x < 256) (h : rdG l i = some (x, j)) : 0 ≤ j ∧ j ≤ (l.length : Int) := by
  unfold rdG at h
  rcases h1 : rdN l i with _ | ⟨a, i1⟩
  · rw [h1] at h; cases h
  rw [h1, Option.bind_some] at h
  rcases h2 : rdN l i1 with _ | ⟨b, i2⟩
  · rw [h2] at h; cases h
  rw [h2, Option.bind_some] at h
  rcases h3 : rdW l i2 with _ | ⟨c, i3⟩
  · rw [h3] at h; cases h
  rw [h3, Option.bind_some] at h
  injection h with h; injection h with _ h
  rw [← h]; exact rdW_rng hb h3
theorem rdC_rng {l : List Int} {i j : Int} {x : S50} (hb : ∀ x ∈ l, 0 ≤ x ∧ x < 256) (h : rdC l i = some (x, j)) : 0 ≤ j ∧ j ≤ (l.length : Int) := by
  unfold rdC at h
  rcases h1 : rdN l i with _ | ⟨a, i1⟩
  · rw [h1] at h; cases h
  rw [h1, Option.bind_some] at h
  rcases h2 : rdW l i1 with _ | ⟨b, i2⟩
  · rw [h2] at h; cases h
  rw [h2, Option.bind_some] at h
  rcases h3 : rdN l i2 with _ | ⟨c, i3⟩
  · rw [h3] at h; cases h
  rw [h3, Option.bind_some] at h
  injection h with h; injection h with _ h
  rw [← h]; exact rdN_rng hb h3
theorem rdRow_rng {α : Type} {one : Int → Option (α × Int)} {L : Int} (ho : ∀ i x j, 0 ≤ i ∧ i ≤ L → one i = some (x, j) → 0 ≤ j ∧ j ≤ L) : ∀ (n : Nat) (i : Int) (r : List α) (j : Int), 0 ≤ i ∧ i ≤ L → rdRow one n i = some (r, j) → 0 ≤ j ∧ j ≤ L
  | 0, i, r, j, hi, h => by
    unfold rdRow at h; injection h with h; injection h with _ h; rw [← h]; exact hi
  | n + 1, i, r, j, hi, h => by
    unfold rdRow at h
    rcases h1 : one i with _ | ⟨a, i1⟩
    · rw [h1] at h; cases h
    rw [h1, Option.bind_some] at h
    rcases h2 : rdRow one n i1 with _ | ⟨b, i2⟩
    · rw [h2] at h; cases h
    rw [h2, Option.bind_some] at h
    injection h with h; injection h with _ h
    rw [← h]; exact rdRow_rng ho n i1 b i2 (ho _ _ _ hi h1) h2
theorem rdRows_rng {α : Type} {one : Int → Option (α × Int)} {most : Int} {l : List Int} {i : Int} {r : List α} {j : Int} (hb : ∀ x ∈ l, 0 ≤ x ∧ x < 256)
    (ho : ∀ i x j, 0 ≤ i ∧ i ≤ (l.length : Int) → one i = some (x, j) → 0 ≤ j ∧ j ≤ (l.length : Int)) (h : rdRows one most l i = some (r, j)) : 0 ≤ j ∧ j ≤ (l.length : Int) := by
  unfold rdRows at h
  rcases h1 : rdN l i with _ | ⟨a, i1⟩
  · rw [h1] at h; cases h
  rw [h1, Option.bind_some] at h
  split at h
  · cases h
  · exact rdRow_rng ho _ _ _ _ (rdN_rng hb h1) h
theorem w64_succ (k : Nat) (h : (k : Int) + 1 ≤ 9223372036854775807) : wrap64 ((k : Int) + 1) = ((k + 1 : Nat) : Int) := by simp only [wrap64]; omega
set_option maxHeartbeats 4000000 in
set_option maxRecDepth 100000 in
theorem rd_rows_int (B : Nat) (A : Option Addr) (c : Nat) (l : List Int) (i most : Int) (w : World) (hm : 0 ≤ most ∧ most ≤ 32768) (hb : RdB w B A l.length c i)
    (hr : ∀ W', Kept w W' (fun k => k = B) → Kd.C (Kd.int .u8) W' A l.length l) (hc : l.length ≤ c) (hbt : ∀ x ∈ l, 0 ≤ x ∧ x < 256) (hl : l.length ≤ 140737488355318) (h1 : 0 ≤ i) (h2 : i ≤ l.length) :
    Calls Tryd.prog 71 #[.pointer (some ⟨B, 0, none⟩), .int .i64 most, .func (.func 68) #[.pointer (some ⟨B, 0, none⟩)] #[]] w fun e w' => Rp w w' B A l.length c (rdRows (rdN l) most l i) (fun W y u => Kd.R (Kd.int .i64) 3 W w.heap.size (fun k => w.heap.size ≤ k) u y) e := by
  obtain ⟨R, hR⟩ : ∃ R, R = rdRows (rdN l) most l i := ⟨_, rfl⟩
  rw [← hR]
  have HRR := Aside0.mk hR; have RB := Aside0.mk hb; have HC := Aside0.mk hr; have HCC := Aside0.mk hc; have HBT := Aside0.mk hbt; have HL := Aside0.mk hl; have HI := Aside0.mk (And.intro h1 h2); have HM := Aside0.mk hm
  have HBw : Aside0 (B < w.heap.size) := ⟨blk_lt hb⟩
  have hcall := rd_nat B A c l i w hb (hr w (Kept.refl _ _)) hc hbt hl (by omega) (by omega)
  clear hR hb hr hc hbt hl h1 h2 hm
  go_enter Tryd.func71, Tryd.ntmps71
  go_wp2_with fail
  refine hcall.mono ?_
  clear hcall
  rintro e_ W1 ⟨hk_, h_⟩
  rcases hR0 : rdN l i with _ | ⟨n, i0⟩
  · rw [hR0] at h_
    obtain ⟨m_, rfl⟩ := h_
    have HK2 := Aside0.mk hk_; have HX := Aside0.mk hR0
    clear hk_ hR0
    go_wp2
    rw [show R = none from HRR.out.trans (by simp only [rdRows, Option.bind_none, HX.out])]
    exact ⟨rfl, HK2.out, m_, rfl⟩
  rw [hR0] at h_
  obtain ⟨⟨v0, rfl, hv0⟩, hb2_⟩ := h_
  obtain rfl := hv0
  have HX0 := Aside0.mk hR0; have HI0 := Aside0.mk (rdN_rng HBT.out hR0); have HN := Aside0.mk (rdN_val HBT.out hR0); have RB1 := Aside0.mk hb2_; have HK1 := Aside0.mk hk_
  clear hR0 hb2_ hk_ HI RB
  by_cases hlt : most < n
  · have d1 : decide (most < n) = true := decide_eq_true hlt
    have HLT := Aside0.mk hlt
    clear hlt
    go_wp2
    rw [show R = none from HRR.out.trans (by simp only [rdRows, Option.bind_some, HX0.out]; rw [if_pos HLT.out])]
    exact ⟨rfl, HK1.out, _, rfl⟩
  have d1 : decide (most < n) = false := decide_eq_false hlt
  have HR2 : Aside0 (R = rdRow (rdN l) n.toNat i0) := ⟨HRR.out.trans (by simp only [rdRows, Option.bind_some, HX0.out]; rw [if_neg hlt])⟩
  have HLT := Aside0.mk hlt
  clear hlt HRR HX0
  go_wp2_with fail
  go_loopw [8, 16] (fun vb vi wr => ∃ (k : Nat) (done : List Int) (ik : Int), vi = .int .i64 k ∧ Aside0 (k ≤ n.toNat ∧ done.length = k) ∧ Aside0 (R = (rdRow (rdN l) (n.toNat - k) ik).map fun b => (done ++ b.1, b.2)) ∧ Aside0 (0 ≤ ik ∧ ik ≤ (l.length : Int)) ∧ Aside0 (Kd.R (Kd.int .i64) 3 wr w.heap.size (fun k_ => w.heap.size ≤ k_) vb done) ∧ Aside0 (RdB wr B A l.length c ik) ∧ Aside0 (Kp w wr (fun k_ => k_ = B))) (fun _ v _ => n.toNat - (intOf v).toNat)
  case atStart => exact ⟨0, [], i0, rfl, ⟨Nat.zero_le _, rfl⟩, ⟨HR2.out.trans (by simp)⟩, HI0, ⟨Kd.R_nil _ _ _ _ _⟩, RB1, HK1⟩
  case round =>
    obtain ⟨k, done, ik, rfl, HKN, HRk, HIr, HO, RBr, HKr⟩ := hrel
    have hk := HKN.out
    have hnn := HN.out
    by_cases hlt : k < n.toNat
    · have z1 : decide ((k : Int) < n) = true := decide_eq_true (by omega)
      have HLT := Aside0.mk hlt
      have hcall := (rd_nat B A c l ik wr RBr.out (HC.out _ HKr.out.kept) HCC.out HBT.out HL.out (by have := HIr.out; omega) (by have := HIr.out; have := HL.out; omega))
      have HLT2 := Aside0.mk (fun k_ => own_lt (Kd.R_own HO.out).choose_spec k_)
      obtain ⟨Ao_, co_, hvo_⟩ := Kd.R_slice HO.out
      subst hvo_
      clear hlt hk hnn
      go_wp2_with fail
      refine hcall.mono ?_
      clear hcall
      rintro e_ W2 ⟨hk_, h_⟩
      rcases hR1 : rdN l ik with _ | ⟨x, i2⟩
      · rw [hR1] at h_
        obtain ⟨m_, rfl⟩ := h_
        have HK2 := Aside0.mk (HKr.out.then_ hk_ (fun _ h => .inl h)); have HX := Aside0.mk hR1
        clear hk_ hR1
        go_wp2
        rw [show R = none from (by
          have e1 := HRk.out
          rw [show n.toNat - k = (n.toNat - (k + 1)) + 1 by have := HLT.out; omega, rdRow, HX.out] at e1
          exact e1)]
        exact ⟨rfl, HK2.out, m_, rfl⟩
      rw [hR1] at h_
      obtain ⟨⟨v0, rfl, hv0⟩, hb2_⟩ := h_
      obtain rfl := hv0
      skip
      have HX1 := Aside0.mk hR1; have HI2 := Aside0.mk (rdN_rng HBT.out hR1); have RB2 := Aside0.mk hb2_; have HK2 := Aside0.mk (HKr.out.then_ hk_ (fun _ h => .inl h))
      have HO2 := Aside0.mk (Kd.R_kept HO.out hk_.kept (fun k_ h_ e_ => by have := HBw.out; omega))
      have HB2 := Aside0.mk hk_.1
      clear hR1 hb2_ hk_
      go_wp2_with (((with_reducible refine gate_builtin (b := .append) (xs := #[.tmp 18, .tmp 21]) rfl ?_); at_builtin; refine Kd.R_append (Kd.int .i64) (w0 := W2) w.heap.size rfl (.tmp 18) (.tmp 21) 52 3 (.int .i64 0) 8 rfl Tryd.underlying52 info3 rfl (by decide) (by omega) (.slice Ao_ done.length co_) done x [.int .i64 x] (fun k_ => w.heap.size ≤ k_) (fun _ => False) rfl rfl ?aP ?aK ?aF ?aO ?aB ?aS ?aL ?_; (case aP => exact rfl); (case aK => exact fun _ h => h.elim); (case aF => exact fun k_ h_ => Nat.le_trans HK2.out.1 h_); (case aO => exact HO2.out); (case aB => exact Below.refl _ _); (case aS => exact HK2.out.1); (case aL => have h1_ := HKN.out; have h2_ := HLT.out; have h3_ := HM.out; have h4_ := HN.out; have h5_ : ¬ most < n := of_decide_eq_false d1; omega); intro v1 w1 hR1 hb1 hg1 hat1))
      have HO3 := Aside0.mk hR1
      have hlt_ : B < W2.heap.size := Nat.lt_of_lt_of_le HBw.out HK2.out.1
      have hne_ : ∀ k_, (Value.slice Ao_ done.length co_).ownBlock = some k_ → w.heap.size ≤ k_ := fun k_ h_ => Kd.R_base HO2.out k_ h_
      have HK3 : Aside0 (Kp w w1 (fun k_ => k_ = B)) := ⟨Kp.of_grown hg1 HK2.out (fun k_ h_ => .inr (hne_ k_ h_))⟩
      have RB3 : Aside0 (RdB w1 B A l.length c i2) := ⟨(hg1.block B hlt_ (fun e_ => by have := hne_ B e_.symm; have := HBw.out; omega)).trans RB2.out⟩
      clear hR1 hb1 hg1 hat1 hlt_ hne_
      have hkn_ : (k : Int) + 1 ≤ 9223372036854775807 := by have := HLT.out; have := HN.out; omega
      have HKNX := Aside0.mk hkn_
      clear hkn_
      go_wp2
      rw [w64_succ k HKNX.out]
      exact ⟨⟨k + 1, done ++ [x], i2, rfl, ⟨HLT.out, by rw [List.length_append, HKN.out.2]; rfl⟩, ⟨by
          have e1 := HRk.out
          rw [show n.toNat - k = (n.toNat - (k + 1)) + 1 by have := HLT.out; omega, rdRow, HX1.out, Option.bind_some] at e1
          rw [e1]
          cases rdRow (rdN l) (n.toNat - (k + 1)) i2 with
          | none => rfl
          | some b => simp [List.append_assoc]⟩, HI2, HO3, RB3, HK3⟩, by have := HLT.out; simp only [intOf, Int.toNat_natCast]; omega⟩
    · have z1 : decide ((k : Int) < n) = false := decide_eq_false (by omega)
      have HLT := Aside0.mk hlt
      clear hlt hk hnn
      go_wp2
      go_ret
      rw [show R = some (done, ik) from by
        have e1 := HRk.out
        rw [show n.toNat - k = 0 by have := HLT.out; omega, rdRow] at e1
        rw [e1]; simp]
      exact ⟨HKr.out, ⟨_, rfl, HO.out⟩, RBr.out⟩
set_option maxHeartbeats 4000000 in
set_option maxRecDepth 100000 in
theorem rd_rows_ins (B : Nat) (A : Option Addr) (c : Nat) (l : List Int) (i most : Int) (w : World) (hm : 0 ≤ most ∧ most ≤ 32768) (hb : RdB w B A l.length c i)
    (hr : ∀ W', Kept w W' (fun k => k = B) → Kd.C (Kd.int .u8) W' A l.length l) (hc : l.length ≤ c) (hbt : ∀ x ∈ l, 0 ≤ x ∧ x < 256) (hl : l.length ≤ 140737488355318) (h1 : 0 ≤ i) (h2 : i ≤ l.length) :
    Calls Tryd.prog 73 #[.pointer (some ⟨B, 0, none⟩), .int .i64 most, .func (.func 74) #[.pointer (some ⟨B, 0, none⟩)] #[]] w fun e w' => Rp w w' B A l.length c (rdRows (rdC l) most l i) (fun W y u => Kd.R k50 50 W w.heap.size (fun k => w.heap.size ≤ k) u y) e := by
  obtain ⟨R, hR⟩ : ∃ R, R = rdRows (rdC l) most l i := ⟨_, rfl⟩
  rw [← hR]
  have HRR := Aside0.mk hR; have RB := Aside0.mk hb; have HC := Aside0.mk hr; have HCC := Aside0.mk hc; have HBT := Aside0.mk hbt; have HL := Aside0.mk hl; have HI := Aside0.mk (And.intro h1 h2); have HM := Aside0.mk hm
  have HBw : Aside0 (B < w.heap.size) := ⟨blk_lt hb⟩
  have hcall := rd_nat B A c l i w hb (hr w (Kept.refl _ _)) hc hbt hl (by omega) (by omega)
  clear hR hb hr hc hbt hl h1 h2 hm
  go_enter Tryd.func73, Tryd.ntmps73
  go_wp2_with fail
  refine hcall.mono ?_
  clear hcall
  rintro e_ W1 ⟨hk_, h_⟩
  rcases hR0 : rdN l i with _ | ⟨n, i0⟩
  · rw [hR0] at h_
    obtain ⟨m_, rfl⟩ := h_
    have HK2 := Aside0.mk hk_; have HX := Aside0.mk hR0
    clear hk_ hR0
    go_wp2
    rw [show R = none from HRR.out.trans (by simp only [rdRows, Option.bind_none, HX.out])]
    exact ⟨rfl, HK2.out, m_, rfl⟩
  rw [hR0] at h_
  obtain ⟨⟨v0, rfl, hv0⟩, hb2_⟩ := h_
  obtain rfl := hv0
  have HX0 := Aside0.mk hR0; have HI0 := Aside0.mk (rdN_rng HBT.out hR0); have HN := Aside0.mk (rdN_val HBT.out hR0); have RB1 := Aside0.mk hb2_; have HK1 := Aside0.mk hk_
  clear hR0 hb2_ hk_ HI RB
  by_cases hlt : most < n
  · have d1 : decide (most < n) = true := decide_eq_true hlt
    have HLT := Aside0.mk hlt
    clear hlt
    go_wp2
    rw [show R = none from HRR.out.trans (by simp only [rdRows, Option.bind_some, HX0.out]; rw [if_pos HLT.out])]
    exact ⟨rfl, HK1.out, _, rfl⟩
  have d1 : decide (most < n) = false := decide_eq_false hlt
  have HR2 : Aside0 (R = rdRow (rdC l) n.toNat i0) := ⟨HRR.out.trans (by simp only [rdRows, Option.bind_some, HX0.out]; rw [if_neg hlt])⟩
  have HLT := Aside0.mk hlt
  clear hlt HRR HX0
  go_wp2_with fail
  go_loopw [8, 16] (fun vb vi wr => ∃ (k : Nat) (done : List S50) (ik : Int), vi = .int .i64 k ∧ Aside0 (k ≤ n.toNat ∧ done.length = k) ∧ Aside0 (R = (rdRow (rdC l) (n.toNat - k) ik).map fun b => (done ++ b.1, b.2)) ∧ Aside0 (0 ≤ ik ∧ ik ≤ (l.length : Int)) ∧ Aside0 (Kd.R k50 50 wr w.heap.size (fun k_ => w.heap.size ≤ k_) vb done) ∧ Aside0 (RdB wr B A l.length c ik) ∧ Aside0 (Kp w wr (fun k_ => k_ = B))) (fun _ v _ => n.toNat - (intOf v).toNat)
  case atStart => exact ⟨0, [], i0, rfl, ⟨Nat.zero_le _, rfl⟩, ⟨HR2.out.trans (by simp)⟩, HI0, ⟨Kd.R_nil _ _ _ _ _⟩, RB1, HK1⟩
  case round =>
    obtain ⟨k, done, ik, rfl, HKN, HRk, HIr, HO, RBr, HKr⟩ := hrel
    have hk := HKN.out
    have hnn := HN.out
    by_cases hlt : k < n.toNat
    · have z1 : decide ((k : Int) < n) = true := decide_eq_true (by omega)
      have HLT := Aside0.mk hlt
      have hcall := (rd_instr B A c l ik wr RBr.out (fun W' hk_ => HC.out W' (Kept.then_ HKr.out.kept hk_ (fun _ h => .inl h))) HCC.out HBT.out HL.out HIr.out.1 HIr.out.2)
      have HLT2 := Aside0.mk (fun k_ => own_lt (Kd.R_own HO.out).choose_spec k_)
      obtain ⟨Ao_, co_, hvo_⟩ := Kd.R_slice HO.out
      subst hvo_
      clear hlt hk hnn
      go_wp2_with fail
      refine hcall.mono ?_
      clear hcall
      rintro e_ W2 ⟨hk_, h_⟩
      rcases hR1 : rdC l ik with _ | ⟨x, i2⟩
      · rw [hR1] at h_
        obtain ⟨m_, rfl⟩ := h_
        have HK2 := Aside0.mk (HKr.out.then_ hk_ (fun _ h => .inl h)); have HX := Aside0.mk hR1
        clear hk_ hR1
        go_wp2
        rw [show R = none from (by
          have e1 := HRk.out
          rw [show n.toNat - k = (n.toNat - (k + 1)) + 1 by have := HLT.out; omega, rdRow, HX.out] at e1
          exact e1)]
        exact ⟨rfl, HK2.out, m_, rfl⟩
      rw [hR1] at h_
      obtain ⟨⟨v0, rfl, hv0⟩, hb2_⟩ := h_
      obtain rfl := hv0
      skip
      have HX1 := Aside0.mk hR1; have HI2 := Aside0.mk (rdC_rng HBT.out hR1); have RB2 := Aside0.mk hb2_; have HK2 := Aside0.mk (HKr.out.then_ hk_ (fun _ h => .inl h))
      have HO2 := Aside0.mk (Kd.R_kept HO.out hk_.kept (fun k_ h_ e_ => by have := HBw.out; omega))
      have HB2 := Aside0.mk hk_.1
      clear hR1 hb2_ hk_
      go_wp2_with (((with_reducible refine gate_builtin (b := .append) (xs := #[.tmp 18, .tmp 21]) rfl ?_); at_builtin; refine Kd.R_append k50 (w0 := W2) w.heap.size rfl (.tmp 18) (.tmp 21) 51 50 (.agg #[(.int .i64 0), (.int .i64 0), (.int .i64 0)]) 24 rfl Tryd.underlying51 info50 rfl (by decide) (by omega) (.slice Ao_ done.length co_) done x [.int .i64 x.f0, .int .i64 x.f1, .int .i64 x.f2] (fun k_ => w.heap.size ≤ k_) (fun _ => False) rfl rfl ?aP ?aK ?aF ?aO ?aB ?aS ?aL ?_; (case aP => exact k50_mkM _ _ _ x); (case aK => exact fun _ h => h.elim); (case aF => exact fun k_ h_ => Nat.le_trans HK2.out.1 h_); (case aO => exact HO2.out); (case aB => exact Below.refl _ _); (case aS => exact HK2.out.1); (case aL => have h1_ := HKN.out; have h2_ := HLT.out; have h3_ := HM.out; have h4_ := HN.out; have h5_ : ¬ most < n := of_decide_eq_false d1; omega); intro v1 w1 hR1 hb1 hg1 hat1))
      have HO3 := Aside0.mk hR1
      have hlt_ : B < W2.heap.size := Nat.lt_of_lt_of_le HBw.out HK2.out.1
      have hne_ : ∀ k_, (Value.slice Ao_ done.length co_).ownBlock = some k_ → w.heap.size ≤ k_ := fun k_ h_ => Kd.R_base HO2.out k_ h_
      have HK3 : Aside0 (Kp w w1 (fun k_ => k_ = B)) := ⟨Kp.of_grown hg1 HK2.out (fun k_ h_ => .inr (hne_ k_ h_))⟩
      have RB3 : Aside0 (RdB w1 B A l.length c i2) := ⟨(hg1.block B hlt_ (fun e_ => by have := hne_ B e_.symm; have := HBw.out; omega)).trans RB2.out⟩
      clear hR1 hb1 hg1 hat1 hlt_ hne_
      have hkn_ : (k : Int) + 1 ≤ 9223372036854775807 := by have := HLT.out; have := HN.out; omega
      have HKNX := Aside0.mk hkn_
      clear hkn_
      go_wp2
      rw [w64_succ k HKNX.out]
      exact ⟨⟨k + 1, done ++ [x], i2, rfl, ⟨HLT.out, by rw [List.length_append, HKN.out.2]; rfl⟩, ⟨by
          have e1 := HRk.out
          rw [show n.toNat - k = (n.toNat - (k + 1)) + 1 by have := HLT.out; omega, rdRow, HX1.out, Option.bind_some] at e1
          rw [e1]
          cases rdRow (rdC l) (n.toNat - (k + 1)) i2 with
          | none => rfl
          | some b => simp [List.append_assoc]⟩, HI2, HO3, RB3, HK3⟩, by have := HLT.out; simp only [intOf, Int.toNat_natCast]; omega⟩
    · have z1 : decide ((k : Int) < n) = false := decide_eq_false (by omega)
      have HLT := Aside0.mk hlt
      clear hlt hk hnn
      go_wp2
      go_ret
      rw [show R = some (done, ik) from by
        have e1 := HRk.out
        rw [show n.toNat - k = 0 by have := HLT.out; omega, rdRow] at e1
        rw [e1]; simp]
      exact ⟨HKr.out, ⟨_, rfl, HO.out⟩, RBr.out⟩
set_option maxHeartbeats 4000000 in
set_option maxRecDepth 100000 in
theorem rd_rows_glo (B : Nat) (A : Option Addr) (c : Nat) (l : List Int) (i most : Int) (w : World) (hm : 0 ≤ most ∧ most ≤ 32768) (hb : RdB w B A l.length c i)
    (hr : ∀ W', Kept w W' (fun k => k = B) → Kd.C (Kd.int .u8) W' A l.length l) (hc : l.length ≤ c) (hbt : ∀ x ∈ l, 0 ≤ x ∧ x < 256) (hl : l.length ≤ 140737488355318) (h1 : 0 ≤ i) (h2 : i ≤ l.length) :
    Calls Tryd.prog 42 #[.pointer (some ⟨B, 0, none⟩), .int .i64 most, .func (.func 43) #[.pointer (some ⟨B, 0, none⟩)] #[]] w fun e w' => Rp w w' B A l.length c (rdRows (rdG l) most l i) (fun W y u => Kd.R k48 48 W w.heap.size (fun k => w.heap.size ≤ k) u y) e := by
  obtain ⟨R, hR⟩ : ∃ R, R = rdRows (rdG l) most l i := ⟨_, rfl⟩
  rw [← hR]
  have HRR := Aside0.mk hR; have RB := Aside0.mk hb; have HC := Aside0.mk hr; have HCC := Aside0.mk hc; have HBT := Aside0.mk hbt; have HL := Aside0.mk hl; have HI := Aside0.mk (And.intro h1 h2); have HM := Aside0.mk hm
  have HBw : Aside0 (B < w.heap.size) := ⟨blk_lt hb⟩
  have hcall := rd_nat B A c l i w hb (hr w (Kept.refl _ _)) hc hbt hl (by omega) (by omega)
  clear hR hb hr hc hbt hl h1 h2 hm
  go_enter Tryd.func42, Tryd.ntmps42
  go_wp2_with fail
  refine hcall.mono ?_
  clear hcall
  rintro e_ W1 ⟨hk_, h_⟩
  rcases hR0 : rdN l i with _ | ⟨n, i0⟩
  · rw [hR0] at h_
    obtain ⟨m_, rfl⟩ := h_
    have HK2 := Aside0.mk hk_; have HX := Aside0.mk hR0
    clear hk_ hR0
    go_wp2
    rw [show R = none from HRR.out.trans (by simp only [rdRows, Option.bind_none, HX.out])]
    exact ⟨rfl, HK2.out, m_, rfl⟩
  rw [hR0] at h_
  obtain ⟨⟨v0, rfl, hv0⟩, hb2_⟩ := h_
  obtain rfl := hv0
  have HX0 := Aside0.mk hR0; have HI0 := Aside0.mk (rdN_rng HBT.out hR0); have HN := Aside0.mk (rdN_val HBT.out hR0); have RB1 := Aside0.mk hb2_; have HK1 := Aside0.mk hk_
  clear hR0 hb2_ hk_ HI RB
  by_cases hlt : most < n
  · have d1 : decide (most < n) = true := decide_eq_true hlt
    have HLT := Aside0.mk hlt
    clear hlt
    go_wp2
    rw [show R = none from HRR.out.trans (by simp only [rdRows, Option.bind_some, HX0.out]; rw [if_pos HLT.out])]
    exact ⟨rfl, HK1.out, _, rfl⟩
  have d1 : decide (most < n) = false := decide_eq_false hlt
  have HR2 : Aside0 (R = rdRow (rdG l) n.toNat i0) := ⟨HRR.out.trans (by simp only [rdRows, Option.bind_some, HX0.out]; rw [if_neg hlt])⟩
  have HLT := Aside0.mk hlt
  clear hlt HRR HX0
  go_wp2_with fail
  go_loopw [8, 16] (fun vb vi wr => ∃ (k : Nat) (done : List S48) (ik : Int), vi = .int .i64 k ∧ Aside0 (k ≤ n.toNat ∧ done.length = k) ∧ Aside0 (R = (rdRow (rdG l) (n.toNat - k) ik).map fun b => (done ++ b.1, b.2)) ∧ Aside0 (0 ≤ ik ∧ ik ≤ (l.length : Int)) ∧ Aside0 (Kd.R k48 48 wr w.heap.size (fun k_ => w.heap.size ≤ k_) vb done) ∧ Aside0 (RdB wr B A l.length c ik) ∧ Aside0 (Kp w wr (fun k_ => k_ = B))) (fun _ v _ => n.toNat - (intOf v).toNat)
  case atStart => exact ⟨0, [], i0, rfl, ⟨Nat.zero_le _, rfl⟩, ⟨HR2.out.trans (by simp)⟩, HI0, ⟨Kd.R_nil _ _ _ _ _⟩, RB1, HK1⟩
  case round =>
    obtain ⟨k, done, ik, rfl, HKN, HRk, HIr, HO, RBr, HKr⟩ := hrel
    have hk := HKN.out
    have hnn := HN.out
    by_cases hlt : k < n.toNat
    · have z1 : decide ((k : Int) < n) = true := decide_eq_true (by omega)
      have HLT := Aside0.mk hlt
      have hcall := (rd_glob B A c l ik wr RBr.out (fun W' hk_ => HC.out W' (Kept.then_ HKr.out.kept hk_ (fun _ h => .inl h))) HCC.out HBT.out HL.out HIr.out.1 HIr.out.2)
      have HLT2 := Aside0.mk (fun k_ => own_lt (Kd.R_own HO.out).choose_spec k_)
      obtain ⟨Ao_, co_, hvo_⟩ := Kd.R_slice HO.out
      subst hvo_
      clear hlt hk hnn
      go_wp2_with fail
      refine hcall.mono ?_
      clear hcall
      rintro e_ W2 ⟨hk_, h_⟩
      rcases hR1 : rdG l ik with _ | ⟨x, i2⟩
      · rw [hR1] at h_
        obtain ⟨m_, rfl⟩ := h_
        have HK2 := Aside0.mk (HKr.out.then_ hk_ (fun _ h => .inl h)); have HX := Aside0.mk hR1
        clear hk_ hR1
        go_wp2
        rw [show R = none from (by
          have e1 := HRk.out
          rw [show n.toNat - k = (n.toNat - (k + 1)) + 1 by have := HLT.out; omega, rdRow, HX.out] at e1
          exact e1)]
        exact ⟨rfl, HK2.out, m_, rfl⟩
      rw [hR1] at h_
      obtain ⟨⟨v0, rfl, hv0⟩, hb2_⟩ := h_
      obtain rfl := hv0
      skip
      have HX1 := Aside0.mk hR1; have HI2 := Aside0.mk (rdG_rng HBT.out hR1); have RB2 := Aside0.mk hb2_; have HK2 := Aside0.mk (HKr.out.then_ hk_ (fun _ h => .inl h))
      have HO2 := Aside0.mk (Kd.R_kept HO.out hk_.kept (fun k_ h_ e_ => by have := HBw.out; omega))
      have HB2 := Aside0.mk hk_.1
      clear hR1 hb2_ hk_
      go_wp2_with (((with_reducible refine gate_builtin (b := .append) (xs := #[.tmp 18, .tmp 21]) rfl ?_); at_builtin; refine Kd.R_append k48 (w0 := W2) w.heap.size rfl (.tmp 18) (.tmp 21) 22 48 (.agg #[(.int .i64 0), (.int .i64 0), (.int .i64 0)]) 24 rfl Tryd.underlying22 info48 rfl (by decide) (by omega) (.slice Ao_ done.length co_) done x [.int .i64 x.f0, .int .i64 x.f1, .int .i64 x.f2] (fun k_ => w.heap.size ≤ k_) (fun _ => False) rfl rfl ?aP ?aK ?aF ?aO ?aB ?aS ?aL ?_; (case aP => exact k48_mkM _ _ _ x); (case aK => exact fun _ h => h.elim); (case aF => exact fun k_ h_ => Nat.le_trans HK2.out.1 h_); (case aO => exact HO2.out); (case aB => exact Below.refl _ _); (case aS => exact HK2.out.1); (case aL => have h1_ := HKN.out; have h2_ := HLT.out; have h3_ := HM.out; have h4_ := HN.out; have h5_ : ¬ most < n := of_decide_eq_false d1; omega); intro v1 w1 hR1 hb1 hg1 hat1))
      have HO3 := Aside0.mk hR1
      have hlt_ : B < W2.heap.size := Nat.lt_of_lt_of_le HBw.out HK2.out.1
      have hne_ : ∀ k_, (Value.slice Ao_ done.length co_).ownBlock = some k_ → w.heap.size ≤ k_ := fun k_ h_ => Kd.R_base HO2.out k_ h_
      have HK3 : Aside0 (Kp w w1 (fun k_ => k_ = B)) := ⟨Kp.of_grown hg1 HK2.out (fun k_ h_ => .inr (hne_ k_ h_))⟩
      have RB3 : Aside0 (RdB w1 B A l.length c i2) := ⟨(hg1.block B hlt_ (fun e_ => by have := hne_ B e_.symm; have := HBw.out; omega)).trans RB2.out⟩
      clear hR1 hb1 hg1 hat1 hlt_ hne_
      have hkn_ : (k : Int) + 1 ≤ 9223372036854775807 := by have := HLT.out; have := HN.out; omega
      have HKNX := Aside0.mk hkn_
      clear hkn_
      go_wp2
      rw [w64_succ k HKNX.out]
      exact ⟨⟨k + 1, done ++ [x], i2, rfl, ⟨HLT.out, by rw [List.length_append, HKN.out.2]; rfl⟩, ⟨by
          have e1 := HRk.out
          rw [show n.toNat - k = (n.toNat - (k + 1)) + 1 by have := HLT.out; omega, rdRow, HX1.out, Option.bind_some] at e1
          rw [e1]
          cases rdRow (rdG l) (n.toNat - (k + 1)) i2 with
          | none => rfl
          | some b => simp [List.append_assoc]⟩, HI2, HO3, RB3, HK3⟩, by have := HLT.out; simp only [intOf, Int.toNat_natCast]; omega⟩
    · have z1 : decide ((k : Int) < n) = false := decide_eq_false (by omega)
      have HLT := Aside0.mk hlt
      clear hlt hk hnn
      go_wp2
      go_ret
      rw [show R = some (done, ik) from by
        have e1 := HRk.out
        rw [show n.toNat - k = 0 by have := HLT.out; omega, rdRow] at e1
        rw [e1]; simp]
      exact ⟨HKr.out, ⟨_, rfl, HO.out⟩, RBr.out⟩
end Go.Proofs.YteidgpaakoeefaaDoor
namespace Go.Proofs.YteidgpaakoeefaaDoor
open Go.RowKit Go.Proofs.YteidgpaakoeefaaDoorW.PrintWords Go.Proofs.YteidgpaakoeefaaDoorW.PrintLast Go.Proofs.YteidgpaakoeefaaDoorW.PrintMore
set_option linter.unusedVariables false
set_option linter.unusedSimpArgs false
theorem infoI : (Tryd.prog.info? 3).map (fun i => (i.zero, i.size, i.bytes)) = some (some (.int .i64 0), 1, 8) := by kernel_rfl
set_option maxHeartbeats 2000000 in
set_option maxRecDepth 100000 in
theorem growI_nil (n : Int) (w : World) (h0 : 0 ≤ n) (hn : n ≤ 1000000) :
    Calls Tryd.prog 96 #[.slice none 0 0, .int .i64 n] w
      fun e w' => ∃ v, e = .returned v ∧ Kd.R (Kd.int .i64) 3 w' w.heap.size (fun _ => True) v [] ∧ Below w.heap.size w w' := by
  have HB := Aside0.mk (Below.refl w.heap.size w)
  by_cases hz : n = 0
  · subst hz
    go_enter Tryd.func96, Tryd.ntmps96
    go_wp2
    go_ret
    exact ⟨_, rfl, Kd.R_nil _ _ _ _ _, HB.out⟩
  · have hp : 0 < n := by omega
    go_enter Tryd.func96, Tryd.ntmps96
    go_wp2_with (first | ((with_reducible refine gate_builtin (b := .append) (xs := #[.tmp 20, .tmp 21]) rfl ?_); at_builtin; refine Kd.R_append_zeros (Kd.int .i64) (w0 := w) w.heap.size rfl (.tmp 20) (.tmp 21) 52 3 3 (.int .i64 0) 8 rfl Tryd.underlying52 Tryd.underlying3 infoI rfl (by decide) (by omega) (.slice none 0 0) [] (0 : Int) n (fun _ => True) rfl rfl rfl (fun _ _ => trivial) (Kd.R_nil _ _ _ _ _) h0 HB.out (Nat.le_refl _) ?aL ?_; (case aL => simp; omega); intro v1 w1 ho hb hg hat; have HO := Aside0.mk ho; clear HB; have HB := Aside0.mk hb; clear ho hb hg hat; obtain ⟨A1, c1, hv⟩ := Kd.R_slice HO.out; subst hv; obtain ⟨i0, hi0, _, hsz0, _⟩ := info_parts infoI; obtain ⟨hcut, hA⟩ := print_take_int (P := Tryd.prog) (k := .i64) 52 3 Tryd.underlying52 hi0 hsz0 A1 c1 (List.replicate n.toNat 0) 0 (by omega) (by omega) (by have := (Kd.R_reads' HO.out).2.1; simpa using this)))
    go_ret
    exact ⟨_, rfl, Kd.R_take (m := 0) HO.out (Nat.zero_le _), HB.out⟩
def CRowI (w : World) (l0 l1 : List Int) (wr : World) (v vi : Value) : Prop :=
  Below w.heap.size w wr ∧ ((vi = .int .i64 0 ∧ Kd.R (Kd.int .i64) 3 wr w.heap.size (fun _ => True) v []) ∨ (vi = .int .i64 1 ∧ Kd.R (Kd.int .i64) 3 wr w.heap.size (fun _ => True) v l0) ∨
    (vi = .int .i64 2 ∧ Kd.R (Kd.int .i64) 3 wr w.heap.size (fun _ => True) v (l0 ++ l1)))
set_option maxHeartbeats 4000000 in
set_option maxRecDepth 100000 in
theorem concatI_two (g : Nat) (A0 A1 : Option Addr) (c0 c1 : Nat) (l0 l1 : List Int) (w : World)
    (hg0 : w.cell? ⟨g, 0, none⟩ = some (.slice A0 l0.length c0)) (hg1 : w.cell? ⟨g, 1, none⟩ = some (.slice A1 l1.length c1))
    (hr0 : Kd.C (Kd.int .i64) w A0 l0.length l0) (hr1 : Kd.C (Kd.int .i64) w A1 l1.length l1) (hl : l0.length + l1.length ≤ 1000000) :
    Calls Tryd.prog 72 #[.slice (some ⟨g, 0, none⟩) 2 2] w
      fun e w' => ∃ v, e = .returned v ∧ Kd.R (Kd.int .i64) 3 w' w.heap.size (fun _ => True) v (l0 ++ l1) ∧ Below w.heap.size w w' := by
  have HB := Aside0.mk (Below.refl w.heap.size w)
  have HR0 := Aside0.mk hr0
  have HR1 := Aside0.mk hr1
  have hlt := World.block_lt_of_cell? w _ hg0
  have HLT : Aside0 (g < w.heap.size) := ⟨hlt⟩
  have HL := Aside0.mk hl
  clear hr0 hr1 hlt
  obtain ⟨n0, hn0⟩ : ∃ n : Nat, n = l0.length := ⟨_, rfl⟩
  obtain ⟨n1, hn1⟩ : ∃ n : Nat, n = l1.length := ⟨_, rfl⟩
  rw [← hn0] at hg0; rw [← hn1] at hg1; rw [← hn0, ← hn1] at hl
  have HN0 := Aside0.mk hn0; have HN1 := Aside0.mk hn1
  clear hn0 hn1
  go_enter Tryd.func72, Tryd.ntmps72
  go_wp2
  go_loop [3, 11] (fun vs vi => CRel n0 n1 vs vi) (fun _ vi => (2 - intOf vi).toNat)
  case atStart => exact .inl ⟨rfl, rfl⟩
  case round =>
    rcases hrel with ⟨rfl, rfl⟩ | ⟨rfl, rfl⟩ | ⟨rfl, rfl⟩
    · go_wp2
      exact ⟨.inr (.inl ⟨rfl, rfl⟩), by simp [intOf]⟩
    · go_wp2
      exact ⟨.inr (.inr ⟨rfl, rfl⟩), by simp [intOf]⟩
    · go_wp2_with fail
      ((with_reducible refine (growI_nil _ _ (by omega) (by omega)).mono ?_); rintro e_ W1 ⟨v0, rfl, ho_, hb_⟩)
      have HO0 := Aside0.mk ho_
      clear HB; have HB := Aside0.mk hb_; clear ho_ hb_
      have hg0w := (HB.out.cell (p := ⟨g, 0, none⟩) HLT.out).trans hg0
      have hg1w := (HB.out.cell (p := ⟨g, 1, none⟩) HLT.out).trans hg1
      have HG0 := Aside0.mk hg0; have HG1 := Aside0.mk hg1
      clear hg0 hg1
      have HR0' : Aside0 (Kd.C (Kd.int .i64) w A0 n0 l0) := ⟨by rw [HN0.out]; exact HR0.out⟩
      have HR1' : Aside0 (Kd.C (Kd.int .i64) w A1 n1 l1) := ⟨by rw [HN1.out]; exact HR1.out⟩
      clear hg0w hg1w
      go_wp2
      go_loopw [6, 27] (fun v vi wr => CRowI w l0 l1 wr v vi) (fun _ vi _ => (2 - intOf vi).toNat)
      case atStart => exact ⟨HB.out, .inl ⟨rfl, HO0.out⟩⟩
      case round =>
        clear HB HO0
        obtain ⟨hb_, hcase⟩ := hrel
        have HB := Aside0.mk hb_; clear hb_
        have hg0 := (HB.out.cell (p := ⟨g, 0, none⟩) HLT.out).trans HG0.out
        have hg1 := (HB.out.cell (p := ⟨g, 1, none⟩) HLT.out).trans HG1.out
        rcases hcase with ⟨rfl, ho_⟩ | ⟨rfl, ho_⟩ | ⟨rfl, ho_⟩
        · have HO0 := Aside0.mk ho_; clear ho_
          go_wp2_with (first | ((with_reducible refine gate_builtin (b := .append) (xs := #[.tmp 31, .tmp 32]) rfl ?_); at_builtin; refine Kd.R_append_rows (Kd.int .i64) (w0 := w) w.heap.size rfl (.tmp 31) (.tmp 32) 52 3 (.int .i64 0) 8 rfl Tryd.underlying52 infoI rfl (by decide) (by omega) _ [] l0 _ _ _ (fun _ => True) (fun _ => False) rfl rfl ?aO ?aR (fun _ _ h => h) (fun _ h => h.elim) ?aF ?aB ?aS ?aL ?_; (case aR => exact (Kd.C_below HR0'.out HB.out)); (case aB => exact HB.out); (case aF => exact (fun _ _ => trivial)); (case aO => exact HO0.out); (case aS => exact (below_size HB.out)); (case aL => (have := HL.out; simp; omega)); intro v1 w1 ho hb hg hat; have HO1 := Aside0.mk ho; clear HB; have HB := Aside0.mk hb; clear ho hb hg hat))
          refine ⟨⟨HB.out, .inr (.inl ⟨rfl, HO1.out⟩)⟩, by simp [intOf]⟩
        · have HO0 := Aside0.mk ho_; clear ho_
          go_wp2_with (first | ((with_reducible refine gate_builtin (b := .append) (xs := #[.tmp 31, .tmp 32]) rfl ?_); at_builtin; refine Kd.R_append_rows (Kd.int .i64) (w0 := w) w.heap.size rfl (.tmp 31) (.tmp 32) 52 3 (.int .i64 0) 8 rfl Tryd.underlying52 infoI rfl (by decide) (by omega) _ l0 l1 _ _ _ (fun _ => True) (fun _ => False) rfl rfl ?aO ?aR (fun _ _ h => h) (fun _ h => h.elim) ?aF ?aB ?aS ?aL ?_; (case aR => exact (Kd.C_below HR1'.out HB.out)); (case aB => exact HB.out); (case aF => exact (fun _ _ => trivial)); (case aO => exact HO0.out); (case aS => exact (below_size HB.out)); (case aL => (have := HL.out; have := HN0.out; have := HN1.out; omega)); intro v1 w1 ho hb hg hat; have HO1 := Aside0.mk ho; clear HB; have HB := Aside0.mk hb; clear ho hb hg hat))
          exact ⟨⟨HB.out, .inr (.inr ⟨rfl, HO1.out⟩)⟩, by simp [intOf]⟩
        · have HO0 := Aside0.mk ho_; clear ho_
          go_wp2
          go_ret
          exact ⟨_, rfl, HO0.out, HB.out⟩
end Go.Proofs.YteidgpaakoeefaaDoor
