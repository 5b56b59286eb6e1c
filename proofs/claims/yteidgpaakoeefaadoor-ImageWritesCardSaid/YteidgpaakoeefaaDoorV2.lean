/- Taken together by a program of mine: what the proof names, out of the texts of this seat (its words as the print wrote them), part 2. -/
import Derived.Test.YteidgpaakoeefaaDoorV1
import Derived.WalkKit
import Derived.WalkLawsBesides
import Derived.Outline
import Derived.Lib.Hide
import Derived.BigQuiet
import Derived.WalkSpells
import Derived.ScopeJumps
import Derived.Lib.AppendStr
import Derived.Laws.DeepNot64
import Derived.Laws.IdiomStrings
import Derived.Laws.CopyRow
import Derived.Laws.IdiomCopy
import Derived.Laws.MakeOwn
import Derived.Deep.WholeRow
namespace Go.Proofs.YteidgpaakoeefaaDoor
open Go.RowKit Go.Proofs.YteidgpaakoeefaaDoorW.PrintWords Go.Proofs.YteidgpaakoeefaaDoorW.PrintLast Go.Proofs.YteidgpaakoeefaaDoorW.PrintMore
set_option linter.unusedVariables false
structure Aft (W : World) where
  w : World
  below : Below W.heap.size W w
instance (W : World) : Nonempty (Aft W) := ⟨⟨W, Below.refl _ _⟩⟩
variable {P : Program}
theorem ret_int {k : IntKind} {a b : Int} (h : a = b) : Ending.returned (.int k a) = .returned (.int k b) := by rw [h]
theorem ret_bool {a b : Bool} (h : a = b) : Ending.returned (.bool a) = .returned (.bool b) := by rw [h]
end Go.Proofs.YteidgpaakoeefaaDoor
namespace Go.Proofs.YteidgpaakoeefaaDoor
open Go.RowKit Go.Proofs.YteidgpaakoeefaaDoorW.PrintWords Go.Proofs.YteidgpaakoeefaaDoorW.PrintLast Go.Proofs.YteidgpaakoeefaaDoorW.PrintMore
set_option linter.unusedVariables false
set_option linter.unusedSimpArgs false
theorem infoB : (Tryd.prog.info? 5).map (fun i => (i.zero, i.size, i.bytes)) = some (some (.int .u8 0), 1, 1) := by kernel_rfl
set_option maxHeartbeats 2000000 in
set_option maxRecDepth 100000 in
theorem grow_nil (n : Int) (w : World) (h0 : 0 ≤ n) (hn : n ≤ 140737488355328) :
    Calls Tryd.prog 67 #[.slice none 0 0, .int .i64 n] w
      fun e w' => ∃ v, e = .returned v ∧ Kd.R (Kd.int .u8) 5 w' w.heap.size (fun _ => True) v [] ∧ Below w.heap.size w w' := by
  have HB := Aside0.mk (Below.refl w.heap.size w)
  by_cases hz : n = 0
  · subst hz
    go_enter Tryd.func67, Tryd.ntmps67
    go_wp2
    go_ret
    exact ⟨_, rfl, Kd.R_nil _ _ _ _ _, HB.out⟩
  · have hp : 0 < n := by omega
    go_enter Tryd.func67, Tryd.ntmps67
    go_wp2_with (first | ((with_reducible refine gate_builtin (b := .append) (xs := #[.tmp 20, .tmp 21]) rfl ?_); at_builtin; refine Kd.R_append_zeros (Kd.int .u8) (w0 := w) w.heap.size rfl (.tmp 20) (.tmp 21) 30 3 5 (.int .u8 0) 1 rfl Tryd.underlying30 Tryd.underlying3 infoB rfl (by decide) (by omega) (.slice none 0 0) [] (0 : Int) n (fun _ => True) rfl rfl rfl (fun _ _ => trivial) (Kd.R_nil _ _ _ _ _) h0 HB.out (Nat.le_refl _) ?aL ?_; (case aL => simp; omega); intro v1 w1 ho hb hg hat; have HO := Aside0.mk ho; clear HB; have HB := Aside0.mk hb; clear ho hb hg hat; obtain ⟨A1, c1, hv⟩ := Kd.R_slice HO.out; subst hv; obtain ⟨i0, hi0, _, hsz0, _⟩ := info_parts infoB; obtain ⟨hcut, hA⟩ := print_take_int (P := Tryd.prog) (k := .i64) 30 5 Tryd.underlying30 hi0 hsz0 A1 c1 (List.replicate n.toNat 0) 0 (by omega) (by omega) (by have := (Kd.R_reads' HO.out).2.1; simpa using this)))
    go_ret
    exact ⟨_, rfl, Kd.R_take (m := 0) HO.out (Nat.zero_le _), HB.out⟩
end Go.Proofs.YteidgpaakoeefaaDoor
namespace Go.Proofs.YteidgpaakoeefaaDoor
open Go.RowKit Go.Proofs.YteidgpaakoeefaaDoorW.PrintWords Go.Proofs.YteidgpaakoeefaaDoorW.PrintLast Go.Proofs.YteidgpaakoeefaaDoorW.PrintMore
set_option linter.unusedVariables false
set_option linter.unusedSimpArgs false
def CRel (n0 n1 : Int) (vs vi : Value) : Prop := (vi = .int .i64 0 ∧ vs = .int .i64 0) ∨ (vi = .int .i64 1 ∧ vs = .int .i64 n0) ∨ (vi = .int .i64 2 ∧ vs = .int .i64 (n0 + n1))
def CRow (w : World) (l0 l1 : List Int) (wr : World) (v vi : Value) : Prop :=
  Below w.heap.size w wr ∧ ((vi = .int .i64 0 ∧ Kd.R (Kd.int .u8) 5 wr w.heap.size (fun _ => True) v []) ∨ (vi = .int .i64 1 ∧ Kd.R (Kd.int .u8) 5 wr w.heap.size (fun _ => True) v l0) ∨
    (vi = .int .i64 2 ∧ Kd.R (Kd.int .u8) 5 wr w.heap.size (fun _ => True) v (l0 ++ l1)))
set_option maxHeartbeats 4000000 in
set_option maxRecDepth 100000 in
theorem concat_two (g : Nat) (A0 A1 : Option Addr) (c0 c1 : Nat) (l0 l1 : List Int) (w : World)
    (hg0 : w.cell? ⟨g, 0, none⟩ = some (.slice A0 l0.length c0)) (hg1 : w.cell? ⟨g, 1, none⟩ = some (.slice A1 l1.length c1))
    (hr0 : Kd.C (Kd.int .u8) w A0 l0.length l0) (hr1 : Kd.C (Kd.int .u8) w A1 l1.length l1) (hl : l0.length + l1.length ≤ 140737488355328) :
    Calls Tryd.prog 40 #[.slice (some ⟨g, 0, none⟩) 2 2] w
      fun e w' => ∃ v, e = .returned v ∧ Kd.R (Kd.int .u8) 5 w' w.heap.size (fun _ => True) v (l0 ++ l1) ∧ Below w.heap.size w w' := by
  have HB := Aside0.mk (Below.refl w.heap.size w)
  have HR0 := Aside0.mk hr0
  have HR1 := Aside0.mk hr1
  have hlt := World.block_lt_of_cell? w _ hg0
  have HLT : Aside0 (g < w.heap.size) := ⟨hlt⟩
  have HL := Aside0.mk hl
  clear hr0 hr1 hlt
  obtain ⟨n0, hn0⟩ : ∃ n : Nat, n = l0.length := ⟨_, rfl⟩
  obtain ⟨n1, hn1⟩ : ∃ n : Nat, n = l1.length := ⟨_, rfl⟩
  rw [← hn0] at hg0; rw [← hn1] at hg1; rw [← hn0, ← hn1] at hl
  have HN0 := Aside0.mk hn0; have HN1 := Aside0.mk hn1
  clear hn0 hn1
  go_enter Tryd.func40, Tryd.ntmps40
  go_wp2
  go_loop [3, 11] (fun vs vi => CRel n0 n1 vs vi) (fun _ vi => (2 - intOf vi).toNat)
  case atStart => exact .inl ⟨rfl, rfl⟩
  case round =>
    rcases hrel with ⟨rfl, rfl⟩ | ⟨rfl, rfl⟩ | ⟨rfl, rfl⟩
    · go_wp2
      exact ⟨.inr (.inl ⟨rfl, rfl⟩), by simp [intOf]⟩
    · go_wp2
      exact ⟨.inr (.inr ⟨rfl, rfl⟩), by simp [intOf]⟩
    · go_wp2_with fail
      ((with_reducible refine (grow_nil _ _ (by omega) (by omega)).mono ?_); rintro e_ W1 ⟨v0, rfl, ho_, hb_⟩)
      have HO0 := Aside0.mk ho_
      clear HB; have HB := Aside0.mk hb_; clear ho_ hb_
      have hg0w := (HB.out.cell (p := ⟨g, 0, none⟩) HLT.out).trans hg0
      have hg1w := (HB.out.cell (p := ⟨g, 1, none⟩) HLT.out).trans hg1
      have HG0 := Aside0.mk hg0; have HG1 := Aside0.mk hg1
      clear hg0 hg1
      have HR0' : Aside0 (Kd.C (Kd.int .u8) w A0 n0 l0) := ⟨by rw [HN0.out]; exact HR0.out⟩
      have HR1' : Aside0 (Kd.C (Kd.int .u8) w A1 n1 l1) := ⟨by rw [HN1.out]; exact HR1.out⟩
      clear hg0w hg1w
      go_wp2
      go_loopw [6, 27] (fun v vi wr => CRow w l0 l1 wr v vi) (fun _ vi _ => (2 - intOf vi).toNat)
      case atStart => exact ⟨HB.out, .inl ⟨rfl, HO0.out⟩⟩
      case round =>
        clear HB HO0
        obtain ⟨hb_, hcase⟩ := hrel
        have HB := Aside0.mk hb_; clear hb_
        have hg0 := (HB.out.cell (p := ⟨g, 0, none⟩) HLT.out).trans HG0.out
        have hg1 := (HB.out.cell (p := ⟨g, 1, none⟩) HLT.out).trans HG1.out
        rcases hcase with ⟨rfl, ho_⟩ | ⟨rfl, ho_⟩ | ⟨rfl, ho_⟩
        · have HO0 := Aside0.mk ho_; clear ho_
          go_wp2_with (first | ((with_reducible refine gate_builtin (b := .append) (xs := #[.tmp 31, .tmp 32]) rfl ?_); at_builtin; refine Kd.R_append_rows (Kd.int .u8) (w0 := w) w.heap.size rfl (.tmp 31) (.tmp 32) 30 5 (.int .u8 0) 1 rfl Tryd.underlying30 infoB rfl (by decide) (by omega) _ [] l0 _ _ _ (fun _ => True) (fun _ => False) rfl rfl ?aO ?aR (fun _ _ h => h) (fun _ h => h.elim) ?aF ?aB ?aS ?aL ?_; (case aR => exact (Kd.C_below HR0'.out HB.out)); (case aB => exact HB.out); (case aF => exact (fun _ _ => trivial)); (case aO => exact HO0.out); (case aS => exact (below_size HB.out)); (case aL => (have := HL.out; simp; omega)); intro v1 w1 ho hb hg hat; have HO1 := Aside0.mk ho; clear HB; have HB := Aside0.mk hb; clear ho hb hg hat))
          refine ⟨⟨HB.out, .inr (.inl ⟨rfl, HO1.out⟩)⟩, by simp [intOf]⟩
        · have HO0 := Aside0.mk ho_; clear ho_
          go_wp2_with (first | ((with_reducible refine gate_builtin (b := .append) (xs := #[.tmp 31, .tmp 32]) rfl ?_); at_builtin; refine Kd.R_append_rows (Kd.int .u8) (w0 := w) w.heap.size rfl (.tmp 31) (.tmp 32) 30 5 (.int .u8 0) 1 rfl Tryd.underlying30 infoB rfl (by decide) (by omega) _ l0 l1 _ _ _ (fun _ => True) (fun _ => False) rfl rfl ?aO ?aR (fun _ _ h => h) (fun _ h => h.elim) ?aF ?aB ?aS ?aL ?_; (case aR => exact (Kd.C_below HR1'.out HB.out)); (case aB => exact HB.out); (case aF => exact (fun _ _ => trivial)); (case aO => exact HO0.out); (case aS => exact (below_size HB.out)); (case aL => (have := HL.out; have := HN0.out; have := HN1.out; omega)); intro v1 w1 ho hb hg hat; have HO1 := Aside0.mk ho; clear HB; have HB := Aside0.mk hb; clear ho hb hg hat))
          exact ⟨⟨HB.out, .inr (.inr ⟨rfl, HO1.out⟩)⟩, by simp [intOf]⟩
        · have HO0 := Aside0.mk ho_; clear ho_
          go_wp2
          go_ret
          exact ⟨_, rfl, HO0.out, HB.out⟩
end Go.Proofs.YteidgpaakoeefaaDoor
namespace Go.Proofs.YteidgpaakoeefaaDoor
open Go.RowKit Go.Proofs.YteidgpaakoeefaaDoorW.PrintWords Go.Proofs.YteidgpaakoeefaaDoorW.PrintLast Go.Proofs.YteidgpaakoeefaaDoorW.PrintMore
set_option linter.unusedVariables false
set_option linter.unusedSimpArgs false
def venc (z : Nat) : List Int := if z < 128 then [(z : Int)] else ((z % 128 + 128 : Nat) : Int) :: venc (z / 128)
theorem venc_lt {z : Nat} (h : z < 128) : venc z = [(z : Int)] := by rw [venc, if_pos h]
theorem venc_ge {z : Nat} (h : ¬ z < 128) : venc z = ((z % 128 + 128 : Nat) : Int) :: venc (z / 128) := by rw [venc, if_neg h]
theorem venc_len : ∀ (k z : Nat), z < 128 ^ (k + 1) → (venc z).length ≤ k + 1
  | 0, z, h => by rw [venc_lt (by simpa using h)]; simp
  | k + 1, z, h => by
    by_cases hz : z < 128
    · rw [venc_lt hz]; simp
    · rw [venc_ge hz, List.length_cons]
      have := venc_len k (z / 128) (Nat.div_lt_of_lt_mul (by rw [Nat.pow_succ] at h; omega))
      omega
theorem venc_pos (z : Nat) : 0 < (venc z).length := by rw [venc]; split <;> simp
theorem venc_len64 {z : Int} (h : z < 18446744073709551616) : (venc z.toNat).length ≤ 10 := venc_len 9 _ (by omega)
theorem u64_and127 (z : Int) (h0 : 0 ≤ z) (h1 : z < 18446744073709551616) : bits .and .u64 z 127 = z % 128 := by go_bits2
theorem C_of_cells {w : World} {g : Nat} {xs : List Int} (hl : xs.length ≤ 9223372036854775807)
    (h : ∀ (j : Nat) (x : Int), xs[j]? = some x → w.cell? ⟨g, j, none⟩ = some (.int .u8 x)) :
    Kd.C (Kd.int .u8) w (some ⟨g, 0, none⟩) xs.length xs := by
  refine ⟨rfl, hl, fun _ => ⟨_, rfl, fun j p hj => ⟨[.int .u8 p], rfl, rfl, fun i u hu => ?_⟩⟩⟩
  cases i with
  | zero =>
    simp only [List.getElem?_cons_zero, Option.some.injEq] at hu
    subst hu
    rw [add_plain]
    show w.cell? ⟨g, j * 1 + 0, none⟩ = _
    rw [Nat.mul_one, Nat.add_zero]
    exact h j p hj
  | succ i => simp at hu
theorem C_pre (w : World) (xs : List Int) (rest : List Value) (ty : TypeId) (hl : xs.length ≤ 9223372036854775807) (w1 : World) (hw : w1 = w.alloc (Obj.cells (xs.map (Value.int .u8) ++ rest).toArray ty)) :
    Kd.C (Kd.int .u8) w1 (some ⟨w.heap.size, 0, none⟩) xs.length xs := by
  subst hw
  refine C_of_cells hl (fun j x hx => ?_)
  have hj : j < xs.length := by
    have := List.getElem?_eq_some_iff.1 hx
    exact this.1
  have h1 : (xs.map (Value.int .u8) ++ rest)[j]? = some (.int .u8 x) := by rw [List.getElem?_append_left (by simpa using hj), List.getElem?_map, hx]; rfl
  unfold World.cell?
  rw [(MapKept.heap_alloc w _).1]
  simpa using h1
theorem pair_cells (w : World) (o1 : Obj) (a b : Value) (ty : TypeId) :
    ((w.alloc o1).alloc (Obj.cells #[a, b] ty)).cell? ⟨w.heap.size + 1, 0, none⟩ = some a ∧ ((w.alloc o1).alloc (Obj.cells #[a, b] ty)).cell? ⟨w.heap.size + 1, 1, none⟩ = some b := by
  have h := (MapKept.heap_alloc (w.alloc o1) (Obj.cells #[a, b] ty)).1
  have hs : (w.alloc o1).heap.size = w.heap.size + 1 := by show (w.heap.push o1).size = _; simp
  rw [hs] at h
  unfold World.cell?
  rw [h]
  exact ⟨rfl, rfl⟩
theorem two_below (w : World) (o1 o2 : Obj) : Below w.heap.size w ((w.alloc o1).alloc o2) ∧ w.heap.size ≤ ((w.alloc o1).alloc o2).heap.size := by
  have h : Below w.heap.size w ((w.alloc o1).alloc o2) := below_alloc (below_alloc (Below.refl _ _) _) _
  exact ⟨h, below_size h⟩
theorem concat_two' (g : Nat) (A0 A1 : Option Addr) (c0 c1 n1 : Nat) (l0 l1 : List Int) (w : World) (hn : l1.length = n1)
    (hg0 : w.cell? ⟨g, 0, none⟩ = some (.slice A0 l0.length c0)) (hg1 : w.cell? ⟨g, 1, none⟩ = some (.slice A1 n1 c1))
    (hr0 : Kd.C (Kd.int .u8) w A0 l0.length l0) (hr1 : Kd.C (Kd.int .u8) w A1 n1 l1) (hl : l0.length + n1 ≤ 140737488355328) :
    Calls Tryd.prog 40 #[.slice (some ⟨g, 0, none⟩) 2 2] w
      fun e w' => ∃ v, e = .returned v ∧ Kd.R (Kd.int .u8) 5 w' w.heap.size (fun _ => True) v (l0 ++ l1) ∧ Below w.heap.size w w' := by
  subst hn
  exact concat_two g A0 A1 c0 c1 l0 l1 w hg0 hg1 hr0 hr1 hl
theorem low7 (zz : Int) (h0 : 0 ≤ zz) (h1 : zz < 18446744073709551616) : bits .and .u64 zz 127 % 256 = zz % 128 := by
  rw [u64_and127 zz h0 h1]; omega
theorem venc_step (zz : Int) (h0 : 0 ≤ zz) (h1 : zz < 18446744073709551616) (hp : 0 < zz / 128) :
    venc zz.toNat = bits .or .u8 (bits .and .u64 zz 127 % 256) 128 :: venc (zz / 128).toNat := by
  rw [low7 zz h0 h1, u8_or128_right _ (by omega) (by omega), venc_ge (by omega)]
  congr 1
  · omega
  · congr 1
    omega
theorem venc_stop (zz : Int) (h0 : 0 ≤ zz) (h1 : zz < 18446744073709551616) (hp : zz / 128 ≤ 0) :
    venc zz.toNat = [bits .and .u64 zz 127 % 256] := by
  rw [low7 zz h0 h1, venc_lt (by omega)]
  congr 1
  omega
set_option maxHeartbeats 4000000 in
set_option maxRecDepth 100000 in
theorem put_calls (A0 : Option Addr) (c0_ : Nat) (l0 : List Int) (z : Int) (w : World)
    (hr0 : Kd.C (Kd.int .u8) w A0 l0.length l0) (hl : l0.length ≤ 140737488355318) (hz0 : 0 ≤ z) (hz1 : z < 18446744073709551616) :
    Calls Tryd.prog 60 #[.slice A0 l0.length c0_, .int .u64 z] w
      fun e w' => ∃ v, e = .returned v ∧ Kd.R (Kd.int .u8) 5 w' w.heap.size (fun _ => True) v (l0 ++ venc z.toNat) ∧ Below w.heap.size w w' := by
  have HR0 := Aside0.mk hr0
  clear hr0
  go_enter Tryd.func60, Tryd.ntmps60
  go_wp2
  refine wp_scope_jumps 0 (fun a' w' => ∃ (n : Nat) (zz : Int) (c0 c1 c2 c3 c4 c5 c6 c7 c8 c9 : Int) (u7 u8 u9 u10 u11 u12 u13 u14 u15 u16 u17 u18 u19 u20 u21 u22 : Value),
      a' = { tmps := #[.slice A0 l0.length c0_, .int .u64 zz, undef, undef, .slice none 0 0, .pointer (some ⟨w.heap.size, 0, none⟩), .int .i64 (n : Int), u7, u8, u9, u10, u11, u12, u13, u14, u15, u16, u17, u18, u19, u20, u21, u22, undef, undef, undef, undef, undef, undef], defers := [] } ∧ w' = w.alloc (Obj.cells #[.int .u8 c0, .int .u8 c1, .int .u8 c2, .int .u8 c3, .int .u8 c4, .int .u8 c5, .int .u8 c6, .int .u8 c7, .int .u8 c8, .int .u8 c9] 115) ∧ n ≤ 9 ∧ 0 ≤ zz ∧ zz < 18446744073709551616 ∧ ([c0, c1, c2, c3, c4, c5, c6, c7, c8, c9].take n ++ venc zz.toNat = venc z.toNat))
    (fun a' _ => match a'.tmps.getD 1 undef with | .int _ q => q.toNat | _ => 0) rfl ?_ ?_
  · go_wp2
    go_step3
    go_wp2_with fail
    · go_step3
      refine ⟨rfl, ⟨1, _, _, _, _, _, _, _, _, _, _, _, _, _, _, _, _, _, _, _, _, _, _, _, _, _, _, _, rfl, rfl, by omega, by omega, by omega, ?_⟩⟩
      rw [venc_step z hz0 hz1 (by assumption)]
      rfl
    · have hL : [bits .and .u64 z 127 % 256] = venc z.toNat := (venc_stop z hz0 hz1 (by assumption)).symm
      have hC : Kd.C (Kd.int .u8) (w.alloc (Obj.cells #[.int .u8 (bits .and .u64 z 127 % 256), .int .u8 0, .int .u8 0, .int .u8 0, .int .u8 0, .int .u8 0, .int .u8 0, .int .u8 0, .int .u8 0, .int .u8 0] 115)) (some ⟨w.heap.size, 0, none⟩) 1 [bits .and .u64 z 127 % 256] := C_pre w [bits .and .u64 z 127 % 256] [.int .u8 0, .int .u8 0, .int .u8 0, .int .u8 0, .int .u8 0, .int .u8 0, .int .u8 0, .int .u8 0, .int .u8 0] 115 (by simp) _ rfl
      ((with_reducible refine (concat_two' (w.heap.size + 1) A0 (some ⟨w.heap.size, 0, none⟩) c0_ 10 1 l0 [bits .and .u64 z 127 % 256] _ rfl (pair_cells w _ _ _ _).1 (pair_cells w _ _ _ _).2 (Kd.C_alloc (Kd.C_alloc HR0.out _) _) (Kd.C_alloc hC _) (by omega)).mono ?_); rintro e_ W1 ⟨v0, rfl, ho_, hb_⟩)
      clear hC
      have HO0 := Aside0.mk (Kd.R_lower ho_ (two_below w _ _).2); have HB := Aside0.mk (below_step (two_below w _ _).1 hb_)
      rw [hL] at HO0
      clear ho_ hb_ hL
      go_wp2
      simp only [Exit.jump]
      go_ret
      exact ⟨_, rfl, HO0.out, HB.out⟩
  · rintro a' w' ⟨n, zz, c0, c1, c2, c3, c4, c5, c6, c7, c8, c9, u7, u8, u9, u10, u11, u12, u13, u14, u15, u16, u17, u18, u19, u20, u21, u22, rfl, rfl, hn, hzz, hlt, hv⟩
    have hn' : n = 0 ∨ n = 1 ∨ n = 2 ∨ n = 3 ∨ n = 4 ∨ n = 5 ∨ n = 6 ∨ n = 7 ∨ n = 8 ∨ n = 9 := by omega
    rcases hn' with rfl | rfl | rfl | rfl | rfl | rfl | rfl | rfl | rfl | rfl
    · go_wp2_with fail
      · go_step3
        refine ⟨rfl, ⟨1, _, _, _, _, _, _, _, _, _, _, _, _, _, _, _, _, _, _, _, _, _, _, _, _, _, _, _, rfl, rfl, by omega, by omega, by omega, ?_⟩, ?_⟩
        · rw [venc_step zz hzz hlt (by assumption)] at hv
          exact hv
        · show (zz / 128).toNat < zz.toNat
          omega
      · have hL : [bits .and .u64 zz 127 % 256] = venc z.toNat := by
          rw [venc_stop zz hzz hlt (by assumption)] at hv
          exact hv
        have hC : Kd.C (Kd.int .u8) (w.alloc (Obj.cells #[.int .u8 (bits .and .u64 zz 127 % 256), .int .u8 c1, .int .u8 c2, .int .u8 c3, .int .u8 c4, .int .u8 c5, .int .u8 c6, .int .u8 c7, .int .u8 c8, .int .u8 c9] 115)) (some ⟨w.heap.size, 0, none⟩) 1 [bits .and .u64 zz 127 % 256] := C_pre w [bits .and .u64 zz 127 % 256] [.int .u8 c1, .int .u8 c2, .int .u8 c3, .int .u8 c4, .int .u8 c5, .int .u8 c6, .int .u8 c7, .int .u8 c8, .int .u8 c9] 115 (by simp) _ rfl
        ((with_reducible refine (concat_two' (w.heap.size + 1) A0 (some ⟨w.heap.size, 0, none⟩) c0_ 10 1 l0 [bits .and .u64 zz 127 % 256] _ rfl (pair_cells w _ _ _ _).1 (pair_cells w _ _ _ _).2 (Kd.C_alloc (Kd.C_alloc HR0.out _) _) (Kd.C_alloc hC _) (by omega)).mono ?_); rintro e_ W1 ⟨v0, rfl, ho_, hb_⟩)
        clear hC
        have HO0 := Aside0.mk (Kd.R_lower ho_ (two_below w _ _).2); have HB := Aside0.mk (below_step (two_below w _ _).1 hb_)
        rw [hL] at HO0
        clear ho_ hb_ hL
        go_wp2
        simp only [Exit.jump]
        go_ret
        exact ⟨_, rfl, HO0.out, HB.out⟩
    · go_wp2_with fail
      · go_step3
        refine ⟨rfl, ⟨2, _, _, _, _, _, _, _, _, _, _, _, _, _, _, _, _, _, _, _, _, _, _, _, _, _, _, _, rfl, rfl, by omega, by omega, by omega, ?_⟩, ?_⟩
        · rw [venc_step zz hzz hlt (by assumption)] at hv
          exact hv
        · show (zz / 128).toNat < zz.toNat
          omega
      · have hL : [c0, bits .and .u64 zz 127 % 256] = venc z.toNat := by
          rw [venc_stop zz hzz hlt (by assumption)] at hv
          exact hv
        have hC : Kd.C (Kd.int .u8) (w.alloc (Obj.cells #[.int .u8 c0, .int .u8 (bits .and .u64 zz 127 % 256), .int .u8 c2, .int .u8 c3, .int .u8 c4, .int .u8 c5, .int .u8 c6, .int .u8 c7, .int .u8 c8, .int .u8 c9] 115)) (some ⟨w.heap.size, 0, none⟩) 2 [c0, bits .and .u64 zz 127 % 256] := C_pre w [c0, bits .and .u64 zz 127 % 256] [.int .u8 c2, .int .u8 c3, .int .u8 c4, .int .u8 c5, .int .u8 c6, .int .u8 c7, .int .u8 c8, .int .u8 c9] 115 (by simp) _ rfl
        ((with_reducible refine (concat_two' (w.heap.size + 1) A0 (some ⟨w.heap.size, 0, none⟩) c0_ 10 2 l0 [c0, bits .and .u64 zz 127 % 256] _ rfl (pair_cells w _ _ _ _).1 (pair_cells w _ _ _ _).2 (Kd.C_alloc (Kd.C_alloc HR0.out _) _) (Kd.C_alloc hC _) (by omega)).mono ?_); rintro e_ W1 ⟨v0, rfl, ho_, hb_⟩)
        clear hC
        have HO0 := Aside0.mk (Kd.R_lower ho_ (two_below w _ _).2); have HB := Aside0.mk (below_step (two_below w _ _).1 hb_)
        rw [hL] at HO0
        clear ho_ hb_ hL
        go_wp2
        simp only [Exit.jump]
        go_ret
        exact ⟨_, rfl, HO0.out, HB.out⟩
    · go_wp2_with fail
      · go_step3
        refine ⟨rfl, ⟨3, _, _, _, _, _, _, _, _, _, _, _, _, _, _, _, _, _, _, _, _, _, _, _, _, _, _, _, rfl, rfl, by omega, by omega, by omega, ?_⟩, ?_⟩
        · rw [venc_step zz hzz hlt (by assumption)] at hv
          exact hv
        · show (zz / 128).toNat < zz.toNat
          omega
      · have hL : [c0, c1, bits .and .u64 zz 127 % 256] = venc z.toNat := by
          rw [venc_stop zz hzz hlt (by assumption)] at hv
          exact hv
        have hC : Kd.C (Kd.int .u8) (w.alloc (Obj.cells #[.int .u8 c0, .int .u8 c1, .int .u8 (bits .and .u64 zz 127 % 256), .int .u8 c3, .int .u8 c4, .int .u8 c5, .int .u8 c6, .int .u8 c7, .int .u8 c8, .int .u8 c9] 115)) (some ⟨w.heap.size, 0, none⟩) 3 [c0, c1, bits .and .u64 zz 127 % 256] := C_pre w [c0, c1, bits .and .u64 zz 127 % 256] [.int .u8 c3, .int .u8 c4, .int .u8 c5, .int .u8 c6, .int .u8 c7, .int .u8 c8, .int .u8 c9] 115 (by simp) _ rfl
        ((with_reducible refine (concat_two' (w.heap.size + 1) A0 (some ⟨w.heap.size, 0, none⟩) c0_ 10 3 l0 [c0, c1, bits .and .u64 zz 127 % 256] _ rfl (pair_cells w _ _ _ _).1 (pair_cells w _ _ _ _).2 (Kd.C_alloc (Kd.C_alloc HR0.out _) _) (Kd.C_alloc hC _) (by omega)).mono ?_); rintro e_ W1 ⟨v0, rfl, ho_, hb_⟩)
        clear hC
        have HO0 := Aside0.mk (Kd.R_lower ho_ (two_below w _ _).2); have HB := Aside0.mk (below_step (two_below w _ _).1 hb_)
        rw [hL] at HO0
        clear ho_ hb_ hL
        go_wp2
        simp only [Exit.jump]
        go_ret
        exact ⟨_, rfl, HO0.out, HB.out⟩
    · go_wp2_with fail
      · go_step3
        refine ⟨rfl, ⟨4, _, _, _, _, _, _, _, _, _, _, _, _, _, _, _, _, _, _, _, _, _, _, _, _, _, _, _, rfl, rfl, by omega, by omega, by omega, ?_⟩, ?_⟩
        · rw [venc_step zz hzz hlt (by assumption)] at hv
          exact hv
        · show (zz / 128).toNat < zz.toNat
          omega
      · have hL : [c0, c1, c2, bits .and .u64 zz 127 % 256] = venc z.toNat := by
          rw [venc_stop zz hzz hlt (by assumption)] at hv
          exact hv
        have hC : Kd.C (Kd.int .u8) (w.alloc (Obj.cells #[.int .u8 c0, .int .u8 c1, .int .u8 c2, .int .u8 (bits .and .u64 zz 127 % 256), .int .u8 c4, .int .u8 c5, .int .u8 c6, .int .u8 c7, .int .u8 c8, .int .u8 c9] 115)) (some ⟨w.heap.size, 0, none⟩) 4 [c0, c1, c2, bits .and .u64 zz 127 % 256] := C_pre w [c0, c1, c2, bits .and .u64 zz 127 % 256] [.int .u8 c4, .int .u8 c5, .int .u8 c6, .int .u8 c7, .int .u8 c8, .int .u8 c9] 115 (by simp) _ rfl
        ((with_reducible refine (concat_two' (w.heap.size + 1) A0 (some ⟨w.heap.size, 0, none⟩) c0_ 10 4 l0 [c0, c1, c2, bits .and .u64 zz 127 % 256] _ rfl (pair_cells w _ _ _ _).1 (pair_cells w _ _ _ _).2 (Kd.C_alloc (Kd.C_alloc HR0.out _) _) (Kd.C_alloc hC _) (by omega)).mono ?_); rintro e_ W1 ⟨v0, rfl, ho_, hb_⟩)
        clear hC
        have HO0 := Aside0.mk (Kd.R_lower ho_ (two_below w _ _).2); have HB := Aside0.mk (below_step (two_below w _ _).1 hb_)
        rw [hL] at HO0
        clear ho_ hb_ hL
        go_wp2
        simp only [Exit.jump]
        go_ret
        exact ⟨_, rfl, HO0.out, HB.out⟩
    · go_wp2_with fail
      · go_step3
        refine ⟨rfl, ⟨5, _, _, _, _, _, _, _, _, _, _, _, _, _, _, _, _, _, _, _, _, _, _, _, _, _, _, _, rfl, rfl, by omega, by omega, by omega, ?_⟩, ?_⟩
        · rw [venc_step zz hzz hlt (by assumption)] at hv
          exact hv
        · show (zz / 128).toNat < zz.toNat
          omega
      · have hL : [c0, c1, c2, c3, bits .and .u64 zz 127 % 256] = venc z.toNat := by
          rw [venc_stop zz hzz hlt (by assumption)] at hv
          exact hv
        have hC : Kd.C (Kd.int .u8) (w.alloc (Obj.cells #[.int .u8 c0, .int .u8 c1, .int .u8 c2, .int .u8 c3, .int .u8 (bits .and .u64 zz 127 % 256), .int .u8 c5, .int .u8 c6, .int .u8 c7, .int .u8 c8, .int .u8 c9] 115)) (some ⟨w.heap.size, 0, none⟩) 5 [c0, c1, c2, c3, bits .and .u64 zz 127 % 256] := C_pre w [c0, c1, c2, c3, bits .and .u64 zz 127 % 256] [.int .u8 c5, .int .u8 c6, .int .u8 c7, .int .u8 c8, .int .u8 c9] 115 (by simp) _ rfl
        ((with_reducible refine (concat_two' (w.heap.size + 1) A0 (some ⟨w.heap.size, 0, none⟩) c0_ 10 5 l0 [c0, c1, c2, c3, bits .and .u64 zz 127 % 256] _ rfl (pair_cells w _ _ _ _).1 (pair_cells w _ _ _ _).2 (Kd.C_alloc (Kd.C_alloc HR0.out _) _) (Kd.C_alloc hC _) (by omega)).mono ?_); rintro e_ W1 ⟨v0, rfl, ho_, hb_⟩)
        clear hC
        have HO0 := Aside0.mk (Kd.R_lower ho_ (two_below w _ _).2); have HB := Aside0.mk (below_step (two_below w _ _).1 hb_)
        rw [hL] at HO0
        clear ho_ hb_ hL
        go_wp2
        simp only [Exit.jump]
        go_ret
        exact ⟨_, rfl, HO0.out, HB.out⟩
    · go_wp2_with fail
      · go_step3
        refine ⟨rfl, ⟨6, _, _, _, _, _, _, _, _, _, _, _, _, _, _, _, _, _, _, _, _, _, _, _, _, _, _, _, rfl, rfl, by omega, by omega, by omega, ?_⟩, ?_⟩
        · rw [venc_step zz hzz hlt (by assumption)] at hv
          exact hv
        · show (zz / 128).toNat < zz.toNat
          omega
      · have hL : [c0, c1, c2, c3, c4, bits .and .u64 zz 127 % 256] = venc z.toNat := by
          rw [venc_stop zz hzz hlt (by assumption)] at hv
          exact hv
        have hC : Kd.C (Kd.int .u8) (w.alloc (Obj.cells #[.int .u8 c0, .int .u8 c1, .int .u8 c2, .int .u8 c3, .int .u8 c4, .int .u8 (bits .and .u64 zz 127 % 256), .int .u8 c6, .int .u8 c7, .int .u8 c8, .int .u8 c9] 115)) (some ⟨w.heap.size, 0, none⟩) 6 [c0, c1, c2, c3, c4, bits .and .u64 zz 127 % 256] := C_pre w [c0, c1, c2, c3, c4, bits .and .u64 zz 127 % 256] [.int .u8 c6, .int .u8 c7, .int .u8 c8, .int .u8 c9] 115 (by simp) _ rfl
        ((with_reducible refine (concat_two' (w.heap.size + 1) A0 (some ⟨w.heap.size, 0, none⟩) c0_ 10 6 l0 [c0, c1, c2, c3, c4, bits .and .u64 zz 127 % 256] _ rfl (pair_cells w _ _ _ _).1 (pair_cells w _ _ _ _).2 (Kd.C_alloc (Kd.C_alloc HR0.out _) _) (Kd.C_alloc hC _) (by omega)).mono ?_); rintro e_ W1 ⟨v0, rfl, ho_, hb_⟩)
        clear hC
        have HO0 := Aside0.mk (Kd.R_lower ho_ (two_below w _ _).2); have HB := Aside0.mk (below_step (two_below w _ _).1 hb_)
        rw [hL] at HO0
        clear ho_ hb_ hL
        go_wp2
        simp only [Exit.jump]
        go_ret
        exact ⟨_, rfl, HO0.out, HB.out⟩
    · go_wp2_with fail
      · go_step3
        refine ⟨rfl, ⟨7, _, _, _, _, _, _, _, _, _, _, _, _, _, _, _, _, _, _, _, _, _, _, _, _, _, _, _, rfl, rfl, by omega, by omega, by omega, ?_⟩, ?_⟩
        · rw [venc_step zz hzz hlt (by assumption)] at hv
          exact hv
        · show (zz / 128).toNat < zz.toNat
          omega
      · have hL : [c0, c1, c2, c3, c4, c5, bits .and .u64 zz 127 % 256] = venc z.toNat := by
          rw [venc_stop zz hzz hlt (by assumption)] at hv
          exact hv
        have hC : Kd.C (Kd.int .u8) (w.alloc (Obj.cells #[.int .u8 c0, .int .u8 c1, .int .u8 c2, .int .u8 c3, .int .u8 c4, .int .u8 c5, .int .u8 (bits .and .u64 zz 127 % 256), .int .u8 c7, .int .u8 c8, .int .u8 c9] 115)) (some ⟨w.heap.size, 0, none⟩) 7 [c0, c1, c2, c3, c4, c5, bits .and .u64 zz 127 % 256] := C_pre w [c0, c1, c2, c3, c4, c5, bits .and .u64 zz 127 % 256] [.int .u8 c7, .int .u8 c8, .int .u8 c9] 115 (by simp) _ rfl
        ((with_reducible refine (concat_two' (w.heap.size + 1) A0 (some ⟨w.heap.size, 0, none⟩) c0_ 10 7 l0 [c0, c1, c2, c3, c4, c5, bits .and .u64 zz 127 % 256] _ rfl (pair_cells w _ _ _ _).1 (pair_cells w _ _ _ _).2 (Kd.C_alloc (Kd.C_alloc HR0.out _) _) (Kd.C_alloc hC _) (by omega)).mono ?_); rintro e_ W1 ⟨v0, rfl, ho_, hb_⟩)
        clear hC
        have HO0 := Aside0.mk (Kd.R_lower ho_ (two_below w _ _).2); have HB := Aside0.mk (below_step (two_below w _ _).1 hb_)
        rw [hL] at HO0
        clear ho_ hb_ hL
        go_wp2
        simp only [Exit.jump]
        go_ret
        exact ⟨_, rfl, HO0.out, HB.out⟩
    · go_wp2_with fail
      · go_step3
        refine ⟨rfl, ⟨8, _, _, _, _, _, _, _, _, _, _, _, _, _, _, _, _, _, _, _, _, _, _, _, _, _, _, _, rfl, rfl, by omega, by omega, by omega, ?_⟩, ?_⟩
        · rw [venc_step zz hzz hlt (by assumption)] at hv
          exact hv
        · show (zz / 128).toNat < zz.toNat
          omega
      · have hL : [c0, c1, c2, c3, c4, c5, c6, bits .and .u64 zz 127 % 256] = venc z.toNat := by
          rw [venc_stop zz hzz hlt (by assumption)] at hv
          exact hv
        have hC : Kd.C (Kd.int .u8) (w.alloc (Obj.cells #[.int .u8 c0, .int .u8 c1, .int .u8 c2, .int .u8 c3, .int .u8 c4, .int .u8 c5, .int .u8 c6, .int .u8 (bits .and .u64 zz 127 % 256), .int .u8 c8, .int .u8 c9] 115)) (some ⟨w.heap.size, 0, none⟩) 8 [c0, c1, c2, c3, c4, c5, c6, bits .and .u64 zz 127 % 256] := C_pre w [c0, c1, c2, c3, c4, c5, c6, bits .and .u64 zz 127 % 256] [.int .u8 c8, .int .u8 c9] 115 (by simp) _ rfl
        ((with_reducible refine (concat_two' (w.heap.size + 1) A0 (some ⟨w.heap.size, 0, none⟩) c0_ 10 8 l0 [c0, c1, c2, c3, c4, c5, c6, bits .and .u64 zz 127 % 256] _ rfl (pair_cells w _ _ _ _).1 (pair_cells w _ _ _ _).2 (Kd.C_alloc (Kd.C_alloc HR0.out _) _) (Kd.C_alloc hC _) (by omega)).mono ?_); rintro e_ W1 ⟨v0, rfl, ho_, hb_⟩)
        clear hC
        have HO0 := Aside0.mk (Kd.R_lower ho_ (two_below w _ _).2); have HB := Aside0.mk (below_step (two_below w _ _).1 hb_)
        rw [hL] at HO0
        clear ho_ hb_ hL
        go_wp2
        simp only [Exit.jump]
        go_ret
        exact ⟨_, rfl, HO0.out, HB.out⟩
    · go_wp2_with fail
      · go_step3
        refine ⟨rfl, ⟨9, _, _, _, _, _, _, _, _, _, _, _, _, _, _, _, _, _, _, _, _, _, _, _, _, _, _, _, rfl, rfl, by omega, by omega, by omega, ?_⟩, ?_⟩
        · rw [venc_step zz hzz hlt (by assumption)] at hv
          exact hv
        · show (zz / 128).toNat < zz.toNat
          omega
      · have hL : [c0, c1, c2, c3, c4, c5, c6, c7, bits .and .u64 zz 127 % 256] = venc z.toNat := by
          rw [venc_stop zz hzz hlt (by assumption)] at hv
          exact hv
        have hC : Kd.C (Kd.int .u8) (w.alloc (Obj.cells #[.int .u8 c0, .int .u8 c1, .int .u8 c2, .int .u8 c3, .int .u8 c4, .int .u8 c5, .int .u8 c6, .int .u8 c7, .int .u8 (bits .and .u64 zz 127 % 256), .int .u8 c9] 115)) (some ⟨w.heap.size, 0, none⟩) 9 [c0, c1, c2, c3, c4, c5, c6, c7, bits .and .u64 zz 127 % 256] := C_pre w [c0, c1, c2, c3, c4, c5, c6, c7, bits .and .u64 zz 127 % 256] [.int .u8 c9] 115 (by simp) _ rfl
        ((with_reducible refine (concat_two' (w.heap.size + 1) A0 (some ⟨w.heap.size, 0, none⟩) c0_ 10 9 l0 [c0, c1, c2, c3, c4, c5, c6, c7, bits .and .u64 zz 127 % 256] _ rfl (pair_cells w _ _ _ _).1 (pair_cells w _ _ _ _).2 (Kd.C_alloc (Kd.C_alloc HR0.out _) _) (Kd.C_alloc hC _) (by omega)).mono ?_); rintro e_ W1 ⟨v0, rfl, ho_, hb_⟩)
        clear hC
        have HO0 := Aside0.mk (Kd.R_lower ho_ (two_below w _ _).2); have HB := Aside0.mk (below_step (two_below w _ _).1 hb_)
        rw [hL] at HO0
        clear ho_ hb_ hL
        go_wp2
        simp only [Exit.jump]
        go_ret
        exact ⟨_, rfl, HO0.out, HB.out⟩
    · go_wp2_with fail
      · exfalso
        rw [venc_step zz hzz hlt (by assumption)] at hv
        have h1 := congrArg List.length hv
        have h2 := venc_len64 hz1
        have h3 := venc_pos (zz / 128).toNat
        simp at h1
        omega
      · have hL : [c0, c1, c2, c3, c4, c5, c6, c7, c8, bits .and .u64 zz 127 % 256] = venc z.toNat := by
          rw [venc_stop zz hzz hlt (by assumption)] at hv
          exact hv
        have hC : Kd.C (Kd.int .u8) (w.alloc (Obj.cells #[.int .u8 c0, .int .u8 c1, .int .u8 c2, .int .u8 c3, .int .u8 c4, .int .u8 c5, .int .u8 c6, .int .u8 c7, .int .u8 c8, .int .u8 (bits .and .u64 zz 127 % 256)] 115)) (some ⟨w.heap.size, 0, none⟩) 10 [c0, c1, c2, c3, c4, c5, c6, c7, c8, bits .and .u64 zz 127 % 256] := C_pre w [c0, c1, c2, c3, c4, c5, c6, c7, c8, bits .and .u64 zz 127 % 256] [] 115 (by simp) _ rfl
        ((with_reducible refine (concat_two' (w.heap.size + 1) A0 (some ⟨w.heap.size, 0, none⟩) c0_ 10 10 l0 [c0, c1, c2, c3, c4, c5, c6, c7, c8, bits .and .u64 zz 127 % 256] _ rfl (pair_cells w _ _ _ _).1 (pair_cells w _ _ _ _).2 (Kd.C_alloc (Kd.C_alloc HR0.out _) _) (Kd.C_alloc hC _) (by omega)).mono ?_); rintro e_ W1 ⟨v0, rfl, ho_, hb_⟩)
        clear hC
        have HO0 := Aside0.mk (Kd.R_lower ho_ (two_below w _ _).2); have HB := Aside0.mk (below_step (two_below w _ _).1 hb_)
        rw [hL] at HO0
        clear ho_ hb_ hL
        go_wp2
        simp only [Exit.jump]
        go_ret
        exact ⟨_, rfl, HO0.out, HB.out⟩
end Go.Proofs.YteidgpaakoeefaaDoor
namespace Go.Proofs.YteidgpaakoeefaaDoor
open Go.RowKit Go.Proofs.YteidgpaakoeefaaDoorW.PrintWords Go.Proofs.YteidgpaakoeefaaDoorW.PrintLast Go.Proofs.YteidgpaakoeefaaDoorW.PrintMore
set_option linter.unusedVariables false
set_option maxRecDepth 100000
set_option linter.unusedSimpArgs false
def RF (base : Nat) (w : World) (v : Value) (xs sp : List Int) : Prop :=
  (v = .slice none 0 0 ∧ xs = [] ∧ sp = []) ∨
  ∃ g, v = .slice (some ⟨g, 0, none⟩) xs.length (xs.length + sp.length) ∧ base ≤ g ∧ w.heap[g]? = some (.cells ((xs ++ sp).map (Value.int .u8)).toArray 5 (0, 0)) ∧
    xs.length + sp.length ≤ maxLen ∧ ∀ x ∈ sp, 0 ≤ x ∧ x < 256
theorem RF.nil (base : Nat) (w : World) : RF base w (.slice none 0 0) [] [] := .inl ⟨rfl, rfl, rfl⟩
theorem RF.lower {base base' : Nat} {w : World} {v : Value} {xs sp : List Int} (h : RF base w v xs sp) (hb : base' ≤ base) : RF base' w v xs sp := by
  rcases h with h | ⟨g, h1, h2, h3⟩
  · exact .inl h
  · exact .inr ⟨g, h1, Nat.le_trans hb h2, h3⟩
theorem RF.below {base : Nat} {w w1 : World} {v : Value} {xs sp : List Int} (h : RF base w v xs sp) (hb : Below w.heap.size w w1) : RF base w1 v xs sp := by
  rcases h with h | ⟨g, h1, h2, h3, h4⟩
  · exact .inl h
  · refine .inr ⟨g, h1, h2, ?_, h4⟩
    rw [hb.block g (Array.getElem?_eq_some_iff.1 h3).1]
    exact h3
theorem RF.R {base : Nat} {w : World} {v : Value} {xs sp : List Int} (h : RF base w v xs sp) : Kd.R (Kd.int .u8) 5 w base (fun _ => True) v xs := by
  refine Kd.R_of_own (h1 := fun _ => rfl) (ok := fun _ => True) ?_ (fun _ _ => trivial)
  rcases h with ⟨rfl, rfl, rfl⟩ | ⟨g, rfl, h2, h3, h4, h5⟩
  · exact World.ownsRow_nil _ _ _ _
  · refine ⟨by simp [encs], .inr ⟨g, _, _, rfl, h2, h3, by omega, h4, by simp, ?_⟩⟩
    have : ((xs ++ sp).map (Value.int .u8)).toArray.toList.take (xs.length * 1) = encs (Value.int .u8) xs := by
      rw [Nat.mul_one]
      show ((xs ++ sp).map (Value.int .u8)).take xs.length = _
      rw [List.map_append, List.take_left' (by simp)]
      rfl
    exact this
theorem zeros_one (n : Nat) : Builtin.zeroCells #[.int .u8 0] n = ((List.replicate n (0 : Int)).map (Value.int .u8)).toArray := by
  apply Array.ext
  · simp [Builtin.zeroCells]
  · intro i h1 h2
    simp [Builtin.zeroCells, Nat.mod_one]
theorem zeros_range (n : Nat) : ∀ x ∈ List.replicate n (0 : Int), 0 ≤ x ∧ x < 256 := by
  intro x hx
  obtain rfl := (List.mem_replicate.1 hx).2
  decide
theorem alloc_grown (w : World) (o : Obj) (row : Option Nat) : w.grownBy (w.drew.alloc o) row := ⟨rfl, rfl, rfl, by simp, fun k hk _ => heap_alloc_old w.drew _ hk⟩
theorem setRow_grown (w : World) (g : Nat) (cs : Array Value) : w.grownBy (w.setRow g cs) (some g) := ⟨rfl, rfl, rfl, by simp, fun k hk hne => setRow_other w g k _ (fun e => hne (by rw [e]))⟩
theorem rd_get' {l : List Int} {i : Nat} (h : i < l.length) : rd l (i : Int) = l[i] := by
  unfold rd
  rw [Int.toNat_natCast]
  simp [h]
theorem C_cells {w : World} {ad : Addr} {m : Nat} {ys : List Int} (hr : Kd.C (Kd.int .u8) w (some ad) m ys) (hm : m = ys.length) :
    ∀ j v, (ys.map (Value.int .u8))[j]? = some v → w.cell? (ad.add j) = some v := by
  intro j v hj
  obtain ⟨x, hx, rfl⟩ : ∃ x, ys[j]? = some x ∧ v = .int .u8 x := by
    rw [List.getElem?_map] at hj
    cases hg : ys[j]? with
    | none => rw [hg] at hj; simp at hj
    | some x => rw [hg] at hj; simp at hj; exact ⟨x, rfl, hj.symm⟩
  have hjl : j < ys.length := (List.getElem?_eq_some_iff.1 hx).1
  obtain ⟨ad2, e, hc⟩ := Kd.at_int hr (j : Int) (by omega) (by omega)
  cases e
  rw [Int.toNat_natCast, rd_get' hjl] at hc
  rw [hc, (List.getElem?_eq_some_iff.1 hx).2]
theorem C_none {w : World} {m : Nat} {ys : List Int} (hr : Kd.C (Kd.int .u8) w none m ys) : m = 0 := by
  rcases Nat.eq_zero_or_pos m with h0 | h0
  · exact h0
  · obtain ⟨ad, h, _⟩ := hr.2.2 h0
    cases h
theorem RF.laid {base : Nat} {w : World} (xs : List Int) (c : Nat) (hb : base ≤ w.heap.size) (hc : xs.length ≤ c) (hm : c ≤ maxLen) (cs : Array Value)
    (hcs : cs = (xs.map (Value.int .u8)).toArray ++ ((List.replicate (c - xs.length) (0 : Int)).map (Value.int .u8)).toArray) :
    RF base (w.drew.alloc (.cells cs 5)) (.slice (some ⟨w.heap.size, 0, none⟩) xs.length c) xs (List.replicate (c - xs.length) 0) := by
  subst hcs
  refine .inr ⟨w.heap.size, by simp; omega, hb, ?_, by simp; omega, zeros_range _⟩
  have he : ((xs ++ List.replicate (c - xs.length) 0).map (Value.int .u8)).toArray = (xs.map (Value.int .u8)).toArray ++ ((List.replicate (c - xs.length) (0 : Int)).map (Value.int .u8)).toArray := by simp
  rw [he]
  exact heap_alloc_new w.drew _
theorem rf_rows (base : Nat) (w : World) (ty : TypeId) (v : Value) (xs sp : List Int) (h : RF base w v xs sp) (A : Option Addr) (m c : Nat) (ys : List Int) (hr : Kd.C (Kd.int .u8) w A m ys) (hl : xs.length + m ≤ 140737488355328) (hb : base ≤ w.heap.size) :
    ∃ v1 w1 sp1, (Builtin.append_ #[30, 30] ty #[v, .slice A m c]).run Tryd.prog w = .ok v1 w1 ∧ RF base w1 v1 (xs ++ ys) sp1 ∧ w.grownBy w1 v.ownBlock := by
  obtain ⟨i0, hi0, hz0, hsz0, hby0⟩ := info_parts infoB
  have hu := Tryd.underlying30
  have hm : m = ys.length := hr.1.symm
  by_cases h0 : m = 0
  · subst h0
    obtain rfl : ys = [] := List.eq_nil_of_length_eq_zero hm.symm
    refine ⟨v, w, sp, ?_, by rw [List.append_nil]; exact h, World.grownBy.refl w _⟩
    rcases h with ⟨rfl, rfl, rfl⟩ | ⟨g, rfl, h2, h3, h4, h5⟩
    · cases A <;> simp [Builtin.append_, run_underlying hu, sizeOf, typeInfo, hi0, Builtin.lenOf, Builtin.firstCells, loadCells, loadCellsFrom]
    · cases A <;> simp [Builtin.append_, run_underlying hu, sizeOf, typeInfo, hi0, Builtin.lenOf, Builtin.firstCells, storeCells, loadCells, loadCellsFrom]
  · cases A with
    | none => exact absurd (C_none hr) h0
    | some ad =>
      have hnews := C_cells hr hm
      have hone : ∀ u ∈ ys.map (Value.int .u8), u.oneCell' = true := by
        intro u hu
        obtain ⟨x, _, rfl⟩ := List.mem_map.1 hu
        rfl
      have hnl : (ys.map (Value.int .u8)).length = m * i0.size := by rw [hsz0, Nat.mul_one, List.length_map, hm]
      rcases h with ⟨rfl, rfl, rfl⟩ | ⟨g, rfl, h2, h3, h4, h5⟩
      · have hrun := run_append_nil (P := Tryd.prog) w 30 ty 5 i0 (.int .u8 0) hu hi0 hz0 ad m c _ hnl hnews (by omega) (by simp at hl; omega) (by rw [hby0]; simp at hl; omega)
        have hge := grownCap_ge w m 0 5
        have hcm := grownCap_le_maxLen w m 0 5 (by simp only [maxLen]; simp at hl; omega)
        refine ⟨_, _, List.replicate (grownCap w m 0 5 - m) 0, hrun, ?_, alloc_grown w _ _⟩
        rw [List.nil_append]
        generalize grownCap w m 0 5 = cc at *
        subst hm
        exact RF.laid (w := w) ys cc hb hge hcm _ (by rw [← zeros_one]; rfl)
      · by_cases hroom : xs.length + m ≤ xs.length + sp.length
        · have hrun := run_append_room (P := Tryd.prog) w 30 ty 5 i0 hu hi0 g xs.length (xs.length + sp.length) _ h3 ad m c _ hnl hnews hone hroom (by rw [hsz0, hnl, hsz0]; simp; omega)
          refine ⟨_, _, sp.drop m, hrun, .inr ⟨g, ?_, h2, ?_, ?_, fun x hx => h5 x (List.mem_of_mem_drop hx)⟩, setRow_grown _ _ _⟩
          · simp only [List.length_append, List.length_drop, hm]
            congr 1
            omega
          · rw [setRow_heap w g _ _ 5 (0, 0) h3]
            congr 2
            rw [hsz0, Nat.mul_one, List.length_map, ← hm]
            apply Array.ext'
            simp [List.take_append, List.drop_append, List.map_append, List.map_drop, List.append_assoc]
          · simp only [List.length_append, List.length_drop]
            omega
        · have holds : ∀ j u, (xs.map (Value.int .u8))[j]? = some u → w.cell? ((⟨g, 0, none⟩ : Addr).add j) = some u := by
            intro j u hj
            rw [add_plain]
            rw [cell_of_row w g j _ _ _ h3]
            have hjl : j < (xs.map (Value.int .u8)).length := (List.getElem?_eq_some_iff.1 hj).1
            rw [← hj]
            simp only [List.getElem?_toArray, List.map_append]
            rw [List.getElem?_append_left hjl]
          have hlt : xs.length + sp.length < xs.length + m := by omega
          have hrun := run_append_grow (P := Tryd.prog) w 30 ty 5 i0 (.int .u8 0) hu hi0 hz0 ⟨g, 0, none⟩ xs.length (xs.length + sp.length) (xs.map (Value.int .u8)) (by rw [hsz0]; simp) holds ad m c _ hnl hnews hlt (by omega) (by rw [hby0]; exact growslice_fits hlt (by omega))
          have hge := grownCap_ge w (xs.length + m) (xs.length + sp.length) 5
          have hcm := grownCap_le_maxLen w (xs.length + m) (xs.length + sp.length) 5 (by simp only [maxLen]; omega)
          refine ⟨_, _, List.replicate (grownCap w (xs.length + m) (xs.length + sp.length) 5 - (xs.length + m)) 0, hrun, ?_, alloc_grown w _ _⟩
          generalize grownCap w (xs.length + m) (xs.length + sp.length) 5 = cc at *
          subst hm
          have := RF.laid (base := base) (w := w) (xs ++ ys) cc hb (by simp; omega) hcm ((xs.map (Value.int .u8)).toArray ++ (ys.map (Value.int .u8)).toArray ++ Builtin.zeroCells #[.int .u8 0] (cc - (xs.length + ys.length))) (by rw [zeros_one]; simp)
          rw [List.length_append] at this
          exact this
theorem rf_zeros (base : Nat) (w : World) (ty : TypeId) (n : Int) (hn : 0 < n) (hl : n ≤ 140737488355328) (hb : base ≤ w.heap.size) :
    ∃ v1 w1 sp1, (Builtin.append_ #[30, 3] ty #[.slice none 0 0, .int .i64 n]).run Tryd.prog w = .ok v1 w1 ∧ RF base w1 v1 (List.replicate n.toNat 0) sp1 ∧ w.grownBy w1 none := by
  obtain ⟨i0, hi0, hz0, hsz0, hby0⟩ := info_parts infoB
  have hu := Tryd.underlying30
  have hu2 := Tryd.underlying3
  obtain ⟨m, rfl⟩ : ∃ m : Nat, n = (m : Int) := ⟨n.toNat, by omega⟩
  rw [Int.toNat_natCast]
  have hw : IntKind.i64.wrap (m : Int) = m := by rw [IntKind.wrap_i64]; omega
  have hneg : ¬ ((m : Int) < 0) := by omega
  have hbig : ¬ (281474976710656 < (m : Int) * (i0.bytes : Int)) := by rw [hby0]; omega
  have hmz : ¬ (m * i0.size = 0) := by rw [hsz0]; omega
  have hn : m ≠ 0 := by omega
  have h63' : ¬ (9223372036854775807 < (m : Int)) := by omega
  have h48' : ¬ (281474976710656 < Builtin.nextslicecap m 0 * i0.bytes) := by rw [nextslicecap_zero (by omega), hby0]; omega
  have hrun : (Builtin.append_ #[30, 3] ty #[.slice none 0 0, .int .i64 (m : Int)]).run Tryd.prog w =
      .ok (.slice (some ⟨w.heap.size, 0, none⟩) m (grownCap w m 0 5)) (w.drew.alloc (.cells (Builtin.zeroCells #[.int .u8 0] m ++ Builtin.zeroCells #[.int .u8 0] (grownCap w m 0 5 - m)) 5)) := by
    simp [Builtin.append_, run_underlying hu, run_underlying hu2, sizeOf, typeInfo, zeroValue, hi0, hz0, asInt, asIntOf, hw, hneg, hbig, hn, h63', h48', Question.forced, run_firstCells_none, newRow, grownCap, hmz]
    rfl
  have hge := grownCap_ge w m 0 5
  have hcm := grownCap_le_maxLen w m 0 5 (by simp only [maxLen]; omega)
  refine ⟨_, _, List.replicate (grownCap w m 0 5 - m) 0, hrun, ?_, alloc_grown w _ _⟩
  generalize grownCap w m 0 5 = cc at *
  have := RF.laid (base := base) (w := w) (List.replicate m 0) cc hb (by simpa using hge) hcm (Builtin.zeroCells #[.int .u8 0] m ++ Builtin.zeroCells #[.int .u8 0] (cc - m)) (by rw [zeros_one, zeros_one]; simp)
  rw [List.length_replicate] at this
  exact this
theorem RF.base {base : Nat} {w : World} {v : Value} {xs sp : List Int} (h : RF base w v xs sp) (k : Nat) (hk : v.ownBlock = some k) : base ≤ k := by
  rcases h with ⟨rfl, rfl, rfl⟩ | ⟨g, rfl, h2, h3, h4, h5⟩
  · simp [Value.ownBlock] at hk
  · simp [Value.ownBlock] at hk; omega
section
variable {ops : Array Oper} {rest : List Oper} {o : Oper} {a : Act} {Q : Exit → Act → World → Prop}
theorem wp_rf_rows {w0 W : World} (base : Nat) (hgd : o.guard = none) (s x : Operand)
    (ho : o.op = .call { callee := .builtin .append, args := #[s, x], argTypes := #[30, 30] })
    (v : Value) (xs sp ys : List Int) (A : Option Addr) (m c : Nat) (hs : a.eval s = v) (hx : a.eval x = .slice A m c)
    (HO : RF base W v xs sp) (HR : Kd.C (Kd.int .u8) W A m ys) (HB : Below base w0 W) (hbase : base ≤ W.heap.size) (hl : xs.length + m ≤ 140737488355328)
    (h : ∀ v1 w1 sp1, RF base w1 v1 (xs ++ ys) sp1 → Below base w0 w1 → W.grownBy w1 v.ownBlock → wpList Tryd.prog ops Q rest (a.put o.dst v1) w1) :
    wpList Tryd.prog ops Q (o :: rest) a W := by
  obtain ⟨v1, w1, sp1, hr1, h1, hg⟩ := rf_rows base W o.type v xs sp HO A m c ys HR hl hbase
  refine wpList_plain hgd fun K hK => ?_
  unfold Oper.wp execOp
  simp only [ho, resolve, invoke, builtin, Sem.run_bind, Sem.run_pure, Result.andThen_ok, List.map_toArray, List.map_cons, List.map_nil, hs, hx, hr1]
  exact hK _ _ (h v1 w1 sp1 h1 (HB.grown hg hbase HO.base) hg)
theorem wp_rf_zeros {w0 W : World} (base : Nat) (hgd : o.guard = none) (s x : Operand)
    (ho : o.op = .call { callee := .builtin .append, args := #[s, x], argTypes := #[30, 3] })
    (n : Int) (hs : a.eval s = .slice none 0 0) (hx : a.eval x = .int .i64 n) (hn : 0 < n)
    (HB : Below base w0 W) (hbase : base ≤ W.heap.size) (hl : n ≤ 140737488355328)
    (h : ∀ v1 w1 sp1, RF base w1 v1 (List.replicate n.toNat 0) sp1 → Below base w0 w1 → wpList Tryd.prog ops Q rest (a.put o.dst v1) w1) :
    wpList Tryd.prog ops Q (o :: rest) a W := by
  obtain ⟨v1, w1, sp1, hr1, h1, hg⟩ := rf_zeros base W o.type n hn hl hbase
  refine wpList_plain hgd fun K hK => ?_
  unfold Oper.wp execOp
  simp only [ho, resolve, invoke, builtin, Sem.run_bind, Sem.run_pure, Result.andThen_ok, List.map_toArray, List.map_cons, List.map_nil, hs, hx, hr1]
  exact hK _ _ (h v1 w1 sp1 h1 (HB.grown hg hbase (fun k hk => by cases hk)))
end
end Go.Proofs.YteidgpaakoeefaaDoor
namespace Go.Proofs.YteidgpaakoeefaaDoor
open Go.RowKit Go.Proofs.YteidgpaakoeefaaDoorW.PrintWords Go.Proofs.YteidgpaakoeefaaDoorW.PrintLast Go.Proofs.YteidgpaakoeefaaDoorW.PrintMore
set_option linter.unusedVariables false
set_option linter.unusedSimpArgs false
def rdw (most : Int) : List Int → Int → Int → Int × Int × Int
  | [], i, _ => if most ≤ i then (0, 0, 20) else (0, 0, 3)
  | c :: cs, i, acc =>
    if i = most ∨ (i = 9 ∧ 1 < c) then (0, 0, 20)
    else if c < 128 then (if c = 0 ∧ 0 < i then (0, 0, 20) else (acc + c * (128 ^ i.toNat : Nat), i + 1, 0))
    else rdw most cs (i + 1) (acc + (c - 128) * (128 ^ i.toNat : Nat))
def tk (l : List Int) (at_ most : Int) : Int × Int × Int :=
  if at_ < 0 ∨ (l.length : Int) < at_ then (0, 0, 1)
  else if (rdw most (l.drop at_.toNat) 0 0).2.2 = 0 then ((rdw most (l.drop at_.toNat) 0 0).1, at_ + (rdw most (l.drop at_.toNat) 0 0).2.1, 0)
  else (0, 0, (rdw most (l.drop at_.toNat) 0 0).2.2)
theorem u8_and127' (c : Int) (h0 : 0 ≤ c) (h1 : c < 256) : bits .and .u8 c 127 = c % 128 := by
  exact bits_mask .u8 8 (by decide) wraps_u8 7 (by decide) c h0 h1
theorem w64id (x : Int) (h0 : 0 ≤ x) (h1 : x < 18446744073709551616) : IntKind.u64.wrap x = x := by
  show x % 18446744073709551616 = x
  omega
theorem mul_pow_lt (b n : Nat) (hn : n ≤ 9) (hb : b < 128) (h9 : n = 9 → b ≤ 1) : b * 128 ^ n < 18446744073709551616 := by
  have h : n = 0 ∨ n = 1 ∨ n = 2 ∨ n = 3 ∨ n = 4 ∨ n = 5 ∨ n = 6 ∨ n = 7 ∨ n = 8 ∨ n = 9 := by omega
  rcases h with rfl | rfl | rfl | rfl | rfl | rfl | rfl | rfl | rfl | rfl <;> simp at h9 ⊢ <;> omega
theorem shl_or (z c : Int) (n : Nat) (hn : n ≤ 9) (hz0 : 0 ≤ z) (hz1 : z < (128 ^ n : Nat)) (hc0 : 0 ≤ c) (hc1 : c < 256) (h9 : n = 9 → c ≤ 1) :
    bits .or .u64 z (IntKind.u64.wrap (IntKind.u64.wrap (bits .and .u8 c 127) * 2 ^ (7 * (n : Int)).toNat)) = z + c % 128 * (128 ^ n : Nat) := by
  rw [u8_and127' c hc0 hc1, w64id (c % 128) (by omega) (by omega)]
  have e : (7 * (n : Int)).toNat = 7 * n := by omega
  rw [e]
  obtain ⟨a, rfl⟩ := Int.eq_ofNat_of_zero_le hz0
  obtain ⟨b, rfl⟩ := Int.eq_ofNat_of_zero_le hc0
  have e2 : (128 : Nat) ^ n = 2 ^ (7 * n) := by rw [Nat.pow_mul]
  have hlt := mul_pow_lt (b % 128) n hn (by omega) (by omega)
  have hp : (2 : Int) ^ (7 * n) = ((2 ^ (7 * n) : Nat) : Int) := by simp
  have ha : a < 2 ^ (7 * n) := by rw [← e2]; omega
  have e3 : (b : Int) % 128 * (2 : Int) ^ (7 * n) = ((b % 128 * 2 ^ (7 * n) : Nat) : Int) := by rw [hp]; simp
  rw [e2] at hlt
  rw [e3, w64id _ (by omega) (by omega), e2]
  have ha2 : a < 18446744073709551616 := by
    have : 2 ^ (7 * n) ≤ 2 ^ 63 := Nat.pow_le_pow_right (by decide) (by omega)
    omega
  rw [bits_or_u64_nat a _ ha2 hlt, Nat.or_comm, ← Nat.shiftLeft_eq, ← Nat.shiftLeft_add_eq_or_of_lt ha, Nat.shiftLeft_eq]
  simp
  omega
theorem pow_step (n : Nat) (z c : Int) (hz0 : 0 ≤ z) (hz1 : z < (128 ^ n : Nat)) (hc0 : 0 ≤ c) : 0 ≤ z + c % 128 * (128 ^ n : Nat) ∧ z + c % 128 * (128 ^ n : Nat) < (128 ^ (n + 1) : Nat) := by
  have h1 : c % 128 ≤ 127 := by omega
  have h0 : 0 ≤ c % 128 := by omega
  rw [Nat.pow_succ]
  have hp : (0 : Int) ≤ (128 ^ n : Nat) := Int.natCast_nonneg _
  rw [Int.natCast_mul]
  generalize ((128 ^ n : Nat) : Int) = p at *
  have h2 := Int.mul_le_mul_of_nonneg_right h1 hp
  have h3 := Int.mul_nonneg h0 hp
  omega
theorem rdw_at (most : Int) (R : List Int) (i z : Int) (h0 : 0 ≤ i) (h1 : i < R.length) :
    rdw most (R.drop i.toNat) i z = if i = most ∨ (i = 9 ∧ 1 < rd R i) then (0, 0, 20)
    else if rd R i < 128 then (if rd R i = 0 ∧ 0 < i then (0, 0, 20) else (z + rd R i * (128 ^ i.toNat : Nat), i + 1, 0))
    else rdw most (R.drop (i + 1).toNat) (i + 1) (z + (rd R i - 128) * (128 ^ i.toNat : Nat)) := by
  have hl : i.toNat < R.length := by omega
  have hr : rd R i = R[i.toNat] := by simp [rd, List.getD_eq_getElem?_getD, List.getElem?_eq_getElem hl]
  have hs : (i + 1).toNat = i.toNat + 1 := by omega
  rw [List.drop_eq_getElem_cons hl, rdw, hr, hs]
theorem rd_mem {R : List Int} (hb : ∀ x ∈ R, 0 ≤ x ∧ x < 256) {i : Int} (h0 : 0 ≤ i) (h1 : i < R.length) : 0 ≤ rd R i ∧ rd R i < 256 := by
  have hl : i.toNat < R.length := by omega
  have : rd R i = R[i.toNat] := by simp [rd, List.getD_eq_getElem?_getD, List.getElem?_eq_getElem hl]
  rw [this]
  exact hb _ (List.getElem_mem hl)
set_option maxHeartbeats 4000000 in
set_option maxRecDepth 100000 in
theorem take_calls (A0 : Option Addr) (c0 : Nat) (l0 : List Int) (at_ most : Int) (w : World)
    (hr0 : Kd.C (Kd.int .u8) w A0 l0.length l0) (hc0 : l0.length ≤ c0) (hb : ∀ x ∈ l0, 0 ≤ x ∧ x < 256) (hl : l0.length ≤ 140737488355318) (ha1 : -9223372036854775808 ≤ at_) (ha2 : at_ ≤ 9223372036854775807) (hm : most = 9 ∨ most = 10) :
    Calls Tryd.prog 107 #[.slice A0 l0.length c0, .int .i64 at_, .int .i64 most] w
      fun e w' => e = .returned (.tuple #[.int .u64 (tk l0 at_ most).1, .int .i64 (tk l0 at_ most).2.1, .int .i64 (tk l0 at_ most).2.2]) ∧ w' = w := by
  by_cases hat : at_ < 0 ∨ (l0.length : Int) < at_
  · have ht : tk l0 at_ most = (0, 0, 1) := if_pos hat
    rw [ht]
    rcases hat with h | h
    · have d1 : decide (at_ < 0) = true := decide_eq_true h
      clear h
      go_enter Tryd.func107, Tryd.ntmps107
      go_wp2
      refine wp_scope_jumps 0 (fun a' w' => False) (fun a' _ => 0) rfl ?_ (fun _ _ h => h.elim)
      go_wp2
      simp only [Exit.jump]
      go_ret3
      exact ⟨rfl, rfl⟩
    · by_cases h0 : at_ < 0
      · omega
      have d0 : decide (at_ < 0) = false := decide_eq_false h0
      have d1 : decide ((l0.length : Int) < at_) = true := decide_eq_true h
      clear h h0
      go_enter Tryd.func107, Tryd.ntmps107
      go_wp2
      refine wp_scope_jumps 0 (fun a' w' => False) (fun a' _ => 0) rfl ?_ (fun _ _ h => h.elim)
      go_wp2
      simp only [Exit.jump]
      go_ret3
      exact ⟨rfl, rfl⟩
  · have h0 : 0 ≤ at_ := by omega
    have h1 : at_ ≤ l0.length := by omega
    have d0 : decide (at_ < 0) = false := decide_eq_false (by omega)
    have d1 : decide ((l0.length : Int) < at_) = false := decide_eq_false (by omega)
    obtain ⟨i0, hi0, _, hsz0, _⟩ := info_parts infoB
    obtain ⟨A1, hcut, hA, hc1⟩ := print_drop_of (P := Tryd.prog) (Value.int .u8) (0 : Int) 30 5 .i64 Tryd.underlying30 hi0 hsz0 A0 c0 l0 at_ h0 h1 hc0
    have HR1 := Kd.C_of_reads (h1 := fun _ => rfl) (hA w (Kd.reads_of_C hr0))
    have HLL := Aside0.mk hl; clear hl
    have HTB := Aside0.mk hb; clear hb
    have hRl : (l0.drop at_.toNat).length = l0.length - at_.toNat := List.length_drop
    have hRb : ∀ x ∈ l0.drop at_.toNat, 0 ≤ x ∧ x < 256 := fun x hx => HTB.out x (List.mem_of_mem_drop hx)
    have htk : tk l0 at_ most = if (rdw most (l0.drop at_.toNat) 0 0).2.2 = 0 then ((rdw most (l0.drop at_.toNat) 0 0).1, at_ + (rdw most (l0.drop at_.toNat) 0 0).2.1, 0) else (0, 0, (rdw most (l0.drop at_.toNat) 0 0).2.2) := if_neg hat
    generalize l0.drop at_.toNat = R at hcut HR1 hRl hRb htk hc1
    change Kd.C (Kd.int .u8) w A1 R.length R at HR1
    clear hA hat hr0
    have HR := Aside0.mk HR1
    have HTK := Aside0.mk htk; clear htk
    have HLR := Aside0.mk hRl
    have hRl2 : (l0.length : Int) = at_ + R.length := by omega
    have HL2 := Aside0.mk hRl2; clear hRl2 hRl
    clear HR1
    go_enter Tryd.func107, Tryd.ntmps107
    go_wp2
    refine wp_scope_jumps 0 (fun a' w' => ∃ (u0 u1 u2 u3 u4 u5 u6 u7 u8 u9 u10 u11 u12 u13 u14 u15 u16 u17 u18 u19 u20 u21 u22 u23 u24 u25 u26 u27 u28 u29 u30 u31 u32 u33 u34 u35 u36 u37 u38 u39 u40 u41 u42 u43 u44 u45 u46 u47 u48 u49 u50 u51 u52 u53 u54 u55 u56 u57 u58 u59 u60 u61 u62 u63 u64 u65 : Value), a' = { tmps := #[u0, u1, u2, u3, u4, u5, u6, u7, u8, u9, u10, u11, u12, u13, u14, u15, u16, u17, u18, u19, u20, u21, u22, u23, u24, u25, u26, u27, u28, u29, u30, u31, u32, u33, u34, u35, u36, u37, u38, u39, u40, u41, u42, u43, u44, u45, u46, u47, u48, u49, u50, u51, u52, u53, u54, u55, u56, u57, u58, u59, u60, u61, u62, u63, u64, u65], defers := [] } ∧ w' = w ∧ tk l0 at_ most = (0, 0, 20)) (fun a' _ => 0) rfl ?_ ?_
    · go_wp2
      go_loop [9, 24] (fun vz vi => ∃ (z i : Int), vz = .int .u64 z ∧ vi = .int .i64 i ∧ 0 ≤ i ∧ i ≤ R.length ∧ i ≤ most ∧ 0 ≤ z ∧ z < (128 ^ i.toNat : Nat) ∧ rdw most R 0 0 = rdw most (R.drop i.toNat) i z) (fun _ vi => (R.length - intOf vi).toNat)
      case atStart => exact ⟨0, 0, rfl, rfl, by omega, by omega, by omega, by omega, by simp, rfl⟩
      case round =>
        obtain ⟨z, i, rfl, rfl, hi0, hi1, hi2, hz0, hz1, hrd⟩ := hrel
        by_cases hx : i < R.length
        · have dx : decide (i < (R.length : Int)) = true := decide_eq_true hx
          obtain ⟨ad, e, hcell⟩ := Kd.at_int HR.out i hi0 hx
          cases e
          obtain ⟨c, hc⟩ : ∃ c, c = rd R i := ⟨_, rfl⟩
          rw [← hc] at hcell
          have hcb : 0 ≤ c ∧ c < 256 := hc ▸ rd_mem hRb hi0 hx
          have HZ := Aside0.mk (And.intro hz0 (And.intro hz1 hrd)); clear hz0 hz1 hrd
          have HC := Aside0.mk hc; clear hc
          have hle9 : i ≤ 9 ∨ i = most := by omega
          by_cases e1 : i = most
          · have b1 : (i == most) = true := beq_iff_eq.mpr e1
            have hw : tk l0 at_ most = (0, 0, 20) := by
              have h1 := HZ.out.2.2
              rw [rdw_at most R i z hi0 hx, if_pos (.inl e1)] at h1
              rw [HTK.out, h1]; rfl
            have HW := Aside0.mk hw; clear hw
            clear e1 hle9
            go_wp2
            go_step3; exact ⟨rfl, _, _, _, _, _, _, _, _, _, _, _, _, _, _, _, _, _, _, _, _, _, _, _, _, _, _, _, _, _, _, _, _, _, _, _, _, _, _, _, _, _, _, _, _, _, _, _, _, _, _, _, _, _, _, _, _, _, _, _, _, _, _, _, _, _, _, rfl, rfl, HW.out⟩
          · have b1 : (i == most) = false := beq_eq_false_iff_ne.mpr e1
            by_cases e2 : i = 9
            · have b2 : (i == 9) = true := beq_iff_eq.mpr e2
              by_cases e3 : 1 < c
              · have b3 : decide (1 < c) = true := decide_eq_true e3
                have hw : tk l0 at_ most = (0, 0, 20) := by
                  have h1 := HZ.out.2.2
                  rw [rdw_at most R i z hi0 hx, if_pos (.inr ⟨e2, HC.out ▸ e3⟩)] at h1
                  rw [HTK.out, h1]; rfl
                have HW := Aside0.mk hw; clear hw
                clear e1 e2 e3 hle9
                go_wp2
                go_step3; exact ⟨rfl, _, _, _, _, _, _, _, _, _, _, _, _, _, _, _, _, _, _, _, _, _, _, _, _, _, _, _, _, _, _, _, _, _, _, _, _, _, _, _, _, _, _, _, _, _, _, _, _, _, _, _, _, _, _, _, _, _, _, _, _, _, _, _, _, _, _, rfl, rfl, HW.out⟩
              · have b3 : decide (1 < c) = false := decide_eq_false e3
                have b4 : decide (c < 128) = true := decide_eq_true (by omega)
                by_cases e4 : c = 0
                · have b5 : (c == 0) = true := beq_iff_eq.mpr e4
                  have b6 : decide (0 < i) = true := decide_eq_true (by omega)
                  have hw : tk l0 at_ most = (0, 0, 20) := by
                    have h1 := HZ.out.2.2
                    rw [rdw_at most R i z hi0 hx, ← HC.out, if_neg (by omega), if_pos (by omega), if_pos (by omega)] at h1
                    rw [HTK.out, h1]; rfl
                  have HW := Aside0.mk hw; clear hw
                  have HE := Aside0.mk e4; clear e4
                  clear e1 e2 e3 hle9
                  go_wp2
                  go_step3; exact ⟨rfl, _, _, _, _, _, _, _, _, _, _, _, _, _, _, _, _, _, _, _, _, _, _, _, _, _, _, _, _, _, _, _, _, _, _, _, _, _, _, _, _, _, _, _, _, _, _, _, _, _, _, _, _, _, _, _, _, _, _, _, _, _, _, _, _, _, _, rfl, rfl, HW.out⟩
                · have b5 : (c == 0) = false := beq_eq_false_iff_ne.mpr e4
                  have hw : tk l0 at_ most = (bits .or .u64 z (IntKind.u64.wrap (IntKind.u64.wrap (bits .and .u8 c 127) * 2 ^ (7 * i).toNat)), wrap64 (wrap64 (at_ + i) + 1), 0) := by
                    have h1 := HZ.out.2.2
                    rw [rdw_at most R i z hi0 hx, ← HC.out, if_neg (by omega), if_pos (by omega), if_neg (by omega)] at h1
                    rw [HTK.out, h1, if_pos rfl]
                    have h2 := shl_or z c i.toNat (by omega) HZ.out.1 HZ.out.2.1 hcb.1 hcb.2 (by omega)
                    rw [show ((i.toNat : Nat) : Int) = i by omega] at h2
                    rw [h2, show c % 128 = c by omega, show at_ + (i + 1) = wrap64 (wrap64 (at_ + i) + 1) by (have := HL2.out; have := HLL.out; simp only [wrap64]; omega)]
                  have HW := Aside0.mk hw; clear hw
                  have HE := Aside0.mk e2
                  clear e1 e2 e3 e4 hle9
                  go_wp2
                  simp only [Exit.jump]
                  go_ret3
                  rw [HW.out]
                  exact ⟨rfl, rfl⟩
            · have b2 : (i == 9) = false := beq_eq_false_iff_ne.mpr e2
              by_cases e3 : c < 128
              · have b3 : decide (c < 128) = true := decide_eq_true e3
                by_cases e4 : c = 0
                · have b5 : (c == 0) = true := beq_iff_eq.mpr e4
                  by_cases e5 : 0 < i
                  · have b6 : decide (0 < i) = true := decide_eq_true e5
                    have hw : tk l0 at_ most = (0, 0, 20) := by
                      have h1 := HZ.out.2.2
                      rw [rdw_at most R i z hi0 hx, ← HC.out, if_neg (by omega), if_pos (by omega), if_pos (by omega)] at h1
                      rw [HTK.out, h1]; rfl
                    have HW := Aside0.mk hw; clear hw
                    have HE := Aside0.mk e4; clear e4
                    clear e1 e2 e3 hle9 e5
                    go_wp2
                    go_step3; exact ⟨rfl, _, _, _, _, _, _, _, _, _, _, _, _, _, _, _, _, _, _, _, _, _, _, _, _, _, _, _, _, _, _, _, _, _, _, _, _, _, _, _, _, _, _, _, _, _, _, _, _, _, _, _, _, _, _, _, _, _, _, _, _, _, _, _, _, _, _, rfl, rfl, HW.out⟩
                  · have b6 : decide (0 < i) = false := decide_eq_false e5
                    have hw : tk l0 at_ most = (bits .or .u64 z (IntKind.u64.wrap (IntKind.u64.wrap (bits .and .u8 c 127) * 2 ^ (7 * i).toNat)), wrap64 (wrap64 (at_ + i) + 1), 0) := by
                        have h1 := HZ.out.2.2
                        rw [rdw_at most R i z hi0 hx, ← HC.out, if_neg (by omega), if_pos (by omega), if_neg (by omega)] at h1
                        rw [HTK.out, h1, if_pos rfl]
                        have h2 := shl_or z c i.toNat (by omega) HZ.out.1 HZ.out.2.1 hcb.1 hcb.2 (by omega)
                        rw [show ((i.toNat : Nat) : Int) = i by omega] at h2
                        rw [h2, show c % 128 = c by omega, show at_ + (i + 1) = wrap64 (wrap64 (at_ + i) + 1) by (have := HL2.out; have := HLL.out; simp only [wrap64]; omega)]
                    have HW := Aside0.mk hw; clear hw
                    have HE := Aside0.mk e4
                    clear e1 e2 e3 e4 e5
                    go_wp2
                    simp only [Exit.jump]
                    go_ret3
                    rw [HW.out]
                    exact ⟨rfl, rfl⟩
                · have b5 : (c == 0) = false := beq_eq_false_iff_ne.mpr e4
                  have hw : tk l0 at_ most = (bits .or .u64 z (IntKind.u64.wrap (IntKind.u64.wrap (bits .and .u8 c 127) * 2 ^ (7 * i).toNat)), wrap64 (wrap64 (at_ + i) + 1), 0) := by
                      have h1 := HZ.out.2.2
                      rw [rdw_at most R i z hi0 hx, ← HC.out, if_neg (by omega), if_pos (by omega), if_neg (by omega)] at h1
                      rw [HTK.out, h1, if_pos rfl]
                      have h2 := shl_or z c i.toNat (by omega) HZ.out.1 HZ.out.2.1 hcb.1 hcb.2 (by omega)
                      rw [show ((i.toNat : Nat) : Int) = i by omega] at h2
                      rw [h2, show c % 128 = c by omega, show at_ + (i + 1) = wrap64 (wrap64 (at_ + i) + 1) by (have := HL2.out; have := HLL.out; simp only [wrap64]; omega)]
                  have HW := Aside0.mk hw; clear hw
                  have HE := Aside0.mk e4
                  clear e1 e2 e3 e4 
                  go_wp2
                  simp only [Exit.jump]
                  go_ret3
                  rw [HW.out]
                  exact ⟨rfl, rfl⟩
              · have b3 : decide (c < 128) = false := decide_eq_false e3
                have HN : Aside0 (0 ≤ z + c % 128 * (128 ^ i.toNat : Nat) ∧ z + c % 128 * (128 ^ i.toNat : Nat) < (128 ^ (i + 1).toNat : Nat) ∧ rdw most R 0 0 = rdw most (R.drop (i + 1).toNat) (i + 1) (z + c % 128 * (128 ^ i.toNat : Nat))) := by
                  have h1 := HZ.out.2.2
                  rw [rdw_at most R i z hi0 hx, ← HC.out, if_neg (by omega), if_neg (by omega)] at h1
                  have h2 := pow_step i.toNat z c HZ.out.1 HZ.out.2.1 hcb.1
                  rw [show (i + 1).toNat = i.toNat + 1 by omega]
                  rw [show (i + 1).toNat = i.toNat + 1 by omega, show c - 128 = c % 128 by omega] at h1
                  exact ⟨h2.1, h2.2, h1⟩
                have h2 := shl_or z c i.toNat (by omega) HZ.out.1 HZ.out.2.1 hcb.1 hcb.2 (by omega)
                rw [show ((i.toNat : Nat) : Int) = i by omega] at h2
                have HS := Aside0.mk h2; clear h2
                have HI : Aside0 (i + 1 ≤ R.length ∧ i + 1 ≤ most ∧ 0 ≤ i + 1) := ⟨by omega⟩
                clear e1 e2 e3
                go_wp2
                rw [HS.out]
                refine ⟨⟨_, _, rfl, rfl, HI.out.2.2, HI.out.1, HI.out.2.1, HN.out.1, HN.out.2.1, HN.out.2.2⟩, ?_⟩
                have := HI.out
                simp only [intOf]
                omega
        · have dx : decide (i < (R.length : Int)) = false := decide_eq_false hx
          have hie : i = R.length := by omega
          have HIE := Aside0.mk hie; clear hie
          have hrd0 : rdw most R 0 0 = if most ≤ i then (0, 0, 20) else (0, 0, 3) := by
            rw [hrd, List.drop_eq_nil_of_le (by omega), rdw]
          have HRD := Aside0.mk hrd0; clear hrd0 hrd
          have hsub : wrap64 ((l0.length : Int) - at_) = i := by
            have := HL2.out; have := HIE.out
            simp only [wrap64]; omega
          by_cases e1 : most ≤ i
          · have b1 : decide (most ≤ i) = true := decide_eq_true e1
            have hw : tk l0 at_ most = (0, 0, 20) := by rw [HTK.out, HRD.out, if_pos e1]; rfl
            have HW := Aside0.mk hw; clear hw
            clear e1 hx hi1 hi2
            go_wp2
            go_step3; exact ⟨rfl, _, _, _, _, _, _, _, _, _, _, _, _, _, _, _, _, _, _, _, _, _, _, _, _, _, _, _, _, _, _, _, _, _, _, _, _, _, _, _, _, _, _, _, _, _, _, _, _, _, _, _, _, _, _, _, _, _, _, _, _, _, _, _, _, _, _, rfl, rfl, HW.out⟩
          · have b1 : decide (most ≤ i) = false := decide_eq_false e1
            have hw : tk l0 at_ most = (0, 0, 3) := by rw [HTK.out, HRD.out, if_neg e1]; rfl
            have HW := Aside0.mk hw; clear hw
            clear e1 hx hi1 hi2
            go_wp2
            simp only [Exit.jump]
            go_ret3
            rw [HW.out]
            exact ⟨rfl, rfl⟩
    · rintro a' w' ⟨u0, u1, u2, u3, u4, u5, u6, u7, u8, u9, u10, u11, u12, u13, u14, u15, u16, u17, u18, u19, u20, u21, u22, u23, u24, u25, u26, u27, u28, u29, u30, u31, u32, u33, u34, u35, u36, u37, u38, u39, u40, u41, u42, u43, u44, u45, u46, u47, u48, u49, u50, u51, u52, u53, u54, u55, u56, u57, u58, u59, u60, u61, u62, u63, u64, u65, rfl, rfl, hw⟩
      go_wp2
      simp only [Exit.jump]
      go_ret3
      rw [hw]
      exact ⟨rfl, rfl⟩
end Go.Proofs.YteidgpaakoeefaaDoor
namespace Go.Proofs.YteidgpaakoeefaaDoor
open Go.RowKit Go.Proofs.YteidgpaakoeefaaDoorW.PrintWords Go.Proofs.YteidgpaakoeefaaDoorW.PrintLast Go.Proofs.YteidgpaakoeefaaDoorW.PrintMore
set_option linter.unusedVariables false
set_option linter.unusedSimpArgs false
def numF (l : List Int) (n : Int) : List Int × Int := if n < 0 then ([], 1) else (l ++ venc n.toNat, 0)
def zz (n : Int) : Int := if n < 0 then -2 * n - 1 else 2 * n
def uz (z : Int) : Int := if z % 2 = 1 then -(z / 2) - 1 else z / 2
set_option maxHeartbeats 4000000 in
set_option maxRecDepth 100000 in
theorem Num_calls (A0 : Option Addr) (c0 : Nat) (l0 : List Int) (n : Int) (w : World)
    (hr0 : Kd.C (Kd.int .u8) w A0 l0.length l0) (hl : l0.length ≤ 140737488355318) (hn0 : -9223372036854775808 ≤ n) (hn1 : n ≤ 9223372036854775807) :
    Calls Tryd.prog 59 #[.slice A0 l0.length c0, .int .i64 n] w
      fun e w' => ∃ v, e = .returned (.tuple #[v, .int .i64 (numF l0 n).2]) ∧ Kd.R (Kd.int .u8) 5 w' w.heap.size (fun _ => True) v (numF l0 n).1 ∧ Below w.heap.size w w' := by
  by_cases hn : n < 0
  · have hd : decide (n < 0) = true := decide_eq_true hn
    have hf : numF l0 n = ([], 1) := if_pos hn
    rw [hf]
    clear hn hf
    go_enter Tryd.func59, Tryd.ntmps59
    go_wp2
    go_ret2
    exact ⟨_, rfl, Kd.R_nil _ _ _ _ _, Below.refl _ _⟩
  · have hd : decide (n < 0) = false := decide_eq_false hn
    have hf : numF l0 n = (l0 ++ venc n.toNat, 0) := if_neg hn
    rw [hf]
    have hw : IntKind.u64.wrap n = n := w64id n (by omega) (by omega)
    have HR := Aside0.mk hr0
    have HN := Aside0.mk hn
    clear hn hf hr0
    go_enter Tryd.func59, Tryd.ntmps59
    go_wp2_with fail
    try rw [hw]
    ((with_reducible refine (put_calls A0 c0 l0 n _ HR.out hl (by have := HN.out; omega) (by omega)).mono ?_); rintro e_ W1 ⟨v0, rfl, ho_, hb_⟩)
    go_wp2
    go_ret2
    exact ⟨_, rfl, ho_, hb_⟩
theorem xor_ones (a : Nat) (h : a < 18446744073709551616) : a ^^^ 18446744073709551615 = 18446744073709551615 - a := by
  have e1 : (18446744073709551615 : Nat) = 2 ^ 64 - 1 := by decide
  have e2 : 18446744073709551615 - a = 2 ^ 64 - (a + 1) := by omega
  rw [e2, e1]
  apply Nat.eq_of_testBit_eq
  intro i
  rw [Nat.testBit_xor, Nat.testBit_two_pow_sub_one, Nat.testBit_two_pow_sub_succ (by omega)]
  by_cases hi : i < 64
  · simp [hi]
  · have : a.testBit i = false := Nat.testBit_lt_two_pow (Nat.lt_of_lt_of_le h (by rw [show (18446744073709551616 : Nat) = 2 ^ 64 by decide]; exact Nat.pow_le_pow_right (by decide) (by omega)))
    simp [hi, this]
theorem zz_bits (n : Int) (h0 : -9223372036854775808 ≤ n) (h1 : n ≤ 9223372036854775807) :
    bits .xor .u64 (IntKind.u64.wrap (IntKind.u64.wrap n * 2)) (IntKind.u64.wrap (n / 9223372036854775808)) = zz n := by
  by_cases h : n < 0
  · rw [show n / 9223372036854775808 = -1 by omega, zz, if_pos h]
    show bits .xor .u64 (n % 18446744073709551616 * 2 % 18446744073709551616) 18446744073709551615 = _
    obtain ⟨a, ha⟩ : ∃ a : Nat, n % 18446744073709551616 * 2 % 18446744073709551616 = (a : Int) := ⟨_, (Int.toNat_of_nonneg (by omega)).symm⟩
    rw [ha]
    have := Go.bits_xor_u64_nat a 18446744073709551615 (by omega) (by omega)
    rw [show ((18446744073709551615 : Nat) : Int) = 18446744073709551615 from rfl] at this
    rw [this, xor_ones a (by omega)]
    omega
  · rw [show n / 9223372036854775808 = 0 by omega, zz, if_neg h]
    show bits .xor .u64 (n % 18446744073709551616 * 2 % 18446744073709551616) 0 = _
    obtain ⟨a, ha⟩ : ∃ a : Nat, n % 18446744073709551616 * 2 % 18446744073709551616 = (a : Int) := ⟨_, (Int.toNat_of_nonneg (by omega)).symm⟩
    rw [ha]
    have := Go.bits_xor_u64_nat a 0 (by omega) (by omega)
    rw [show ((0 : Nat) : Int) = 0 from rfl] at this
    rw [this, Nat.xor_zero]
    omega
theorem zz_range (n : Int) (h0 : -9223372036854775808 ≤ n) (h1 : n ≤ 9223372036854775807) : 0 ≤ zz n ∧ zz n < 18446744073709551616 := by
  unfold zz; split <;> omega
set_option maxHeartbeats 4000000 in
set_option maxRecDepth 100000 in
theorem Int_calls (A0 : Option Addr) (c0 : Nat) (l0 : List Int) (n : Int) (w : World)
    (hr0 : Kd.C (Kd.int .u8) w A0 l0.length l0) (hl : l0.length ≤ 140737488355318) (hn0 : -9223372036854775808 ≤ n) (hn1 : n ≤ 9223372036854775807) :
    Calls Tryd.prog 58 #[.slice A0 l0.length c0, .int .i64 n] w
      fun e w' => ∃ v, e = .returned v ∧ Kd.R (Kd.int .u8) 5 w' w.heap.size (fun _ => True) v (l0 ++ venc (zz n).toNat) ∧ Below w.heap.size w w' := by
  have HR := Aside0.mk hr0
  have hz := zz_bits n hn0 hn1
  have HZ := Aside0.mk hz
  clear hr0 hz
  go_enter Tryd.func58, Tryd.ntmps58
  go_wp2_with fail
  rw [HZ.out]
  ((with_reducible refine (put_calls A0 c0 l0 (zz n) _ HR.out hl (zz_range n hn0 hn1).1 (zz_range n hn0 hn1).2).mono ?_); rintro e_ W1 ⟨v0, rfl, ho_, hb_⟩)
  go_wp2
  go_ret
  exact ⟨_, rfl, ho_, hb_⟩
theorem rdw_range (most : Int) (hm : 0 ≤ most) (hm2 : most ≤ 10) : ∀ (R : List Int) (i z : Int), 0 ≤ i → i ≤ most → (∀ x ∈ R, 0 ≤ x ∧ x < 256) → 0 ≤ z → z < (128 ^ i.toNat : Nat) →
    0 ≤ (rdw most R i z).1 ∧ (rdw most R i z).1 < (128 ^ most.toNat : Nat) ∧ (rdw most R i z).1 < 18446744073709551616 ∧ 0 ≤ (rdw most R i z).2.1 ∧ (rdw most R i z).2.1 ≤ i + R.length
  | [], i, z, hi, him, hR, h0, h1 => by
    have hp : (0 : Int) < (128 ^ most.toNat : Nat) := by exact_mod_cast Nat.pow_pos (by decide)
    rw [rdw]; split <;> exact ⟨by decide, hp, by decide, by decide, by simp; omega⟩
  | c :: cs, i, z, hi, him, hR, h0, h1 => by
    have hp : (0 : Int) < (128 ^ most.toNat : Nat) := by exact_mod_cast Nat.pow_pos (by decide)
    have hc := hR c List.mem_cons_self
    have hl : ((c :: cs).length : Int) = cs.length + 1 := by simp
    rw [rdw]
    by_cases e1 : i = most ∨ (i = 9 ∧ 1 < c)
    · rw [if_pos e1]
      exact ⟨by decide, hp, by decide, by decide, by simp only; omega⟩
    · rw [if_neg e1]
      have hst := pow_step i.toNat z c h0 h1 hc.1
      have hle : 128 ^ (i.toNat + 1) ≤ 128 ^ most.toNat := Nat.pow_le_pow_right (by decide) (by omega)
      by_cases e2 : c < 128
      · rw [if_pos e2]
        rw [show c % 128 = c by omega] at hst
        by_cases e3 : c = 0 ∧ 0 < i
        · rw [if_pos e3]; exact ⟨by decide, hp, by decide, by decide, by simp only; omega⟩
        · rw [if_neg e3]
          refine ⟨hst.1, Int.lt_of_lt_of_le hst.2 (by exact_mod_cast hle), ?_, by simp only; omega, by simp only; omega⟩
          show z + c * (128 ^ i.toNat : Nat) < 18446744073709551616
          by_cases e9 : i = 9
          · subst e9
            have : c ≤ 1 := by omega
            have h2 : c * ((128 ^ (9 : Int).toNat : Nat) : Int) ≤ 9223372036854775808 := by
              rw [show ((128 ^ (9 : Int).toNat : Nat) : Int) = 9223372036854775808 by decide]; omega
            rw [show ((128 ^ (9 : Int).toNat : Nat) : Int) = 9223372036854775808 by decide] at h1 h2 ⊢
            omega
          · have hle2 : 128 ^ (i.toNat + 1) ≤ 128 ^ 9 := Nat.pow_le_pow_right (by decide) (by omega)
            rw [show (128 : Nat) ^ 9 = 9223372036854775808 by decide] at hle2
            omega
      · rw [if_neg e2]
        rw [show c % 128 = c - 128 by omega] at hst
        have := rdw_range most hm hm2 cs (i + 1) (z + (c - 128) * (128 ^ i.toNat : Nat)) (by omega) (by omega) (fun x hx => hR x (List.mem_cons_of_mem _ hx)) hst.1 (by rw [show (i + 1).toNat = i.toNat + 1 by omega]; exact hst.2)
        refine ⟨this.1, this.2.1, this.2.2.1, this.2.2.2.1, by omega⟩
theorem tk_range (l : List Int) (at_ most : Int) (hm : 0 ≤ most) (hm2 : most ≤ 10) (hb : ∀ x ∈ l, 0 ≤ x ∧ x < 256) :
    0 ≤ (tk l at_ most).1 ∧ (tk l at_ most).1 < (128 ^ most.toNat : Nat) ∧ (tk l at_ most).1 < 18446744073709551616 ∧ 0 ≤ (tk l at_ most).2.1 ∧ (tk l at_ most).2.1 ≤ l.length := by
  have hp : (0 : Int) < (128 ^ most.toNat : Nat) := by exact_mod_cast Nat.pow_pos (by decide)
  by_cases e1 : at_ < 0 ∨ (l.length : Int) < at_
  · rw [tk, if_pos e1]; exact ⟨by decide, hp, by decide, by decide, by simp only; omega⟩
  · have h := rdw_range most hm hm2 (l.drop at_.toNat) 0 0 (by omega) hm (fun x hx => hb x (List.mem_of_mem_drop hx)) (by omega) (by simp)
    have hl : (l.drop at_.toNat).length = l.length - at_.toNat := List.length_drop
    rw [tk, if_neg e1]
    split
    · exact ⟨h.1, h.2.1, h.2.2.1, by have := h.2.2.2.1; simp only; omega, by have := h.2.2.2.2; simp only; omega⟩
    · exact ⟨Int.le_refl 0, hp, by show (0 : Int) < _; decide, Int.le_refl 0, by simp only; omega⟩
set_option maxHeartbeats 4000000 in
set_option maxRecDepth 100000 in
theorem ReadNum_calls (A0 : Option Addr) (c0 : Nat) (l0 : List Int) (at_ : Int) (w : World)
    (hr0 : Kd.C (Kd.int .u8) w A0 l0.length l0) (hc0 : l0.length ≤ c0) (hb : ∀ x ∈ l0, 0 ≤ x ∧ x < 256) (hl : l0.length ≤ 140737488355318) (ha1 : -9223372036854775808 ≤ at_) (ha2 : at_ ≤ 9223372036854775807) :
    Calls Tryd.prog 91 #[.slice A0 l0.length c0, .int .i64 at_] w
      fun e w' => e = .returned (.tuple #[.int .i64 (tk l0 at_ 9).1, .int .i64 (tk l0 at_ 9).2.1, .int .i64 (tk l0 at_ 9).2.2]) ∧ w' = w := by
  have hc := take_calls A0 c0 l0 at_ 9 w hr0 hc0 hb hl ha1 ha2 (.inl rfl)
  have hr := tk_range l0 at_ 9 (by decide) (by decide) hb
  rw [show ((128 ^ (9 : Int).toNat : Nat) : Int) = 9223372036854775808 by decide] at hr
  generalize tk l0 at_ 9 = t at hc hr ⊢
  have hw : wrap64 t.1 = t.1 := by simp only [wrap64]; omega
  have HW := Aside0.mk hw
  clear hr0 hc0 hb hr hw
  go_enter Tryd.func91, Tryd.ntmps91
  go_wp2_with fail
  ((with_reducible refine hc.mono ?_); rintro e_ W1 ⟨rfl, rfl⟩)
  go_wp2
  go_ret3
  rw [HW.out]
  exact ⟨rfl, rfl⟩
theorem bits_comm_xor (x y : Int) : bits .xor .i64 x y = bits .xor .i64 y x := by
  show IntKind.i64.wrap ((BitVec.ofInt 64 x ^^^ BitVec.ofInt 64 y).toNat : Int) = IntKind.i64.wrap ((BitVec.ofInt 64 y ^^^ BitVec.ofInt 64 x).toNat : Int)
  rw [BitVec.xor_comm]
theorem uz_bits (z : Int) (h0 : 0 ≤ z) (h1 : z < 18446744073709551616) :
    bits .xor .i64 (wrap64 (z / 2)) (wrap64 (-(wrap64 (bits .and .u64 z 1)))) = uz z := by
  have h2 : bits .and .u64 z 1 = z % 2 := by go_bits2
  have h3 : wrap64 (z / 2) = z / 2 := by simp only [wrap64]; omega
  rw [h2, h3, uz]
  obtain ⟨a, rfl⟩ := Int.eq_ofNat_of_zero_le h0
  rw [show ((a : Int) / 2) = ((a / 2 : Nat) : Int) by omega]
  have ha : a / 2 < 9223372036854775808 := by omega
  by_cases h : (a : Int) % 2 = 1
  · rw [if_pos h, h]
    rw [show wrap64 (-wrap64 1) = -1 by simp [wrap64]]
    rw [bits_comm_xor, i64_not _ ha]
    omega
  · rw [if_neg h, show (a : Int) % 2 = 0 by omega]
    rw [show wrap64 (-wrap64 0) = 0 by simp [wrap64]]
    show IntKind.i64.wrap ((BitVec.ofInt 64 ((a / 2 : Nat) : Int) ^^^ BitVec.ofInt 64 0).toNat : Int) = _
    rw [show BitVec.ofInt 64 0 = 0#64 by decide, BitVec.xor_zero, ofInt_u64 (a / 2) (by omega)]
    simp [IntKind.wrap, IntKind.bits, IntKind.signed]
    omega
set_option maxHeartbeats 4000000 in
set_option maxRecDepth 100000 in
theorem ReadInt_calls (A0 : Option Addr) (c0 : Nat) (l0 : List Int) (at_ : Int) (w : World)
    (hr0 : Kd.C (Kd.int .u8) w A0 l0.length l0) (hc0 : l0.length ≤ c0) (hb : ∀ x ∈ l0, 0 ≤ x ∧ x < 256) (hl : l0.length ≤ 140737488355318) (ha1 : -9223372036854775808 ≤ at_) (ha2 : at_ ≤ 9223372036854775807) :
    Calls Tryd.prog 93 #[.slice A0 l0.length c0, .int .i64 at_] w
      fun e w' => e = .returned (.tuple #[.int .i64 (uz (tk l0 at_ 10).1), .int .i64 (tk l0 at_ 10).2.1, .int .i64 (tk l0 at_ 10).2.2]) ∧ w' = w := by
  have hc := take_calls A0 c0 l0 at_ 10 w hr0 hc0 hb hl ha1 ha2 (.inr rfl)
  have hr := tk_range l0 at_ 10 (by decide) (by decide) hb
  generalize tk l0 at_ 10 = t at hc hr ⊢
  have hw := uz_bits t.1 hr.1 hr.2.2.1
  have HW := Aside0.mk hw
  clear hr0 hc0 hb hr hw
  go_enter Tryd.func93, Tryd.ntmps93
  go_wp2_with fail
  ((with_reducible refine hc.mono ?_); rintro e_ W1 ⟨rfl, rfl⟩)
  go_wp2
  go_ret3
  rw [HW.out]
  exact ⟨rfl, rfl⟩
def textF (l : List Int) (t : ByteArray) : List Int × Int := if (65536 : Int) < (t.size : Int) then ([], 2) else (l ++ venc t.size ++ bytesOf t, 0)
set_option maxHeartbeats 4000000 in
set_option maxRecDepth 100000 in
theorem Text_calls (A0 : Option Addr) (c0 : Nat) (l0 : List Int) (t : ByteArray) (w : World)
    (hr0 : Kd.C (Kd.int .u8) w A0 l0.length l0) (hl : l0.length ≤ 140737488000000) (ht : t.size ≤ 9223372036854775807) :
    Calls Tryd.prog 29 #[.slice A0 l0.length c0, .string t] w
      fun e w' => ∃ v, e = .returned (.tuple #[v, .int .i64 (textF l0 t).2]) ∧ Kd.R (Kd.int .u8) 5 w' w.heap.size (fun _ => True) v (textF l0 t).1 ∧ Below w.heap.size w w' := by
  by_cases hn : (65536 : Int) < (t.size : Int)
  · have hd : decide ((65536 : Int) < (t.size : Int)) = true := decide_eq_true hn
    have hf : textF l0 t = ([], 2) := if_pos hn
    rw [hf]
    clear hn hf
    go_enter Tryd.func29, Tryd.ntmps29
    go_wp2
    go_ret2
    exact ⟨_, rfl, Kd.R_nil _ _ _ _ _, Below.refl _ _⟩
  · have hd : decide ((65536 : Int) < (t.size : Int)) = false := decide_eq_false hn
    have hf : textF l0 t = (l0 ++ venc t.size ++ bytesOf t, 0) := if_neg hn
    rw [hf]
    have hw : IntKind.u64.wrap (t.size : Int) = (t.size : Int) := w64id _ (by omega) (by omega)
    have HR := Aside0.mk hr0
    have HN := Aside0.mk hn
    have HV := Aside0.mk (venc_len64 (z := (t.size : Int)) (by omega))
    clear hn hf hr0
    go_enter Tryd.func29, Tryd.ntmps29
    go_wp2_with fail
    try rw [hw]
    ((with_reducible refine (put_calls A0 c0 l0 (t.size : Int) _ HR.out (by omega) (by omega) (by omega)).mono ?_); rintro e_ W1 ⟨v0, rfl, ho_, hb_⟩)
    rw [Int.toNat_natCast] at ho_ HV
    have HO := Aside0.mk ho_; have HB := Aside0.mk hb_; clear ho_ hb_
    go_wp2_with (first | ((with_reducible refine gate_builtin (b := .append) (xs := #[.tmp 13, .tmp 14]) rfl ?_); at_builtin; refine print_append_str (w0 := w) w.heap.size rfl (.tmp 13) _ 30 9 5 rfl Tryd.underlying30 Tryd.underlying9 infoB v0 (l0 ++ venc t.size) t rfl rfl ?aO ?aB ?aS ?aL ?_; (case aB => exact HB.out); (case aO => exact (Kd.own_of_R HO.out)); (case aS => exact (below_size HB.out)); (case aL => have := HN.out; have := HV.out; simp; omega); intro v1 w1 ho0 hb hg; have ho := Kd.R_of_own (h1 := fun _ => rfl) (ok := fun _ => True) ho0 (fun _ _ => trivial); have HO1 := Aside0.mk ho; have HB1 := Aside0.mk hb; clear ho hb hg ho0 HO HB))
    go_ret2
    exact ⟨_, rfl, HO1.out, HB1.out⟩
end Go.Proofs.YteidgpaakoeefaaDoor
namespace Go.Proofs.YteidgpaakoeefaaDoor
open Go.RowKit Go.Proofs.YteidgpaakoeefaaDoorW.PrintWords Go.Proofs.YteidgpaakoeefaaDoorW.PrintLast Go.Proofs.YteidgpaakoeefaaDoorW.PrintMore
set_option linter.unusedVariables false
set_option linter.unusedSimpArgs false
def nib : List Int := [0, 498536548, 997073096, 651767980, 1994146192, 1802195444, 1303535960, 1342533948, 3988292384, 4027552580, 3604390888, 3412177804, 2607071920, 2262029012, 2685067896, 3183342108]
def Tab (w : World) : Prop := ∀ i : Nat, i < 16 → w.cell? ⟨0, i, none⟩ = some (.int .u32 (nib.getD i 0))
theorem Tab.below {w w' : World} (h : Tab w) (hb : Below w.heap.size w w') : Tab w' := by
  intro i hi
  have hc := h i hi
  exact (hb.cell (World.block_lt_of_cell? w _ hc)).trans hc
def nstep (s : Int) : Int := bits .xor .u32 (s / 16) (nib.getD (bits .and .u32 s 15).toNat 0)
def sstep (s c : Int) : Int := nstep (nstep (bits .xor .u32 s (c % 4294967296)))
def sumF (l : List Int) : Int := 4294967295 - l.foldl sstep 4294967295
theorem u32_range (x y : Int) : 0 ≤ bits .xor .u32 x y ∧ bits .xor .u32 x y < 4294967296 := by
  show 0 ≤ IntKind.u32.wrap ((BitVec.ofInt 32 x ^^^ BitVec.ofInt 32 y).toNat : Int) ∧ IntKind.u32.wrap ((BitVec.ofInt 32 x ^^^ BitVec.ofInt 32 y).toNat : Int) < 4294967296
  rw [IntKind.wrap_u32]
  omega
theorem wraps_u32 (n : Int) (h₀ : 0 ≤ n) (h₁ : n < 2 ^ 32) : IntKind.u32.wrap n = n := by rw [IntKind.wrap_u32]; omega
theorem u32_and15 (x : Int) (h0 : 0 ≤ x) (h1 : x < 4294967296) : bits .and .u32 x 15 = x % 16 := bits_mask .u32 32 (by decide) wraps_u32 4 (by decide) x h0 h1
theorem nib_range (n : Nat) : 0 ≤ nib.getD n 0 ∧ nib.getD n 0 < 4294967296 := by
  by_cases h : n < 16
  · have : ∀ n, n < 16 → 0 ≤ nib.getD n 0 ∧ nib.getD n 0 < 4294967296 := by decide
    exact this n h
  · have h1 : nib.length = 16 := rfl
    have : nib.getD n 0 = 0 := by rw [List.getD_eq_getElem?_getD, List.getElem?_eq_none (by omega)]; rfl
    rw [this]; decide
theorem xor_ones32 (a : Nat) (h : a < 4294967296) : 4294967295 ^^^ a = 4294967295 - a := by
  have e1 : (4294967295 : Nat) = 2 ^ 32 - 1 := by decide
  have e2 : 4294967295 - a = 2 ^ 32 - (a + 1) := by omega
  rw [e2, e1]
  apply Nat.eq_of_testBit_eq
  intro i
  rw [Nat.testBit_xor, Nat.testBit_two_pow_sub_one, Nat.testBit_two_pow_sub_succ (by omega)]
  by_cases hi : i < 32
  · simp [hi]
  · have : a.testBit i = false := Nat.testBit_lt_two_pow (Nat.lt_of_lt_of_le h (by rw [show (4294967296 : Nat) = 2 ^ 32 by decide]; exact Nat.pow_le_pow_right (by decide) (by omega)))
    simp [hi, this]
theorem max_xor (s : Int) (h0 : 0 ≤ s) (h1 : s < 4294967296) : bits .xor .u32 IntKind.u32.max s = 4294967295 - s := by
  obtain ⟨a, rfl⟩ := Int.eq_ofNat_of_zero_le h0
  have := u32_xor_nat 4294967295 a (by omega) (by omega)
  rw [show IntKind.u32.max = ((4294967295 : Nat) : Int) by decide, this, xor_ones32 a (by omega)]
  omega
theorem look {w : World} (hT : Tab w) (x y : Int) : 0 ≤ bits .and .u32 (bits .xor .u32 x y) 15 ∧ bits .and .u32 (bits .xor .u32 x y) 15 < 16 ∧
    w.cell? ⟨0, (bits .and .u32 (bits .xor .u32 x y) 15).toNat, none⟩ = some (.int .u32 (nib.getD (bits .and .u32 (bits .xor .u32 x y) 15).toNat 0)) := by
  have hr := u32_range x y
  have h := u32_and15 _ hr.1 hr.2
  refine ⟨by omega, by omega, hT _ (by omega)⟩
theorem sstep_range (s c : Int) : 0 ≤ sstep s c ∧ sstep s c < 4294967296 := u32_range _ _
theorem fold_range : ∀ (l : List Int) (s : Int), 0 ≤ s → s < 4294967296 → 0 ≤ l.foldl sstep s ∧ l.foldl sstep s < 4294967296
  | [], s, h0, h1 => ⟨h0, h1⟩
  | c :: cs, s, h0, h1 => fold_range cs (sstep s c) (sstep_range s c).1 (sstep_range s c).2
theorem fold_take (l : List Int) (i : Int) (h0 : 0 ≤ i) (h1 : i < l.length) (s : Int) : (l.take (i + 1).toNat).foldl sstep s = sstep ((l.take i.toNat).foldl sstep s) (rd l i) := by
  have hl : i.toNat < l.length := by omega
  have hr : rd l i = l[i.toNat] := by simp [rd, List.getD_eq_getElem?_getD, List.getElem?_eq_getElem hl]
  rw [show (i + 1).toNat = i.toNat + 1 by omega, List.take_succ_eq_append_getElem hl, List.foldl_append, hr]
  rfl
set_option maxHeartbeats 4000000 in
set_option maxRecDepth 100000 in
theorem Sum_calls (A0 : Option Addr) (c0 : Nat) (l0 : List Int) (w : World)
    (hr0 : Kd.C (Kd.int .u8) w A0 l0.length l0) (hl : l0.length ≤ 140737488355328) (hT : Tab w) :
    Calls Tryd.prog 39 #[.slice A0 l0.length c0] w
      fun e w' => e = .returned (.int .i64 (sumF l0)) ∧ w' = w := by
  have HR := Aside0.mk hr0
  have HT := Aside0.mk hT
  clear hr0 hT
  go_enter Tryd.func39, Tryd.ntmps39
  go_wp2
  go_loop [3, 8] (fun vs vi => ∃ (s i : Int), vs = .int .u32 s ∧ vi = .int .i64 i ∧ 0 ≤ i ∧ i ≤ l0.length ∧ 0 ≤ s ∧ s < 4294967296 ∧ s = (l0.take i.toNat).foldl sstep 4294967295) (fun _ vi => (l0.length - intOf vi).toNat)
  case atStart => exact ⟨_, _, rfl, rfl, by omega, by omega, by omega, by omega, rfl⟩
  case round =>
    obtain ⟨s, i, rfl, rfl, hi0, hi1, hs0, hs1, hs⟩ := hrel
    have HS := Aside0.mk hs; clear hs
    by_cases hx : i < l0.length
    · have dx : decide (i < (l0.length : Int)) = true := decide_eq_true hx
      obtain ⟨ad, e, hcell⟩ := Kd.at_int HR.out i hi0 hx
      cases e
      obtain ⟨c, hc⟩ : ∃ c, c = rd l0 i := ⟨_, rfl⟩
      rw [← hc] at hcell
      have HC := Aside0.mk hc; clear hc
      obtain ⟨f0, f1, f2⟩ := look HT.out s (c % 4294967296)
      obtain ⟨T0, hT0⟩ : ∃ T0, T0 = nib.getD (bits .and .u32 (bits .xor .u32 s (c % 4294967296)) 15).toNat 0 := ⟨_, rfl⟩
      rw [← hT0] at f2
      obtain ⟨g0, g1, g2⟩ := look HT.out (bits .xor .u32 s (c % 4294967296) / 16) T0
      obtain ⟨T1, hT1⟩ : ∃ T1, T1 = nib.getD (bits .and .u32 (bits .xor .u32 (bits .xor .u32 s (c % 4294967296) / 16) T0) 15).toNat 0 := ⟨_, rfl⟩
      rw [← hT1] at g2
      have hst : sstep s c = bits .xor .u32 (bits .xor .u32 (bits .xor .u32 s (c % 4294967296) / 16) T0 / 16) T1 := by rw [hT1, hT0]; rfl
      have HST := Aside0.mk hst; clear hst hT0 hT1
      go_wp2
      rw [← HST.out]
      refine ⟨⟨_, _, rfl, rfl, by omega, by omega, (sstep_range s c).1, (sstep_range s c).2, ?_⟩, by simp only [intOf]; omega⟩
      rw [fold_take l0 i hi0 hx, ← HS.out, ← HC.out]
    · have dx : decide (i < (l0.length : Int)) = false := decide_eq_false hx
      go_wp2
      go_ret
      have hsf : sumF l0 = 4294967295 - s := by
        rw [HS.out, List.take_of_length_le (by omega)]; rfl
      rw [hsf]
      rw [← max_xor s hs0 hs1]
      have hx2 := u32_range IntKind.u32.max s
      have hx3 : wrap64 (bits .xor .u32 IntKind.u32.max s) = bits .xor .u32 IntKind.u32.max s := by simp only [wrap64]; omega
      rw [hx3]
      exact ⟨rfl, rfl⟩
theorem sumF_range (l : List Int) : 0 ≤ sumF l ∧ sumF l < 4294967296 := by
  have := fold_range l 4294967295 (by decide) (by decide)
  unfold sumF; omega
def frameF (l : List Int) : List Int := l ++ [sumF l % 256, sumF l / 256 % 256, sumF l / 65536 % 256, sumF l / 16777216]
set_option maxHeartbeats 4000000 in
set_option maxRecDepth 100000 in
theorem Frame_calls (A0 : Option Addr) (c0 : Nat) (l0 : List Int) (w : World)
    (hr0 : Kd.C (Kd.int .u8) w A0 l0.length l0) (hl : l0.length ≤ 140737488355318) (hT : Tab w) :
    Calls Tryd.prog 15 #[.slice A0 l0.length c0] w
      fun e w' => ∃ v, e = .returned v ∧ Kd.R (Kd.int .u8) 5 w' w.heap.size (fun _ => True) v (frameF l0) ∧ Below w.heap.size w w' := by
  have HR := Aside0.mk hr0
  have HT := Aside0.mk hT
  have hs := sumF_range l0
  have hff : frameF l0 = l0 ++ [sumF l0 % 256, sumF l0 / 256 % 256, sumF l0 / 65536 % 256, sumF l0 / 16777216] := rfl
  rw [hff]
  have hc := Sum_calls A0 c0 l0 w hr0 (by omega) hT
  clear hr0 hT hff
  generalize sumF l0 = s at hs hc ⊢
  go_enter Tryd.func15, Tryd.ntmps15
  go_wp2_with fail
  ((with_reducible refine hc.mono ?_); rintro e_ W1 ⟨rfl, rfl⟩)
  clear hc
  go_wp2_with fail
  have hC : Kd.C (Kd.int .u8) (W1.alloc (Obj.cells #[.int .u8 (s % 256), .int .u8 (s / 256 % 256), .int .u8 (s / 65536 % 256), .int .u8 (s / 16777216)] 5)) (some ⟨W1.heap.size, 0, none⟩) 4 [s % 256, s / 256 % 256, s / 65536 % 256, s / 16777216] := C_pre W1 [s % 256, s / 256 % 256, s / 65536 % 256, s / 16777216] [] 5 (by simp) _ rfl
  ((with_reducible refine (concat_two' (W1.heap.size + 1) A0 (some ⟨W1.heap.size, 0, none⟩) c0 4 4 l0 [s % 256, s / 256 % 256, s / 65536 % 256, s / 16777216] _ rfl (pair_cells W1 _ _ _ _).1 (pair_cells W1 _ _ _ _).2 (Kd.C_alloc (Kd.C_alloc HR.out _) _) (Kd.C_alloc hC _) (by omega)).mono ?_); rintro e_ W2 ⟨v0, rfl, ho_, hb_⟩)
  clear hC
  have HO0 := Aside0.mk (Kd.R_lower ho_ (two_below W1 _ _).2); have HB := Aside0.mk (below_step (two_below W1 _ _).1 hb_)
  clear ho_ hb_
  go_wp2
  go_ret
  exact ⟨_, rfl, HO0.out, HB.out⟩
end Go.Proofs.YteidgpaakoeefaaDoor
namespace Go.Proofs.YteidgpaakoeefaaDoor
open Go.RowKit Go.Proofs.YteidgpaakoeefaaDoorW.PrintWords Go.Proofs.YteidgpaakoeefaaDoorW.PrintLast Go.Proofs.YteidgpaakoeefaaDoorW.PrintMore
set_option linter.unusedVariables false
set_option maxRecDepth 100000
set_option linter.unusedSimpArgs false
def RS (base : Nat) (w : World) (v : Value) (xs : List Int) : Prop := ∃ sp, RF base w v xs sp
theorem RS.nil (base : Nat) (w : World) : RS base w (.slice none 0 0) [] := ⟨[], RF.nil _ _⟩
theorem RS.lower {base base' : Nat} {w : World} {v : Value} {xs : List Int} (h : RS base w v xs) (hb : base' ≤ base) : RS base' w v xs := by
  obtain ⟨sp, h⟩ := h
  exact ⟨sp, h.lower hb⟩
theorem RS.below {base : Nat} {w w1 : World} {v : Value} {xs : List Int} (h : RS base w v xs) (hb : Below w.heap.size w w1) : RS base w1 v xs := by
  obtain ⟨sp, h⟩ := h
  exact ⟨sp, h.below hb⟩
theorem RF.take0 {base : Nat} {w : World} {A : Option Addr} {c : Nat} {xs sp : List Int} (h : RF base w (.slice A xs.length c) xs sp) (hx : ∀ x ∈ xs, 0 ≤ x ∧ x < 256) : RS base w (.slice A 0 c) [] := by
  refine ⟨xs ++ sp, ?_⟩
  rcases h with ⟨h1, rfl, rfl⟩ | ⟨g, h1, h2, h3, h4, h5⟩
  · cases h1
    exact RF.nil _ _
  · cases h1
    refine .inr ⟨g, by simp, h2, by simpa using h3, by simpa using h4, fun x hm => ?_⟩
    rcases List.mem_append.1 hm with hm | hm
    · exact hx x hm
    · exact h5 x hm
set_option maxHeartbeats 2000000 in
set_option maxRecDepth 100000 in
theorem grow_nilF (n : Int) (w : World) (h0 : 0 ≤ n) (hn : n ≤ 140737488355328) :
    Calls Tryd.prog 67 #[.slice none 0 0, .int .i64 n] w
      fun e w' => ∃ v, e = .returned v ∧ RS w.heap.size w' v [] ∧ Below w.heap.size w w' := by
  have HB := Aside0.mk (Below.refl w.heap.size w)
  by_cases hz : n = 0
  · subst hz
    go_enter Tryd.func67, Tryd.ntmps67
    go_wp2
    go_ret
    exact ⟨_, rfl, RS.nil _ _, HB.out⟩
  · have hp : 0 < n := by omega
    go_enter Tryd.func67, Tryd.ntmps67
    go_wp2_with (first | ((with_reducible refine gate_builtin (b := .append) (xs := #[.tmp 20, .tmp 21]) rfl ?_); at_builtin; refine wp_rf_zeros (w0 := w) w.heap.size rfl (.tmp 20) (.tmp 21) rfl n rfl rfl hp HB.out (Nat.le_refl _) hn ?_; intro v1 w1 sp1 ho hb; have HO := Aside0.mk ho; clear HB; have HB := Aside0.mk hb; clear ho hb; obtain ⟨A1, c1, hv⟩ := Kd.R_slice HO.out.R; subst hv; obtain ⟨i0, hi0, _, hsz0, _⟩ := info_parts infoB; obtain ⟨hcut, hA⟩ := print_take_int (P := Tryd.prog) (k := .i64) 30 5 Tryd.underlying30 hi0 hsz0 A1 c1 (List.replicate n.toNat 0) 0 (by omega) (by omega) (by have := (Kd.R_reads' HO.out.R).2.1; simpa using this)))
    go_ret
    exact ⟨_, rfl, HO.out.take0 (zeros_range _), HB.out⟩
def CRowF (w : World) (l0 l1 : List Int) (wr : World) (v vi : Value) : Prop :=
  Below w.heap.size w wr ∧ ((vi = .int .i64 0 ∧ RS w.heap.size wr v []) ∨ (vi = .int .i64 1 ∧ RS w.heap.size wr v l0) ∨
    (vi = .int .i64 2 ∧ RS w.heap.size wr v (l0 ++ l1)))
set_option maxHeartbeats 4000000 in
set_option maxRecDepth 100000 in
theorem concat_twoF (g : Nat) (A0 A1 : Option Addr) (c0 c1 : Nat) (l0 l1 : List Int) (w : World)
    (hg0 : w.cell? ⟨g, 0, none⟩ = some (.slice A0 l0.length c0)) (hg1 : w.cell? ⟨g, 1, none⟩ = some (.slice A1 l1.length c1))
    (hr0 : Kd.C (Kd.int .u8) w A0 l0.length l0) (hr1 : Kd.C (Kd.int .u8) w A1 l1.length l1) (hl : l0.length + l1.length ≤ 140737488355328) :
    Calls Tryd.prog 40 #[.slice (some ⟨g, 0, none⟩) 2 2] w
      fun e w' => ∃ v, e = .returned v ∧ RS w.heap.size w' v (l0 ++ l1) ∧ Below w.heap.size w w' := by
  have HB := Aside0.mk (Below.refl w.heap.size w)
  have HR0 := Aside0.mk hr0
  have HR1 := Aside0.mk hr1
  have hlt := World.block_lt_of_cell? w _ hg0
  have HLT : Aside0 (g < w.heap.size) := ⟨hlt⟩
  have HL := Aside0.mk hl
  clear hr0 hr1 hlt
  obtain ⟨n0, hn0⟩ : ∃ n : Nat, n = l0.length := ⟨_, rfl⟩
  obtain ⟨n1, hn1⟩ : ∃ n : Nat, n = l1.length := ⟨_, rfl⟩
  rw [← hn0] at hg0; rw [← hn1] at hg1; rw [← hn0, ← hn1] at hl
  have HN0 := Aside0.mk hn0; have HN1 := Aside0.mk hn1
  clear hn0 hn1
  go_enter Tryd.func40, Tryd.ntmps40
  go_wp2
  go_loop [3, 11] (fun vs vi => CRel n0 n1 vs vi) (fun _ vi => (2 - intOf vi).toNat)
  case atStart => exact .inl ⟨rfl, rfl⟩
  case round =>
    rcases hrel with ⟨rfl, rfl⟩ | ⟨rfl, rfl⟩ | ⟨rfl, rfl⟩
    · go_wp2
      exact ⟨.inr (.inl ⟨rfl, rfl⟩), by simp [intOf]⟩
    · go_wp2
      exact ⟨.inr (.inr ⟨rfl, rfl⟩), by simp [intOf]⟩
    · go_wp2_with fail
      ((with_reducible refine (grow_nilF _ _ (by omega) (by omega)).mono ?_); rintro e_ W1 ⟨v0, rfl, ho_, hb_⟩)
      have HO0 := Aside0.mk ho_
      clear HB; have HB := Aside0.mk hb_; clear ho_ hb_
      have hg0w := (HB.out.cell (p := ⟨g, 0, none⟩) HLT.out).trans hg0
      have hg1w := (HB.out.cell (p := ⟨g, 1, none⟩) HLT.out).trans hg1
      have HG0 := Aside0.mk hg0; have HG1 := Aside0.mk hg1
      clear hg0 hg1
      have HR0' : Aside0 (Kd.C (Kd.int .u8) w A0 n0 l0) := ⟨by rw [HN0.out]; exact HR0.out⟩
      have HR1' : Aside0 (Kd.C (Kd.int .u8) w A1 n1 l1) := ⟨by rw [HN1.out]; exact HR1.out⟩
      clear hg0w hg1w
      go_wp2
      go_loopw [6, 27] (fun v vi wr => CRowF w l0 l1 wr v vi) (fun _ vi _ => (2 - intOf vi).toNat)
      case atStart => exact ⟨HB.out, .inl ⟨rfl, HO0.out⟩⟩
      case round =>
        clear HB HO0
        obtain ⟨hb_, hcase⟩ := hrel
        have HB := Aside0.mk hb_; clear hb_
        have hg0 := (HB.out.cell (p := ⟨g, 0, none⟩) HLT.out).trans HG0.out
        have hg1 := (HB.out.cell (p := ⟨g, 1, none⟩) HLT.out).trans HG1.out
        rcases hcase with ⟨rfl, ho_⟩ | ⟨rfl, ho_⟩ | ⟨rfl, ho_⟩
        · have HO0 := Aside0.mk ho_; clear ho_
          go_wp2_with (first | ((with_reducible refine gate_builtin (b := .append) (xs := #[.tmp 31, .tmp 32]) rfl ?_); at_builtin; obtain ⟨sp0, ho_⟩ := HO0.out; refine wp_rf_rows (w0 := w) w.heap.size rfl (.tmp 31) (.tmp 32) rfl _ [] sp0 l0 _ _ _ rfl rfl ho_ (Kd.C_below HR0'.out HB.out) HB.out (below_size HB.out) (by have := HL.out; have := HN0.out; have := HN1.out; simp; omega) ?_; intro v1 w1 sp1 ho hb hg; have HO1 : Aside0 (RS w.heap.size w1 v1 _) := Aside0.mk ⟨sp1, ho⟩; clear HB; have HB := Aside0.mk hb; clear ho_ ho hb hg))
          refine ⟨⟨HB.out, .inr (.inl ⟨rfl, HO1.out⟩)⟩, by simp [intOf]⟩
        · have HO0 := Aside0.mk ho_; clear ho_
          go_wp2_with (first | ((with_reducible refine gate_builtin (b := .append) (xs := #[.tmp 31, .tmp 32]) rfl ?_); at_builtin; obtain ⟨sp0, ho_⟩ := HO0.out; refine wp_rf_rows (w0 := w) w.heap.size rfl (.tmp 31) (.tmp 32) rfl _ l0 sp0 l1 _ _ _ rfl rfl ho_ (Kd.C_below HR1'.out HB.out) HB.out (below_size HB.out) (by have := HL.out; have := HN0.out; have := HN1.out; omega) ?_; intro v1 w1 sp1 ho hb hg; have HO1 : Aside0 (RS w.heap.size w1 v1 _) := Aside0.mk ⟨sp1, ho⟩; clear HB; have HB := Aside0.mk hb; clear ho_ ho hb hg))
          exact ⟨⟨HB.out, .inr (.inr ⟨rfl, HO1.out⟩)⟩, by simp [intOf]⟩
        · have HO0 := Aside0.mk ho_; clear ho_
          go_wp2
          go_ret
          exact ⟨_, rfl, HO0.out, HB.out⟩
set_option maxHeartbeats 4000000 in
set_option maxRecDepth 100000 in
theorem concat_twoF' (g : Nat) (A0 A1 : Option Addr) (c0 c1 n1 : Nat) (l0 l1 : List Int) (w : World) (hn : l1.length = n1)
    (hg0 : w.cell? ⟨g, 0, none⟩ = some (.slice A0 l0.length c0)) (hg1 : w.cell? ⟨g, 1, none⟩ = some (.slice A1 n1 c1))
    (hr0 : Kd.C (Kd.int .u8) w A0 l0.length l0) (hr1 : Kd.C (Kd.int .u8) w A1 n1 l1) (hl : l0.length + n1 ≤ 140737488355328) :
    Calls Tryd.prog 40 #[.slice (some ⟨g, 0, none⟩) 2 2] w
      fun e w' => ∃ v, e = .returned v ∧ RS w.heap.size w' v (l0 ++ l1) ∧ Below w.heap.size w w' := by
  subst hn
  exact concat_twoF g A0 A1 c0 c1 l0 l1 w hg0 hg1 hr0 hr1 hl
set_option maxHeartbeats 4000000 in
set_option maxRecDepth 100000 in
theorem Frame_callsF (A0 : Option Addr) (c0 : Nat) (l0 : List Int) (w : World)
    (hr0 : Kd.C (Kd.int .u8) w A0 l0.length l0) (hl : l0.length ≤ 140737488355318) (hT : Tab w) :
    Calls Tryd.prog 15 #[.slice A0 l0.length c0] w
      fun e w' => ∃ v, e = .returned v ∧ RS w.heap.size w' v (frameF l0) ∧ Below w.heap.size w w' := by
  have HR := Aside0.mk hr0
  have HT := Aside0.mk hT
  have hs := sumF_range l0
  have hff : frameF l0 = l0 ++ [sumF l0 % 256, sumF l0 / 256 % 256, sumF l0 / 65536 % 256, sumF l0 / 16777216] := rfl
  rw [hff]
  have hc := Sum_calls A0 c0 l0 w hr0 (by omega) hT
  clear hr0 hT hff
  generalize sumF l0 = s at hs hc ⊢
  go_enter Tryd.func15, Tryd.ntmps15
  go_wp2_with fail
  ((with_reducible refine hc.mono ?_); rintro e_ W1 ⟨rfl, rfl⟩)
  clear hc
  go_wp2_with fail
  have hC : Kd.C (Kd.int .u8) (W1.alloc (Obj.cells #[.int .u8 (s % 256), .int .u8 (s / 256 % 256), .int .u8 (s / 65536 % 256), .int .u8 (s / 16777216)] 5)) (some ⟨W1.heap.size, 0, none⟩) 4 [s % 256, s / 256 % 256, s / 65536 % 256, s / 16777216] := C_pre W1 [s % 256, s / 256 % 256, s / 65536 % 256, s / 16777216] [] 5 (by simp) _ rfl
  ((with_reducible refine (concat_twoF' (W1.heap.size + 1) A0 (some ⟨W1.heap.size, 0, none⟩) c0 4 4 l0 [s % 256, s / 256 % 256, s / 65536 % 256, s / 16777216] _ rfl (pair_cells W1 _ _ _ _).1 (pair_cells W1 _ _ _ _).2 (Kd.C_alloc (Kd.C_alloc HR.out _) _) (Kd.C_alloc hC _) (by omega)).mono ?_); rintro e_ W2 ⟨v0, rfl, ho_, hb_⟩)
  clear hC
  have HO0 := Aside0.mk (RS.lower ho_ (two_below W1 _ _).2); have HB := Aside0.mk (below_step (two_below W1 _ _).1 hb_)
  clear ho_ hb_
  go_wp2
  go_ret
  exact ⟨_, rfl, HO0.out, HB.out⟩
end Go.Proofs.YteidgpaakoeefaaDoor
namespace Go.Proofs.YteidgpaakoeefaaDoor
open Go.RowKit Go.Proofs.YteidgpaakoeefaaDoorW.PrintWords Go.Proofs.YteidgpaakoeefaaDoorW.PrintLast Go.Proofs.YteidgpaakoeefaaDoorW.PrintMore
set_option linter.unusedVariables false
set_option linter.unusedSimpArgs false
def rtF (l : List Int) (at_ : Int) : ByteArray × Int × Int :=
  if (tk l at_ 9).2.2 ≠ 0 then (ByteArray.empty, 0, (tk l at_ 9).2.2)
  else if 65536 < (tk l at_ 9).1 then (ByteArray.empty, 0, 2)
  else if (l.length : Int) - (tk l at_ 9).2.1 < (tk l at_ 9).1 then (ByteArray.empty, 0, 3)
  else (strOfNums ((l.take ((tk l at_ 9).2.1 + (tk l at_ 9).1).toNat).drop (tk l at_ 9).2.1.toNat), (tk l at_ 9).2.1 + (tk l at_ 9).1, 0)
set_option maxHeartbeats 4000000 in
set_option maxRecDepth 100000 in
theorem ReadText_calls (A0 : Option Addr) (c0 : Nat) (l0 : List Int) (at_ : Int) (w : World)
    (hr0 : Kd.C (Kd.int .u8) w A0 l0.length l0) (hc0 : l0.length ≤ c0) (hb : ∀ x ∈ l0, 0 ≤ x ∧ x < 256) (hl : l0.length ≤ 140737488355318) (ha1 : -9223372036854775808 ≤ at_) (ha2 : at_ ≤ 9223372036854775807) :
    Calls Tryd.prog 94 #[.slice A0 l0.length c0, .int .i64 at_] w
      fun e w' => e = .returned (.tuple #[.string (rtF l0 at_).1, .int .i64 (rtF l0 at_).2.1, .int .i64 (rtF l0 at_).2.2]) ∧ w' = w := by
  have hc := ReadNum_calls A0 c0 l0 at_ w hr0 hc0 hb hl ha1 ha2
  have hr := tk_range l0 at_ 9 (by decide) (by decide) hb
  rw [show ((128 ^ (9 : Int).toNat : Nat) : Int) = 9223372036854775808 by decide] at hr
  have hf : rtF l0 at_ = if (tk l0 at_ 9).2.2 ≠ 0 then (ByteArray.empty, 0, (tk l0 at_ 9).2.2) else if 65536 < (tk l0 at_ 9).1 then (ByteArray.empty, 0, 2)
    else if (l0.length : Int) - (tk l0 at_ 9).2.1 < (tk l0 at_ 9).1 then (ByteArray.empty, 0, 3)
    else (strOfNums ((l0.take ((tk l0 at_ 9).2.1 + (tk l0 at_ 9).1).toNat).drop (tk l0 at_ 9).2.1.toNat), (tk l0 at_ 9).2.1 + (tk l0 at_ 9).1, 0) := rfl
  rw [hf]
  clear hf
  generalize tk l0 at_ 9 = t at hc hr ⊢
  obtain ⟨z, p, e⟩ := t
  simp only [] at hc hr ⊢
  have hsub : wrap64 ((l0.length : Int) - p) = (l0.length : Int) - p := by simp only [wrap64]; omega
  by_cases h1 : e ≠ 0
  · rw [if_pos h1]
    have b1 : (e == 0) = false := beq_eq_false_iff_ne.mpr h1
    have b2 : (e != 0) = true := bne_iff_ne.mpr h1
    clear h1 hr0 hc0 hb hr
    go_enter Tryd.func94, Tryd.ntmps94
    go_wp2_with fail
    ((with_reducible refine hc.mono ?_); rintro e_ W1 ⟨rfl, rfl⟩)
    clear hc
    go_wp2
    go_ret3
    exact ⟨rfl, rfl⟩
  · rw [if_neg h1]
    have he : e = 0 := by omega
    subst he
    clear h1
    by_cases h2 : 65536 < z
    · rw [if_pos h2]
      have d2 : decide (65536 < z) = true := decide_eq_true h2
      clear h2 hr0 hc0 hb hr
      go_enter Tryd.func94, Tryd.ntmps94
      go_wp2_with fail
      ((with_reducible refine hc.mono ?_); rintro e_ W1 ⟨rfl, rfl⟩)
      clear hc
      go_wp2
      go_ret3
      exact ⟨rfl, rfl⟩
    · rw [if_neg h2]
      have d2 : decide (65536 < z) = false := decide_eq_false h2
      by_cases h3 : (l0.length : Int) - p < z
      · rw [if_pos h3]
        have d3 : decide ((l0.length : Int) - p < z) = true := decide_eq_true h3
        clear h2 h3 hr0 hc0 hb
        go_enter Tryd.func94, Tryd.ntmps94
        go_wp2_with fail
        ((with_reducible refine hc.mono ?_); rintro e_ W1 ⟨rfl, rfl⟩)
        clear hc
        go_wp2
        go_ret3
        exact ⟨rfl, rfl⟩
      · rw [if_neg h3]
        have d3 : decide ((l0.length : Int) - p < z) = false := decide_eq_false h3
        obtain ⟨i0, hi0, _, hsz0, _⟩ := info_parts infoB
        have hadd : wrap64 (p + z) = p + z := by simp only [wrap64]; omega
        obtain ⟨A1, hcut, hA, hc1⟩ := print_mid_of (P := Tryd.prog) (Value.int .u8) (0 : Int) 30 5 .i64 .i64 Tryd.underlying30 hi0 hsz0 A0 c0 l0 p (p + z) (by omega) (by omega) (by omega) hc0
        have hC1 : Kd.C (Kd.int .u8) w A1 ((l0.take (p + z).toNat).drop p.toNat).length ((l0.take (p + z).toNat).drop p.toNat) := Kd.C_of_reads (h1 := fun _ => rfl) (hA w (Kd.reads_of_C hr0))
        have s1 := Kd.C_string (P := Tryd.prog) (c := c0 - p.toNat) Tryd.underlying30 Tryd.underlying5 Tryd.underlying9 hC1
        have hlen : ((l0.take (p + z).toNat).drop p.toNat).length = z.toNat := by rw [List.length_drop, List.length_take]; omega
        rw [hlen] at s1
        generalize strOfNums ((l0.take (p + z).toNat).drop p.toNat) = S at s1 ⊢
        have hcut' : ∀ W : World, (Instr.slice 30 (.slice A0 l0.length c0) (some (.int .i64 p)) (some (.int .i64 (p + z))) none).run Tryd.prog W = .ok (.slice A1 z.toNat (c0 - p.toNat)) W := by
          intro W; have := hcut W; rw [hlen] at this; exact this
        clear h2 h3 hr0 hb hA hC1 hcut hc1 hlen
        go_enter Tryd.func94, Tryd.ntmps94
        go_wp2_with fail
        ((with_reducible refine hc.mono ?_); rintro e_ W1 ⟨rfl, rfl⟩)
        clear hc
        go_wp2
        go_ret3
        rw [hadd]
        exact ⟨rfl, rfl⟩
end Go.Proofs.YteidgpaakoeefaaDoor
namespace Go.Proofs.YteidgpaakoeefaaDoor
open Go.RowKit Go.Proofs.YteidgpaakoeefaaDoorW.PrintWords Go.Proofs.YteidgpaakoeefaaDoorW.PrintLast Go.Proofs.YteidgpaakoeefaaDoorW.PrintMore
set_option linter.unusedVariables false
set_option linter.unusedSimpArgs false
theorem C_preM (w : World) (xs : List Int) (rest : List Value) (ty : TypeId) (fr : Nat × Nat) (hl : xs.length ≤ 9223372036854775807) (w1 : World) (hw : w1 = w.alloc (Obj.cells (xs.map (Value.int .u8) ++ rest).toArray ty fr)) :
    Kd.C (Kd.int .u8) w1 (some ⟨w.heap.size, 0, none⟩) xs.length xs := by
  subst hw
  refine C_of_cells hl (fun j x hx => ?_)
  have hj : j < xs.length := (List.getElem?_eq_some_iff.1 hx).1
  have h1 : (xs.map (Value.int .u8) ++ rest)[j]? = some (.int .u8 x) := by rw [List.getElem?_append_left (by simpa using hj), List.getElem?_map, hx]; rfl
  rw [World.cell?_alloc_mark]
  simpa using h1
theorem conv_mark (w : World) (C : Array Value) (n : Nat) : (convert 30 30 (.slice (some ⟨w.heap.size, 0, none⟩) n n)).run Tryd.prog (w.alloc (Obj.cells C 5)) =
    .ok (.slice (some ⟨w.heap.size, 0, none⟩) n n) (w.alloc (Obj.cells C 5 (C.size, C.size + 1))) := by
  have hsh : (w.alloc (.cells C 5)).shape? w.heap.size = some (5, C.size) := by
    have : (w.alloc (.cells C 5)).heap[w.heap.size]? = some (.cells C 5) := by
      show (w.heap.push (.cells C 5))[w.heap.size]? = _
      simp
    unfold World.shape?
    rw [this]
  have hfr : (w.alloc (.cells C 5)).freeze ⟨w.heap.size, C.size, none⟩ 1 = w.alloc (.cells C 5 (C.size, C.size + 1)) := by
    have hm : ∀ (a : Array Obj) (x : Obj) (f : Obj → Obj), (a.push x).modify a.size f = a.push (f x) := by
      intro a x f
      apply Array.ext
      · simp
      · intro i h1 h2
        simp only [Array.getElem_modify, Array.getElem_push]
        by_cases h : a.size = i
        · subst h
          simp
        · have hi : i < a.size := by simp at h1; omega
          simp [h, hi]
    unfold World.freeze
    rw [if_neg (by decide)]
    show ({ w.alloc (.cells C 5) with heap := (w.heap.push (.cells C 5)).modify w.heap.size _ } : World) = _
    rw [hm]
    rfl
  simp [convert, run_underlying Tryd.underlying30, run_underlying Tryd.underlying5, markStringish, hsh]
  exact hfr
end Go.Proofs.YteidgpaakoeefaaDoor
namespace Go.Proofs.YteidgpaakoeefaaDoor
open Go.RowKit Go.Proofs.YteidgpaakoeefaaDoorW.PrintWords Go.Proofs.YteidgpaakoeefaaDoorW.PrintLast Go.Proofs.YteidgpaakoeefaaDoorW.PrintMore
set_option linter.unusedVariables false
set_option linter.unusedSimpArgs false
def vl (z : Nat) : Nat := (venc z).length
theorem vl_lt {z : Nat} (h : z < 128) : vl z = 1 := by rw [vl, venc_lt h]; rfl
theorem vl_ge {z : Nat} (h : ¬ z < 128) : vl z = 1 + vl (z / 128) := by rw [vl, venc_ge h, List.length_cons, ← vl]; omega
end Go.Proofs.YteidgpaakoeefaaDoor
namespace Go.Proofs.YteidgpaakoeefaaDoor
open Go.RowKit Go.Proofs.YteidgpaakoeefaaDoorW.PrintWords Go.Proofs.YteidgpaakoeefaaDoorW.PrintLast Go.Proofs.YteidgpaakoeefaaDoorW.PrintMore
set_option linter.unusedVariables false
set_option linter.unusedSimpArgs false
theorem rdw_venc (most : Int) : ∀ (k z : Nat), z < k → ∀ (rest : List Int) (i : Nat) (acc : Int), (i : Int) + vl z ≤ most → most ≤ 10 → (i ≤ 9 → z * 128 ^ i < 18446744073709551616) → (0 < i → 0 < z) →
    rdw most (venc z ++ rest) i acc = (acc + (z : Int) * (128 ^ i : Nat), (i : Int) + (vl z : Int), (0 : Int))
  | 0, z, h, _, _, _, _, _, _, _ => by omega
  | k + 1, z, h, rest, i, acc, hm, hm2, hb, hp => by
    have hvp : 0 < vl z := venc_pos z
    have hi9 : i ≤ 9 := by omega
    have hb := hb hi9
    by_cases hz : z < 128
    · rw [vl_lt hz] at hm ⊢
      rw [venc_lt hz, List.singleton_append, rdw]
      have h9 : ¬ ((i : Int) = most ∨ ((i : Int) = 9 ∧ (1 : Int) < (z : Int))) := by
        rintro (h1 | ⟨h1, h2⟩)
        · omega
        · have : i = 9 := by omega
          subst this
          rw [show 128 ^ 9 = 9223372036854775808 by decide] at hb
          omega
      rw [if_neg h9, if_pos (by omega), if_neg (by omega), Int.toNat_natCast]
      rfl
    · rw [vl_ge hz] at hm ⊢
      rw [venc_ge hz, List.cons_append, rdw]
      have hvp2 : 0 < vl (z / 128) := venc_pos _
      have hi8 : i ≤ 8 := by omega
      have h9 : ¬ ((i : Int) = most ∨ ((i : Int) = 9 ∧ (1 : Int) < ((z % 128 + 128 : Nat) : Int))) := by omega
      rw [if_neg h9, if_neg (by omega), Int.toNat_natCast]
      have ih := rdw_venc most k (z / 128) (by omega) rest (i + 1) (acc + (((z % 128 + 128 : Nat) : Int) - 128) * (128 ^ i : Nat)) (by omega) hm2 (by
        intro _
        rw [Nat.pow_succ]
        have h1 : z / 128 * (128 ^ i * 128) = z / 128 * 128 * 128 ^ i := by rw [Nat.mul_comm (128 ^ i), Nat.mul_assoc]
        have h2 : z / 128 * 128 * 128 ^ i ≤ z * 128 ^ i := Nat.mul_le_mul_right _ (by omega)
        omega) (by omega)
      rw [show ((i : Int) + 1) = ((i + 1 : Nat) : Int) by omega, ih]
      congr 1
      · rw [Nat.pow_succ]
        have h3 : (z : Int) = (z % 128 : Nat) + 128 * ((z / 128 : Nat) : Int) := by omega
        have h4 : (z : Int) * ((128 ^ i : Nat) : Int) = ((z % 128 : Nat) : Int) * ((128 ^ i : Nat) : Int) + 128 * ((z / 128 : Nat) : Int) * ((128 ^ i : Nat) : Int) := by
          conv => lhs; rw [h3]
          rw [Int.add_mul]
        rw [h4, show (((z % 128 + 128 : Nat) : Int) - 128) = ((z % 128 : Nat) : Int) by omega, Int.natCast_mul, Int.mul_comm ((128 ^ i : Nat) : Int), ← Int.mul_assoc, Int.mul_comm ((z / 128 : Nat) : Int), Int.add_assoc]
        rfl
      · rw [show ((i : Int) + ((1 + vl (z / 128) : Nat) : Int)) = ((i + 1 : Nat) : Int) + (vl (z / 128) : Int) by omega]
theorem tk_venc (a r : List Int) (z : Nat) (most : Int) (h10 : most ≤ 10) (hv : (vl z : Int) ≤ most) (hz : z < 18446744073709551616) :
    tk (a ++ venc z ++ r) a.length most = ((z : Int), (a.length : Int) + (vl z : Int), (0 : Int)) := by
  have hl : ((a ++ venc z ++ r).length : Int) = a.length + (venc z).length + r.length := by simp; omega
  have hd : (a ++ venc z ++ r).drop (a.length : Int).toNat = venc z ++ r := by
    rw [Int.toNat_natCast, List.append_assoc, List.drop_left]
  have h := rdw_venc most (z + 1) z (by omega) r 0 0 (by omega) h10 (by intro _; simpa using hz) (by omega)
  rw [show ((0 : Nat) : Int) = 0 from rfl] at h
  rw [tk, if_neg (by omega), hd, h]
  simp
theorem vl9 {z : Nat} (h : z < 9223372036854775808) : vl z ≤ 9 := venc_len 8 _ (by omega)
theorem vl10 {z : Nat} (h : z < 18446744073709551616) : vl z ≤ 10 := venc_len 9 _ (by omega)
theorem uz_zz (n : Int) : uz (zz n) = n := by
  unfold zz uz; split <;> split <;> omega
theorem zz_uz (z : Int) (h : 0 ≤ z) : zz (uz z) = z := by
  unfold zz uz; split <;> split <;> omega
theorem rdw_back (most : Int) : ∀ (l : List Int) (i : Nat) (acc : Int), (∀ x ∈ l, 0 ≤ x ∧ x < 256) → (rdw most l i acc).2.2 = 0 →
    ∃ z : Nat, (rdw most l i acc).1 = acc + z * (128 ^ i : Nat) ∧ (rdw most l i acc).2.1 = i + vl z ∧ l.take (vl z) = venc z ∧ (0 < i → 0 < z) ∧ vl z ≤ l.length
  | [], i, acc, _, h => by
    rw [rdw] at h; split at h <;> simp at h
  | c :: cs, i, acc, hb, h => by
    have hc := hb c List.mem_cons_self
    rw [rdw] at h ⊢
    by_cases e1 : (i : Int) = most ∨ ((i : Int) = 9 ∧ 1 < c)
    · rw [if_pos e1] at h; simp at h
    · rw [if_neg e1] at h ⊢
      by_cases e2 : c < 128
      · rw [if_pos e2] at h ⊢
        by_cases e3 : c = 0 ∧ 0 < (i : Int)
        · rw [if_pos e3] at h; simp at h
        · rw [if_neg e3]
          refine ⟨c.toNat, ?_, ?_, ?_, by omega, ?_⟩
          · rw [Int.toNat_natCast, Int.toNat_of_nonneg hc.1]
          · rw [vl_lt (by omega)]; rfl
          · rw [vl_lt (by omega), venc_lt (by omega)]; simp; omega
          · rw [vl_lt (by omega)]; simp
      · rw [if_neg e2] at h ⊢
        have hcast : ((i : Int) + 1) = ((i + 1 : Nat) : Int) := by omega
        rw [hcast] at h ⊢
        obtain ⟨z, h1, h2, h3, h4, h5⟩ := rdw_back most cs (i + 1) _ (fun x hx => hb x (List.mem_cons_of_mem _ hx)) h
        have hz0 := h4 (by omega)
        have hge : ¬ (128 * z + (c - 128).toNat) < 128 := by omega
        have hdiv : (128 * z + (c - 128).toNat) / 128 = z := by omega
        have hmod : (128 * z + (c - 128).toNat) % 128 = (c - 128).toNat := by omega
        refine ⟨128 * z + (c - 128).toNat, ?_, ?_, ?_, by omega, ?_⟩
        · rw [h1, Int.toNat_natCast, Nat.pow_succ]
          rw [show ((128 * z + (c - 128).toNat : Nat) : Int) = 128 * (z : Int) + (c - 128) by omega, Int.add_mul, Int.natCast_mul, Int.mul_comm ((128 ^ i : Nat) : Int), ← Int.mul_assoc, Int.mul_comm (z : Int)]
          rw [Int.add_assoc, Int.add_comm ((c - 128) * _)]
          rfl
        · rw [h2, vl_ge hge, hdiv]; omega
        · rw [vl_ge hge, hdiv, venc_ge hge, hdiv, hmod, Nat.add_comm 1, List.take_succ_cons, h3]
          congr 1
          omega
        · rw [vl_ge hge, hdiv, List.length_cons]; omega
theorem tk_back (l : List Int) (at_ most : Int) (hb : ∀ x ∈ l, 0 ≤ x ∧ x < 256) (h : (tk l at_ most).2.2 = 0) :
    0 ≤ at_ ∧ at_ ≤ (tk l at_ most).2.1 ∧ (tk l at_ most).2.1 ≤ l.length ∧ (l.take (tk l at_ most).2.1.toNat).drop at_.toNat = venc (tk l at_ most).1.toNat := by
  rw [tk] at h ⊢
  by_cases e1 : at_ < 0 ∨ (l.length : Int) < at_
  · rw [if_pos e1] at h; simp at h
  · rw [if_neg e1] at h ⊢
    by_cases e2 : (rdw most (l.drop at_.toNat) 0 0).2.2 = 0
    · rw [if_pos e2]
      obtain ⟨z, h1, h2, h3, _, h5⟩ := rdw_back most (l.drop at_.toNat) 0 0 (fun x hx => hb x (List.mem_of_mem_drop hx)) e2
      rw [show ((0 : Nat) : Int) = 0 from rfl] at h1 h2
      have hl : (l.drop at_.toNat).length = l.length - at_.toNat := List.length_drop
      have hz : (rdw most (l.drop at_.toNat) 0 0).1 = (z : Int) := by rw [h1]; simp
      rw [hz, h2]
      simp only []
      refine ⟨by omega, by omega, by omega, ?_⟩
      simp only [Int.toNat_natCast]
      rw [← h3, List.drop_take]
      congr 1
      omega
    · rw [if_neg e2] at h
      exact absurd h e2
theorem str_bytes (s : ByteArray) : strOfNums (bytesOf s) = s := by
  obtain ⟨⟨l⟩⟩ := s
  unfold strOfNums bytesOf
  simp only [List.map_map]
  have : (l.map ((fun n : Int => UInt8.ofNat n.toNat) ∘ fun b : UInt8 => (b.toNat : Int))) = l := by
    conv => rhs; rw [← List.map_id l]
    apply List.map_congr_left
    intro b _
    simp
  rw [this]
theorem rt_back (a r : List Int) (s : ByteArray) (h : ¬ (65536 : Int) < (s.size : Int)) :
    rtF (a ++ venc s.size ++ bytesOf s ++ r) a.length = (s, (a.length : Int) + (vl s.size : Int) + (s.size : Int), (0 : Int)) := by
  have ht : tk (a ++ venc s.size ++ bytesOf s ++ r) a.length 9 = ((s.size : Int), (a.length : Int) + (vl s.size : Int), (0 : Int)) := by
    rw [List.append_assoc (a ++ venc s.size)]
    exact tk_venc a _ s.size 9 (by decide) (by have := vl9 (z := s.size) (by omega); omega) (by omega)
  have hbl := bytesOf_length s
  have hvl : (venc s.size).length = vl s.size := rfl
  have hl : (a ++ venc s.size ++ bytesOf s ++ r).length = a.length + vl s.size + s.size + r.length := by simp [hbl, hvl]; omega
  have htk : ((a ++ venc s.size ++ bytesOf s ++ r).take (a.length + vl s.size + s.size)).drop (a.length + vl s.size) = bytesOf s := by
    have e1 : a.length + vl s.size + s.size = (a ++ venc s.size ++ bytesOf s).length := by simp [hbl, hvl]; omega
    have e2 : a.length + vl s.size = (a ++ venc s.size).length := by simp [hvl]
    rw [e1, List.take_left, e2, List.drop_left]
  rw [rtF, ht]
  simp only []
  rw [if_neg (by simp), if_neg h, if_neg (by omega)]
  rw [show ((a.length : Int) + (vl s.size : Int) + (s.size : Int)).toNat = a.length + vl s.size + s.size by omega, show ((a.length : Int) + (vl s.size : Int)).toNat = a.length + vl s.size by omega, htk, str_bytes]
end Go.Proofs.YteidgpaakoeefaaDoor
namespace Go.Proofs.YteidgpaakoeefaaDoor
open Go.RowKit Go.Proofs.YteidgpaakoeefaaDoorW.PrintWords Go.Proofs.YteidgpaakoeefaaDoorW.PrintLast Go.Proofs.YteidgpaakoeefaaDoorW.PrintMore
set_option linter.unusedVariables false
set_option linter.unusedSimpArgs false
def val : List Int → Int
  | [] => 0
  | c :: cs => c % 128 + 128 * val cs
end Go.Proofs.YteidgpaakoeefaaDoor
namespace Go.Proofs.YteidgpaakoeefaaDoor
open Go.RowKit Go.Proofs.YteidgpaakoeefaaDoorW.PrintWords Go.Proofs.YteidgpaakoeefaaDoorW.PrintLast Go.Proofs.YteidgpaakoeefaaDoorW.PrintMore
set_option linter.unusedVariables false
set_option maxRecDepth 100000
set_option linter.unusedSimpArgs false
theorem infoSt : (Tryd.prog.info? 9).map (fun i => (i.zero, i.size, i.bytes)) = some (some (.string ByteArray.empty), 1, 16) := by kernel_rfl
def wasT (L : Nat → List Int) (n : Nat) : List ByteArray := (List.range n).map (fun k => strOfNums (L k))
theorem wasT_succ (L : Nat → List Int) (n : Nat) : wasT L (n + 1) = wasT L n ++ [strOfNums (L n)] := by simp [wasT, List.range_succ]
theorem wasT_len (L : Nat → List Int) (n : Nat) : (wasT L n).length = n := by simp [wasT]
theorem grown_set {W w : World} {g j : Nat} {v : Value} (h : W.grownBy w (some g)) : W.grownBy (w.setCell ⟨g, j, none⟩ v) (some g) := by
  have h2 := Below.setCell (B := g) (a := w) (w := w) ⟨rfl, rfl, rfl, Nat.le_refl _, fun _ _ => rfl⟩ (p := ⟨g, j, none⟩) (Nat.le_refl _) v
  refine ⟨h2.os.trans h.os, h2.tape.trans h.tape, h2.output.trans h.output, Nat.le_trans h.size h2.size, fun k hk hne => ?_⟩
  rw [Below.heap_setCell w ⟨g, j, none⟩ v k (fun e => hne (by rw [e]))]
  exact h.block k hk hne
theorem grown_drewN {W w : World} {row : Option Nat} (h : W.grownBy w row) (n : Nat) : W.grownBy (w.drewN n) row := ⟨h.os, h.tape, h.output, h.size, h.block⟩
theorem grown_back {W w : World} {g : Nat} (h : W.grownBy w (some g)) (hg : w.heap[g]? = W.heap[g]?) : Below W.heap.size W w :=
  ⟨h.os, h.tape, h.output, h.size, fun k hk => by
    by_cases e : k = g
    · rw [e]; exact hg
    · exact h.block k hk (fun e2 => e (by injection e2))⟩
theorem xor255 (x : Int) (h0 : 0 ≤ x) (h1 : x < 256) : bits .xor .u8 x 255 = 255 - x := by
  obtain ⟨n, rfl⟩ : ∃ n : Nat, x = (n : Int) := ⟨x.toNat, by omega⟩
  have h : ∀ n : Fin 256, bits .xor .u8 ((n.val : Nat) : Int) 255 = 255 - ((n.val : Nat) : Int) := by decide +kernel
  exact h ⟨n, by omega⟩
theorem C_str1 (w : World) (x : ByteArray) (ty : TypeId) : Kd.C Kd.string (w.alloc (.cells #[.string x] ty)) (some ⟨w.heap.size, 0, none⟩) 1 [x] := by
  refine ⟨rfl, by decide, fun _ => ⟨_, rfl, fun j p hj => ⟨[.string p], rfl, rfl, fun i u hu => ?_⟩⟩⟩
  have hj0 : j = 0 := by
    have := (List.getElem?_eq_some_iff.1 hj).1
    simpa using this
  subst hj0
  simp only [List.getElem?_cons_zero, Option.some.injEq] at hj
  subst hj
  cases i with
  | zero =>
    simp only [List.getElem?_cons_zero, Option.some.injEq] at hu
    subst hu
    rw [add_plain]
    unfold World.cell?
    rw [(MapKept.heap_alloc w _).1]
    rfl
  | succ i => simp at hu
def Fl (M : List Int) (k : Int) (cs : Array Value) : Prop := cs.size = M.length ∧ ∀ j : Nat, j < M.length → cs[j]? = some (.int .u8 (if (j : Int) < k then 255 - rd M (j : Int) else rd M (j : Int)))
theorem Fl.start (M : List Int) : Fl M 0 (M.map (Value.int .u8)).toArray := ⟨by simp, fun j hj => by
  rw [if_neg (by omega)]
  simp [rd_get' hj, hj]⟩
theorem Fl.stop {M : List Int} {cs : Array Value} (h : Fl M 0 cs) : cs = (M.map (Value.int .u8)).toArray := by
  apply Array.ext
  · simp [h.1]
  · intro i h1 h2
    have hi : i < M.length := by rw [← h.1]; exact h1
    have := h.2 i hi
    rw [if_neg (by omega), Array.getElem?_eq_getElem h1, Option.some.injEq] at this
    rw [this]
    simp [rd_get' hi]
theorem Fl.step {M : List Int} {k : Int} {cs : Array Value} (h : Fl M k cs) (h0 : 0 ≤ k) (h1 : k < M.length) :
    Fl M (k + 1) (cs.setIfInBounds k.toNat (.int .u8 (255 - rd M k))) := by
  refine ⟨by simpa using h.1, fun j hj => ?_⟩
  by_cases e : j = k.toNat
  · subst e
    rw [Array.getElem?_setIfInBounds_self_of_lt (by rw [h.1]; exact hj), if_pos (by omega), Int.toNat_of_nonneg h0]
  · rw [Array.getElem?_setIfInBounds_ne (by omega), h.2 j hj]
    by_cases hk : (j : Int) < k
    · rw [if_pos hk, if_pos (by omega)]
    · rw [if_neg hk, if_neg (by omega)]
def Bk (M : List Int) (k : Int) (cs : Array Value) : Prop := cs.size = M.length ∧ ∀ j : Nat, j < M.length → cs[j]? = some (.int .u8 (if (j : Int) < k then rd M (j : Int) else 255 - rd M (j : Int)))
theorem Bk.start {M : List Int} {k : Int} {cs : Array Value} (h : Fl M k cs) (hk : (M.length : Int) ≤ k) : Bk M 0 cs := ⟨h.1, fun j hj => by
  rw [h.2 j hj, if_pos (by omega), if_neg (by omega)]⟩
theorem Bk.stop {M : List Int} {k : Int} {cs : Array Value} (h : Bk M k cs) (hk : (M.length : Int) ≤ k) : cs = (M.map (Value.int .u8)).toArray :=
  Fl.stop ⟨h.1, fun j hj => by rw [h.2 j hj, if_pos (by omega), if_neg (by omega)]⟩
theorem Bk.step {M : List Int} {k : Int} {cs : Array Value} (h : Bk M k cs) (h0 : 0 ≤ k) (h1 : k < M.length) :
    Bk M (k + 1) (cs.setIfInBounds k.toNat (.int .u8 (rd M k))) := by
  refine ⟨by simpa using h.1, fun j hj => ?_⟩
  by_cases e : j = k.toNat
  · subst e
    rw [Array.getElem?_setIfInBounds_self_of_lt (by rw [h.1]; exact hj), if_pos (by omega), Int.toNat_of_nonneg h0]
  · rw [Array.getElem?_setIfInBounds_ne (by omega), h.2 j hj]
    by_cases hk : (j : Int) < k
    · rw [if_pos hk, if_pos (by omega)]
    · rw [if_neg hk, if_neg (by omega)]
theorem cut_cap (A : Option Addr) (m c : Nat) (hc : m ≤ c) (W : World) : (Instr.slice 30 (.slice A m c) none (some (.int .i64 (c : Int))) none).run Tryd.prog W = .ok (.slice A c c) W := by
  obtain ⟨i0, hi0, _, hsz0, _⟩ := info_parts infoB
  have ht := Tryd.underlying30
  have hel : Tryd.prog.elem 30 = 5 := by simp [Program.elem, ht]
  have hu : Tryd.prog.underlying 30 = some (.slice (Tryd.prog.elem 30)) := by rw [hel]; exact ht
  have ha : (A.map fun x => x.add 0) = A := by cases A <;> simp [Addr.add]
  rw [run_slice_h W 30 A m c hu .i64 (c : Int) (by omega) (by omega), hel]
  simp [sizeOf, typeInfo, hi0, hsz0, sliced, Result.andThen, ha]
theorem RF.form {base : Nat} {w : World} {v : Value} {xs sp : List Int} (h : RF base w v xs sp) :
    ∃ A, v = .slice A xs.length (xs ++ sp).length ∧ ((A = none ∧ xs ++ sp = []) ∨ ∃ g, A = some ⟨g, 0, none⟩ ∧ w.heap[g]? = some (.cells ((xs ++ sp).map (Value.int .u8)).toArray 5 (0, 0))) ∧ (∀ x ∈ sp, 0 ≤ x ∧ x < 256) ∧ (xs ++ sp).length ≤ 9223372036854775807 := by
  rcases h with ⟨rfl, rfl, rfl⟩ | ⟨g, rfl, h2, h3, h4, h5⟩
  · exact ⟨none, rfl, .inl ⟨rfl, rfl⟩, by simp, by simp⟩
  · exact ⟨_, by rw [List.length_append], .inr ⟨g, rfl, h3⟩, h5, by rw [List.length_append]; simpa [maxLen] using h4⟩
theorem RF.move {base : Nat} {w w1 : World} {v : Value} {xs sp : List Int} (h : RF base w v xs sp) (hm : ∀ b, v.ownBlock = some b → b < w.heap.size → w1.heap[b]? = w.heap[b]?) : RF base w1 v xs sp := by
  rcases h with h | ⟨g, h1, h2, h3, h4⟩
  · exact .inl h
  · refine .inr ⟨g, h1, h2, ?_, h4⟩
    rw [hm g (by rw [h1]; rfl) (Array.getElem?_eq_some_iff.1 h3).1]
    exact h3
def St (W1 : World) (A : Option Addr) (M : List Int) (F : Array Value → Prop) (wr : World) : Prop :=
  (A = none ∧ M = [] ∧ Below W1.heap.size W1 wr) ∨ ∃ g cs, A = some ⟨g, 0, none⟩ ∧ W1.grownBy wr (some g) ∧ wr.heap[g]? = some (.cells cs 5 (0, 0)) ∧ F cs
theorem St.far {W1 wr : World} {A : Option Addr} {M : List Int} {F : Array Value → Prop} (h : St W1 A M F wr) {b : Nat} (hb : b < W1.heap.size) (hne : ∀ o, A ≠ some ⟨b, o, none⟩) : wr.heap[b]? = W1.heap[b]? := by
  rcases h with ⟨_, _, h⟩ | ⟨g, cs, rfl, h, _⟩
  · exact h.block b hb
  · exact h.block b hb (fun e => by injection e with e; subst e; exact hne 0 rfl)
theorem St.drewN {W1 wr : World} {A : Option Addr} {M : List Int} {F : Array Value → Prop} (h : St W1 A M F wr) (k : Nat) : St W1 A M F (wr.drewN k) := by
  rcases h with ⟨h1, h2, h⟩ | ⟨g, cs, rfl, h, h3⟩
  · exact .inl ⟨h1, h2, pw_below_drewN h k⟩
  · exact .inr ⟨g, cs, rfl, grown_drewN h k, h3⟩
theorem St.imp {W1 wr : World} {A : Option Addr} {M : List Int} {F G : Array Value → Prop} (h : St W1 A M F wr) (hi : ∀ cs, F cs → G cs) : St W1 A M G wr := by
  rcases h with h | ⟨g, cs, h1, h2, h3, h4⟩
  · exact .inl h
  · exact .inr ⟨g, cs, h1, h2, h3, hi _ h4⟩
theorem St.back {W1 wr : World} {A : Option Addr} {M : List Int} {F : Array Value → Prop} (h : St W1 A M F wr) (hF : ∀ cs, F cs → cs = (M.map (Value.int .u8)).toArray)
    (hA : ∀ g, A = some ⟨g, 0, none⟩ → W1.heap[g]? = some (.cells (M.map (Value.int .u8)).toArray 5 (0, 0))) : Below W1.heap.size W1 wr := by
  rcases h with ⟨_, _, h⟩ | ⟨g, cs, h1, h2, h3, h4⟩
  · exact h
  · exact grown_back h2 (by rw [h3, hA g h1, hF cs h4])
theorem St.start {W1 wr : World} {A : Option Addr} {M : List Int} (hb : Below W1.heap.size W1 wr)
    (hA : (A = none ∧ M = []) ∨ ∃ g, A = some ⟨g, 0, none⟩ ∧ W1.heap[g]? = some (.cells (M.map (Value.int .u8)).toArray 5 (0, 0))) : St W1 A M (Fl M 0) wr := by
  rcases hA with ⟨h1, h2⟩ | ⟨g, h1, h2⟩
  · exact .inl ⟨h1, h2, hb⟩
  · exact .inr ⟨g, _, h1, grown_of_below hb _, by rw [hb.block g (Array.getElem?_eq_some_iff.1 h2).1]; exact h2, Fl.start M⟩
theorem St.at {W1 wr : World} {A : Option Addr} {M : List Int} {F : Array Value → Prop} (h : St W1 A M F wr) {k : Int} (h0 : 0 ≤ k) (h1 : k < M.length) :
    ∃ g cs, A = some ⟨g, 0, none⟩ ∧ W1.grownBy wr (some g) ∧ wr.heap[g]? = some (.cells cs 5 (0, 0)) ∧ F cs := by
  rcases h with ⟨_, rfl, _⟩ | h
  · simp at h1; omega
  · exact h
theorem rdOf_wasT (L : Nat → List Int) (n k : Nat) (hk : k < n) : rdOf ByteArray.empty (wasT L n) (k : Int) = strOfNums (L k) := by
  simp [rdOf, wasT, hk]
set_option maxHeartbeats 4000000 in
set_option maxRecDepth 100000 in
theorem Owned_calls (gl n : Nat) (V : Nat → Value) (L S : Nat → List Int) (w : World) (base : Nat) (h0 : 0 < n) (hn : n ≤ 1000)
    (hcells : ∀ k, k < n → w.cell? ⟨gl, k, none⟩ = some (V k)) (hown : ∀ k, k < n → RF base w (V k) (L k) (S k)) (hrange : ∀ k, k < n → ∀ x ∈ L k, 0 ≤ x ∧ x < 256)
    (hdist : ∀ i j, i < n → j < n → i ≠ j → (V i).ownBlock = none ∨ (V i).ownBlock ≠ (V j).ownBlock) (hgl : ∀ k, k < n → (V k).ownBlock ≠ some gl) :
    Calls Tryd.prog 14 #[.slice (some ⟨gl, 0, none⟩) n n] w fun e w' => e = .returned (.bool true) ∧ Below w.heap.size w w' := by
  have HC := Aside0.mk hcells; have HO := Aside0.mk hown; have HX := Aside0.mk hrange; have HD := Aside0.mk hdist; have HG := Aside0.mk hgl
  clear hcells hown hrange hdist hgl
  have HGL : Aside0 (gl < w.heap.size) := ⟨World.block_lt_of_cell? w _ (HC.out 0 h0)⟩
  go_enter Tryd.func14, Tryd.ntmps14
  go_wp2
  go_loopw [3, 4] (fun v vi wr => ∃ i : Int, vi = .int .i64 i ∧ 0 ≤ i ∧ i ≤ (n : Int) ∧ Aside0 (Kd.R Kd.string 9 wr w.heap.size (fun _ => True) v (wasT L i.toNat)) ∧ Aside0 (Below w.heap.size w wr)) (fun _ vi _ => ((n : Int) - intOf vi).toNat)
  case atStart => exact ⟨0, rfl, by omega, by omega, ⟨Kd.R_nil _ _ _ _ _⟩, ⟨Below.refl _ _⟩⟩
  case round =>
    obtain ⟨i, rfl, hi0, hi1, HS, HB⟩ := hrel
    by_cases hx : i < (n : Int)
    · have dx : decide (i < (n : Int)) = true := decide_eq_true hx
      have hk : i.toNat < n := by omega
      obtain ⟨A, c, hv⟩ := Kd.R_slice (HO.out i.toNat hk).R
      have hcell := (HB.out.cell (p := ⟨gl, i.toNat, none⟩) HGL.out).trans (HC.out i.toNat hk)
      have hCr := (Kd.R_reads' (hv ▸ (HO.out i.toNat hk).R)).2.2
      have hconv := Kd.C_string (P := Tryd.prog) Tryd.underlying30 Tryd.underlying5 Tryd.underlying9 (c := c) (Kd.C_below hCr HB.out)
      have hsu := wasT_succ L i.toNat
      have hle := wasT_len L i.toNat
      rw [hv] at hcell
      generalize strOfNums (L i.toNat) = x at hconv hsu
      generalize (L i.toNat).length = m at hcell hconv
      generalize wasT L i.toNat = ws at HS hsu hle
      rw [show i.toNat + 1 = (i + 1).toNat by omega] at hsu
      have HSU := Aside0.mk hsu; have HLE := Aside0.mk hle
      clear hsu hle hCr hv
      go_wp2_with (first | ((with_reducible refine gate_builtin (b := .append) (xs := #[.tmp 16, .tmp 22]) rfl ?_); at_builtin; refine Kd.R_append_rows Kd.string (w0 := w) w.heap.size rfl (.tmp 16) (.tmp 22) 72 9 (.string ByteArray.empty) 16 rfl Tryd.underlying72 infoSt rfl (by decide) (by omega) _ ws [x] _ _ _ (fun _ => True) (fun _ => False) rfl rfl ?aO ?aR (fun _ _ h => h) (fun _ h => h.elim) ?aF ?aB ?aS ?aL ?_; (case aR => exact (C_str1 wr x _)); (case aB => exact below_alloc HB.out _); (case aF => exact (fun _ _ => trivial)); (case aO => exact Kd.R_alloc HS.out _); (case aS => exact (below_size (below_alloc HB.out _))); (case aL => (have := HLE.out; omega)); intro v1 w1 ho hb hg hat; have HS1 := Aside0.mk ho; clear HB HS; have HB := Aside0.mk hb; clear ho hb hg hat))
      exact ⟨⟨i + 1, rfl, by omega, by omega, ⟨by rw [HSU.out]; exact HS1.out⟩, HB⟩, by simp only [intOf]; omega⟩
    · have dx : decide (i < (n : Int)) = false := decide_eq_false hx
      have hie : i.toNat = n := by omega
      rw [hie] at HS
      obtain ⟨gw, cw, hv, hgw, hgw2, _⟩ := Kd.R_form HS.out (by rw [wasT_len]; exact h0)
      rw [wasT_len] at hv
      subst hv
      have HW : Aside0 (∀ k : Nat, k < n → wr.cell? ⟨gw, k, none⟩ = some (.string (strOfNums (L k)))) := ⟨fun k hk => by
        have := (Kd.R_celln ByteArray.empty HS.out (k : Int) (by omega) (by omega)).1
        rw [Int.toNat_natCast, rdOf_wasT L n k hk] at this
        exact this⟩
      have HGW := Aside0.mk hgw; have HGW2 := Aside0.mk hgw2
      clear hgw hgw2 HS
      obtain ⟨W1, hW1⟩ : ∃ W, W = wr := ⟨_, rfl⟩
      subst hW1
      go_wp2
      go_loopw [5] (fun vi wr => ∃ i : Int, vi = .int .i64 i ∧ 0 ≤ i ∧ i ≤ (n : Int) ∧ Aside0 (Below W1.heap.size W1 wr)) (fun vi _ => ((n : Int) - intOf vi).toNat)
      case atStart => exact ⟨0, rfl, by omega, by omega, ⟨Below.refl _ _⟩⟩
      case round =>
        clear dx hx hi0 hi1 hie
        obtain ⟨i, rfl, hi0, hi1, HB2⟩ := hrel
        by_cases hx : i < (n : Int)
        · have dx : decide (i < (n : Int)) = true := decide_eq_true hx
          have hk : i.toNat < n := by omega
          obtain ⟨A, hvi, hA, hSr, hcm⟩ := RF.form (HO.out i.toNat hk)
          have HLT : Aside0 (w.heap.size ≤ W1.heap.size) := ⟨below_size HB.out⟩
          have hcell := (HB2.out.cell (p := ⟨gl, i.toNat, none⟩) (Nat.lt_of_lt_of_le HGL.out HLT.out)).trans ((HB.out.cell (p := ⟨gl, i.toNat, none⟩) HGL.out).trans (HC.out i.toNat hk))
          rw [hvi] at hcell
          have hMr : ∀ x ∈ L i.toNat ++ S i.toNat, 0 ≤ x ∧ x < 256 := fun x hx => (List.mem_append.1 hx).elim (HX.out i.toNat hk x) (hSr x)
          have hml : (L i.toNat).length ≤ (L i.toNat ++ S i.toNat).length := by simp
          have hA1 : (A = none ∧ L i.toNat ++ S i.toNat = []) ∨ ∃ g, A = some ⟨g, 0, none⟩ ∧ W1.heap[g]? = some (.cells ((L i.toNat ++ S i.toNat).map (Value.int .u8)).toArray 5 (0, 0)) := by
            rcases hA with hA | ⟨g, h1, h2⟩
            · exact .inl hA
            · exact .inr ⟨g, h1, by rw [HB.out.block g (Array.getElem?_eq_some_iff.1 h2).1]; exact h2⟩
          have HAlt : Aside0 (∀ b o, A = some ⟨b, o, none⟩ → b < w.heap.size) := ⟨fun b o e => by
            rcases hA with ⟨h1, _⟩ | ⟨g, h1, h2⟩
            · rw [h1] at e; cases e
            · rw [h1] at e; cases e; exact (Array.getElem?_eq_some_iff.1 h2).1⟩
          have HNgl : Aside0 (∀ o, A ≠ some ⟨gl, o, none⟩) := ⟨fun o e => HG.out i.toNat hk (by rw [hvi, e]; rfl)⟩
          have HNrow : Aside0 (∀ j, j < n → j ≠ i.toNat → ∀ b, (V j).ownBlock = some b → ∀ o, A ≠ some ⟨b, o, none⟩) := ⟨fun j hj hne b hb o e => by
            have hb2 : (V i.toNat).ownBlock = some b := by rw [hvi, e]; rfl
            rcases HD.out j i.toNat hj hk hne with h | h
            · rw [h] at hb; cases hb
            · exact h (hb.trans hb2.symm)⟩
          clear hvi hSr hA
          generalize L i.toNat ++ S i.toNat = M at hcell hMr hml hA1 hcm
          generalize (L i.toNat).length = m at hcell hml
          obtain ⟨c, hc⟩ : ∃ c, c = M.length := ⟨_, rfl⟩
          rw [← hc] at hcell hml hcm
          have hcut := cut_cap A m c hml
          have HM := Aside0.mk hMr; have HA1 := Aside0.mk hA1; have HCL := Aside0.mk hc
          clear hMr hA1 hc
          go_wp2
          go_quiet (fail)
          go_wp2
          go_loopw [7] (fun vk wr => ∃ k : Int, vk = .int .i64 k ∧ 0 ≤ k ∧ k ≤ (c : Int) ∧ Aside0 (St W1 A M (Fl M k) wr)) (fun vk _ => ((c : Int) - intOf vk).toNat)
          case atStart => exact ⟨0, rfl, by omega, by omega, ⟨(St.start HB2.out HA1.out).drewN _⟩⟩
          case round =>
            obtain ⟨k, rfl, hk0, hk1, HS⟩ := hrel
            by_cases hy : k < (c : Int)
            · have dy : decide (k < (c : Int)) = true := decide_eq_true hy
              obtain ⟨g, cs, rfl, hgr, hcs, hF⟩ := HS.out.at hk0 (by have := HCL.out; omega)
              have hcl : wr.cell? ⟨g, k.toNat, none⟩ = some (.int .u8 (rd M k)) := by
                rw [blk_cell hcs, hF.2 _ (by have := HCL.out; omega), if_neg (by omega), Int.toNat_of_nonneg hk0]
              have hfr := blk_frozen hcs k.toNat
              obtain ⟨x, hxx⟩ : ∃ x, x = rd M k := ⟨_, rfl⟩
              have hrr := rd_mem HM.out hk0 (by have := HCL.out; omega)
              rw [← hxx] at hcl hrr
              have hxo := xor255 x hrr.1 hrr.2
              have HF := Aside0.mk hF; have HGR := Aside0.mk hgr; have HCS := Aside0.mk hcs; have HXX := Aside0.mk hxx; have HXO := Aside0.mk hxo
              clear hF hgr hcs hxx hxo hrr HS
              go_wp2
              refine ⟨⟨k + 1, rfl, by omega, by omega, ⟨.inr ⟨g, _, rfl, grown_set HGR.out, blk_put HCS.out k.toNat _ rfl, ?_⟩⟩⟩, by simp only [intOf]; omega⟩
              rw [HXO.out, HXX.out]
              exact HF.out.step hk0 (by have := HCL.out; omega)
            · have dy : decide (k < (c : Int)) = false := decide_eq_false hy
              have hkc : k = (c : Int) := by omega
              subst hkc
              go_wp2
              go_loopw [8] (fun vj wr => ∃ j : Int, vj = .int .i64 j ∧ 0 ≤ j ∧ j ≤ (n : Int) ∧ Aside0 (St W1 A M (Fl M (c : Int)) wr)) (fun vj _ => ((n : Int) - intOf vj).toNat)
              case atStart => exact ⟨0, rfl, by omega, by omega, HS⟩
              case round =>
                clear HS
                obtain ⟨j, rfl, hj0, hj1, HS⟩ := hrel
                by_cases hz : j < (n : Int)
                · have dz : decide (j < (n : Int)) = true := decide_eq_true hz
                  by_cases hji : j = i
                  · subst hji
                    have e1 : decide (j = j) = true := decide_eq_true rfl
                    have e2 : decide (j ≠ j) = false := decide_eq_false (by simp)
                    have e3 : (j != j) = false := by simp
                    have e4 : (j == j) = true := by simp
                    go_wp2
                    go_quiet (fail)
                    go_wp2
                    exact ⟨⟨j + 1, rfl, by omega, by omega, ⟨HS.out.drewN _⟩⟩, by simp only [intOf]; omega⟩
                  · have e1 : decide (j = i) = false := decide_eq_false hji
                    have e2 : decide (j ≠ i) = true := decide_eq_true hji
                    have e3 : (j != i) = true := by simp [hji]
                    have e4 : (j == i) = false := by simp [hji]
                    have hjk : j.toNat < n := by omega
                    obtain ⟨B, b, hvj⟩ := Kd.R_slice (HO.out j.toNat hjk).R
                    have hcj : wr.cell? ⟨gl, j.toNat, none⟩ = some (V j.toNat) := by
                      have h1 := HS.out.far (b := gl) (Nat.lt_of_lt_of_le HGL.out HLT.out) HNgl.out
                      rw [World.cell?_of_block (a := ⟨gl, j.toNat, none⟩) h1]
                      exact (HB.out.cell (p := ⟨gl, j.toNat, none⟩) HGL.out).trans (HC.out j.toNat hjk)
                    have hcw : wr.cell? ⟨gw, j.toNat, none⟩ = some (.string (strOfNums (L j.toNat))) := by
                      have h1 := HS.out.far (b := gw) HGW2.out (fun o e => by have := HAlt.out _ _ e; have := HGW.out; omega)
                      rw [World.cell?_of_block (a := ⟨gw, j.toNat, none⟩) h1]
                      exact HW.out j.toNat hjk
                    have hrf := ((HO.out j.toNat hjk).below HB.out).move (w1 := wr) (fun b hb hlt => HS.out.far hlt (HNrow.out j.toNat hjk (by omega) b hb))
                    have hCr := (Kd.R_reads' (hvj ▸ hrf.R)).2.2
                    have hconv := fun q => Kd.C_string (P := Tryd.prog) Tryd.underlying30 Tryd.underlying5 Tryd.underlying9 (c := b) (Kd.C_drewN hCr q)
                    rw [hvj] at hcj
                    clear hrf hCr hvj
                    generalize strOfNums (L j.toNat) = x at hcw hconv
                    generalize (L j.toNat).length = mj at hcj hconv
                    have e6 : decide (x = x) = true := by simp
                    go_wp2
                    go_quiet (fail)
                    go_wp2
                    exact ⟨⟨j + 1, rfl, by omega, by omega, ⟨HS.out.drewN _⟩⟩, by simp only [intOf]; omega⟩
                · have dz : decide (j < (n : Int)) = false := decide_eq_false hz
                  go_wp2
                  go_loopw [9] (fun vk wr => ∃ k : Int, vk = .int .i64 k ∧ 0 ≤ k ∧ k ≤ (c : Int) ∧ Aside0 (St W1 A M (Bk M k) wr)) (fun vk _ => ((c : Int) - intOf vk).toNat)
                  case atStart => exact ⟨0, rfl, by omega, by omega, ⟨HS.out.imp (fun cs h => Bk.start h (by have := HCL.out; omega))⟩⟩
                  case round =>
                    clear HS dy hy hk0 hk1
                    obtain ⟨k, rfl, hk0, hk1, HS⟩ := hrel
                    by_cases hy : k < (c : Int)
                    · have dy : decide (k < (c : Int)) = true := decide_eq_true hy
                      obtain ⟨g, cs, rfl, hgr, hcs, hF⟩ := HS.out.at hk0 (by have := HCL.out; omega)
                      have hcl : wr.cell? ⟨g, k.toNat, none⟩ = some (.int .u8 (255 - rd M k)) := by
                        rw [blk_cell hcs, hF.2 _ (by have := HCL.out; omega), if_neg (by omega), Int.toNat_of_nonneg hk0]
                      have hfr := blk_frozen hcs k.toNat
                      have hrr := rd_mem HM.out hk0 (by have := HCL.out; omega)
                      have hxo := xor255 (255 - rd M k) (by omega) (by omega)
                      rw [show 255 - (255 - rd M k) = rd M k by omega] at hxo
                      obtain ⟨y, hyy⟩ : ∃ y, y = 255 - rd M k := ⟨_, rfl⟩
                      rw [← hyy] at hcl hxo
                      have HF := Aside0.mk hF; have HGR := Aside0.mk hgr; have HCS := Aside0.mk hcs; have HXO := Aside0.mk hxo
                      clear hF hgr hcs hyy hxo hrr HS
                      go_wp2
                      refine ⟨⟨k + 1, rfl, by omega, by omega, ⟨.inr ⟨g, _, rfl, grown_set HGR.out, blk_put HCS.out k.toNat _ rfl, ?_⟩⟩⟩, by simp only [intOf]; omega⟩
                      rw [HXO.out]
                      exact HF.out.step hk0 (by have := HCL.out; omega)
                    · have dy : decide (k < (c : Int)) = false := decide_eq_false hy
                      go_wp2
                      exact ⟨⟨i + 1, rfl, by omega, by omega, ⟨HS.out.back (fun cs h => h.stop (by have := HCL.out; omega)) (fun g e => by
                        rcases HA1.out with ⟨h1, _⟩ | ⟨g2, h1, h2⟩
                        · rw [h1] at e; cases e
                        · rw [h1] at e; cases e; exact h2)⟩⟩, by simp only [intOf]; omega⟩
        · have dx : decide (i < (n : Int)) = false := decide_eq_false hx
          go_wp2
          go_ret
          exact ⟨rfl, below_then HB.out (below_size HB.out) HB2.out⟩
end Go.Proofs.YteidgpaakoeefaaDoor
namespace Go.Proofs.YteidgpaakoeefaaDoor
open Go.RowKit Go.Proofs.YteidgpaakoeefaaDoorW.PrintWords Go.Proofs.YteidgpaakoeefaaDoorW.PrintLast Go.Proofs.YteidgpaakoeefaaDoorW.PrintMore
set_option linter.unusedVariables false
set_option linter.unusedSimpArgs false
def nibN (i : Nat) : Nat := (nib.getD i 0).toNat
def nstepN (s : Nat) : Nat := (s / 16) ^^^ nibN (s % 16)
theorem nibN_lt (i : Nat) : nibN i < 4294967296 := by
  have := nib_range i
  unfold nibN; omega
theorem nibN_cast (i : Nat) : ((nibN i : Nat) : Int) = nib.getD i 0 := by
  have := nib_range i
  unfold nibN; omega
theorem nstepN_lt (s : Nat) (h : s < 4294967296) : nstepN s < 4294967296 := by
  have h1 := nibN_lt (s % 16)
  exact Nat.xor_lt_two_pow (n := 32) (by omega) (by omega)
theorem nstep_cast (s : Nat) (h : s < 4294967296) : nstep (s : Int) = ((nstepN s : Nat) : Int) := by
  have h15 := u32_and15 (s : Int) (by omega) (by omega)
  unfold nstep
  rw [h15, show ((s : Int) % 16).toNat = s % 16 by omega, ← nibN_cast, show (s : Int) / 16 = ((s / 16 : Nat) : Int) by omega, u32_xor_nat _ _ (by omega) (nibN_lt _)]
  rfl
theorem split16 (y : Nat) : 16 * (y / 16) ^^^ y % 16 = y := by
  have := Nat.two_pow_add_eq_or_of_lt (i := 4) (b := y % 16) (by omega) (y / 16)
  rw [show 2 ^ 4 * (y / 16) + y % 16 = y by omega] at this
  have hx : 2 ^ 4 * (y / 16) ^^^ y % 16 = 2 ^ 4 * (y / 16) ||| y % 16 := by
    apply Nat.eq_of_testBit_eq
    intro i
    rw [Nat.testBit_xor, Nat.testBit_or, Nat.testBit_two_pow_mul, show (16 : Nat) = 2 ^ 4 by rfl, Nat.testBit_mod_two_pow]
    by_cases hi : i < 4
    · have hn : ¬ 4 ≤ i := by omega
      simp [hi, hn]
    · simp [hi]
  rw [show (16 : Nat) * (y / 16) = 2 ^ 4 * (y / 16) by rfl, hx, ← this]
end Go.Proofs.YteidgpaakoeefaaDoor
namespace Go.Proofs.YteidgpaakoeefaaDoor.PIm
open Go.RowKit Go.Proofs.YteidgpaakoeefaaDoorW.PrintWords Go.Proofs.YteidgpaakoeefaaDoorW.PrintLast Go.Proofs.YteidgpaakoeefaaDoorW.PrintMore
attribute [local go_sem] max2_int min2_int max_two min_two max_three min_three max_four min_four   -- for this text's walks alone
set_option linter.unusedVariables false
set_option linter.unusedSimpArgs false
def slices_Equal_byte_byte.l0 : Nat → List Int → List Int → Int → Int → Option (Bool)
  | 0, _, _, _, _ => none
  | k + 1, x0, x1, x12, x13 => if x13 < x12 then (if 0 ≤ x13 then (if x13 < (x0.length : Int) then (if x13 < (x1.length : Int) then (if (rd x0 x13) = (rd x1 x13) then (slices_Equal_byte_byte.l0 k x0 x1 x12 (wrap64 (x13 + 1))) else (some false)) else (none)) else (none)) else (none)) else (some true)
def slices_Equal_byte_byte.f (k : Nat) (l0 : List Int) (l1 : List Int) : Option (Bool) := if (l0.length : Int) = (l1.length : Int) then (slices_Equal_byte_byte.l0 k l0 l1 (l0.length : Int) 0) else (some false)
set_option maxHeartbeats 8000000 in
set_option maxRecDepth 100000 in
theorem slices_Equal_byte_byte.calls (k : Nat) (A0 : Option Addr) (c0 : Nat) (l0 : List Int) (A1 : Option Addr) (c1 : Nat) (l1 : List Int) (r : Bool) (w : World) (hr0 : Kd.C (Kd.int .u8) w A0 l0.length l0) (hc0 : l0.length ≤ c0) (hr1 : Kd.C (Kd.int .u8) w A1 l1.length l1) (hc1 : l1.length ≤ c1) (h : slices_Equal_byte_byte.f k l0 l1 = some r) :
    Calls Tryd.prog 51 #[.slice A0 l0.length c0, .slice A1 l1.length c1] w fun e w' => e = .returned (.bool r) ∧ Drawn0 w w' := by
  have HR0 := Aside0.mk hr0
  have HC0 := Aside0.mk hc0
  clear hr0 hc0
  have HR1 := Aside0.mk hr1
  have HC1 := Aside0.mk hc1
  clear hr1 hc1
  have H : (if (l0.length : Int) = (l1.length : Int) then (slices_Equal_byte_byte.l0 k l0 l1 (l0.length : Int) 0) else (some false)) = some r := h
  clear h
  by_cases c3 : (l0.length : Int) = (l1.length : Int)
  · rw [if_pos c3] at H
    have c3b0 : ((l0.length : Int) == (l1.length : Int)) = true := beq_iff_eq.mpr c3
    have c3b1 : ((l0.length : Int) != (l1.length : Int)) = false := bne_eq_false_iff_eq.mpr c3
    have c3b2 : (l0.length == l1.length) = true := by first | simpa using c3 | (simp at c3 ⊢; omega)
    clear c3
    have H' := Aside0.mk H
    clear H
    go_enter Tryd.func51, Tryd.ntmps51
    go_wp2
    repeat (go_quiet (fail); try go_wp2)
    go_loopg [13] k (fun kq v13 w' => ∃ (x13_1 : Int), v13 = .int .i64 x13_1 ∧ Aside0 (slices_Equal_byte_byte.l0 kq l0 l1 (l0.length : Int) x13_1 = some r) ∧ Aside0 (kq ≤ k) ∧ Drawn0 w w')
    case atStart => exact ⟨(0), (by first | rfl | (simp; done) | (simp [*]; done)), H', ⟨Nat.le_refl _⟩, by repeat (first | exact Drawn0.refl _ | apply Drawn0.step)⟩
    case round =>
      clear H'
      try clear c1
      try clear p2
      try clear c3
      try clear c3b0
      try clear c3b1
      try clear c3b2
      obtain ⟨x13_1, rfl, HA, HK1, ⟨m1, rfl⟩⟩ := hrel
      cases gk with
      | zero => exact absurd HA.out (by simp [slices_Equal_byte_byte.l0])
      | succ k1 =>
        have H := HA.out
        clear HA
        simp only [slices_Equal_byte_byte.l0] at H
        by_cases c4 : x13_1 < (l0.length : Int)
        · rw [if_pos c4] at H
          have c4b0 : decide (x13_1 < (l0.length : Int)) = true := decide_eq_true c4
          clear c4
          by_cases c5 : 0 ≤ x13_1
          · rw [if_pos c5] at H
            have c5b0 : decide (0 ≤ x13_1) = true := decide_eq_true c5
            clear c5
            by_cases c6 : x13_1 < (l0.length : Int)
            · rw [if_pos c6] at H
              have c6b0 : decide (x13_1 < (l0.length : Int)) = true := decide_eq_true c6
              clear c6
              by_cases c7 : x13_1 < (l1.length : Int)
              · rw [if_pos c7] at H
                have c7b0 : decide (x13_1 < (l1.length : Int)) = true := decide_eq_true c7
                clear c7
                by_cases c8 : (rd l0 x13_1) = (rd l1 x13_1)
                · rw [if_pos c8] at H
                  have c8b0 : ((rd l0 x13_1) == (rd l1 x13_1)) = true := beq_iff_eq.mpr c8
                  have c8b1 : ((rd l0 x13_1) != (rd l1 x13_1)) = false := bne_eq_false_iff_eq.mpr c8
                  clear c8
                  have H' := Aside0.mk H
                  clear H
                  have p197 : 0 ≤ (x13_1 : Int) := of_decide_eq_true (by first | (with_reducible assumption) | assumption)
                  have q197 : x13_1 < (l0.length : Int) := of_decide_eq_true (by first | (with_reducible assumption) | assumption)
                  obtain ⟨ad197, e197, hx197_0⟩ := Kd.at_int HR0.out x13_1 p197 q197
                  cases e197
                  replace p197 := eq_true p197
                  replace q197 := eq_true q197
                  have p198 : 0 ≤ (x13_1 : Int) := of_decide_eq_true (by first | (with_reducible assumption) | assumption)
                  have q198 : x13_1 < (l1.length : Int) := of_decide_eq_true (by first | (with_reducible assumption) | assumption)
                  obtain ⟨ad198, e198, hx198_0⟩ := Kd.at_int HR1.out x13_1 p198 q198
                  cases e198
                  replace p198 := eq_true p198
                  replace q198 := eq_true q198
                  go_wp2
                  repeat (go_quiet (fail); try go_wp2)
                  go_roundg k1
                  case measure => have := HK1.out; omega
                  case rel => exact ⟨(wrap64 (x13_1 + 1)), (by first | rfl | (simp; done) | (simp [*]; done)), H', ⟨by have := HK1.out; omega⟩, by repeat (first | exact Drawn0.refl _ | apply Drawn0.step)⟩
                · rw [if_neg c8] at H
                  have c8b0 : ((rd l0 x13_1) == (rd l1 x13_1)) = false := beq_eq_false_iff_ne.mpr c8
                  have c8b1 : ((rd l0 x13_1) != (rd l1 x13_1)) = true := bne_iff_ne.mpr c8
                  obtain rfl := Option.some.inj H
                  have p197 : 0 ≤ (x13_1 : Int) := of_decide_eq_true (by first | (with_reducible assumption) | assumption)
                  have q197 : x13_1 < (l0.length : Int) := of_decide_eq_true (by first | (with_reducible assumption) | assumption)
                  obtain ⟨ad197, e197, hx197_0⟩ := Kd.at_int HR0.out x13_1 p197 q197
                  cases e197
                  replace p197 := eq_true p197
                  replace q197 := eq_true q197
                  have p198 : 0 ≤ (x13_1 : Int) := of_decide_eq_true (by first | (with_reducible assumption) | assumption)
                  have q198 : x13_1 < (l1.length : Int) := of_decide_eq_true (by first | (with_reducible assumption) | assumption)
                  obtain ⟨ad198, e198, hx198_0⟩ := Kd.at_int HR1.out x13_1 p198 q198
                  cases e198
                  replace p198 := eq_true p198
                  replace q198 := eq_true q198
                  go_wp2
                  repeat (go_quiet (fail); try go_wp2)
                  go_ret
                  exact ⟨by first | rfl | (simp; done) | (simp [*]; done), by repeat (first | exact Drawn0.refl _ | apply Drawn0.step)⟩
              · rw [if_neg c7] at H
                exact absurd H (by simp)
            · rw [if_neg c6] at H
              exact absurd H (by simp)
          · rw [if_neg c5] at H
            exact absurd H (by simp)
        · rw [if_neg c4] at H
          have c4b0 : decide (x13_1 < (l0.length : Int)) = false := decide_eq_false c4
          clear c4
          obtain rfl := Option.some.inj H
          go_wp2
          repeat (go_quiet (fail); try go_wp2)
          go_ret
          exact ⟨by first | rfl | (simp; done) | (simp [*]; done), by repeat (first | exact Drawn0.refl _ | apply Drawn0.step)⟩
  · rw [if_neg c3] at H
    have c3b0 : ((l0.length : Int) == (l1.length : Int)) = false := beq_eq_false_iff_ne.mpr c3
    have c3b1 : ((l0.length : Int) != (l1.length : Int)) = true := bne_iff_ne.mpr c3
    have c3b2 : (l0.length == l1.length) = false := by first | simpa using c3 | (simp at c3 ⊢; omega)
    obtain rfl := Option.some.inj H
    go_enter Tryd.func51, Tryd.ntmps51
    go_wp2
    repeat (go_quiet (fail); try go_wp2)
    go_ret
    exact ⟨by first | rfl | (simp; done) | (simp [*]; done), by repeat (first | exact Drawn0.refl _ | apply Drawn0.step)⟩
def tiltyardref02_bytes.f : Nat → Int → Option (List Int)
  | 0, _ => none
  | k + 1, a0 => if a0 < 128 then (some (([(a0) % 256] : List Int))) else ((some (([(IntKind.u64.wrap ((Int.tmod a0 128) + 128)) % 256] : List Int) : List Int)).bind fun y316 => ((tiltyardref02_bytes.f k (IntKind.u64.wrap (Int.tdiv a0 128))).bind fun t319 => (if y316.length + t319.length < 140737488355328 then (some (y316 ++ t319)) else (none))))
set_option maxHeartbeats 8000000 in
set_option maxRecDepth 100000 in
theorem tiltyardref02_bytes.calls (k : Nat) : ∀ (a0 : Int) (r : List Int) (w : World) (h : tiltyardref02_bytes.f k a0 = some r),
    Calls Tryd.prog 90 #[.int .u64 a0] w fun e w' => ∃ v0_ : Value, e = .returned (v0_) ∧ Kd.R (Kd.int .u8) 5 w' w.heap.size (fun _ => True) v0_ r ∧ Below w.heap.size w w' := by
  induction k using Nat.strongRecOn with
  | _ k ih =>
  intro a0 r w h
  cases k with
  | zero => exact absurd h (by simp [tiltyardref02_bytes.f])
  | succ k =>
  simp only [tiltyardref02_bytes.f] at h
  have HB := Aside0.mk (Below.refl w.heap.size w)
  have H : (if a0 < 128 then (some (([(a0) % 256] : List Int))) else ((some (([(IntKind.u64.wrap ((Int.tmod a0 128) + 128)) % 256] : List Int) : List Int)).bind fun y316 => ((tiltyardref02_bytes.f k (IntKind.u64.wrap (Int.tdiv a0 128))).bind fun t319 => (if y316.length + t319.length < 140737488355328 then (some (y316 ++ t319)) else (none))))) = some r := h
  clear h
  by_cases c2 : a0 < 128
  · rw [if_pos c2] at H
    have c2b0 : decide (a0 < 128) = true := decide_eq_true c2
    clear c2
    obtain ⟨y313, hy313⟩ : ∃ y_ : List Int, y_ = (([(a0) % 256] : List Int)) := ⟨_, rfl⟩
    replace H : (some y313) = some r := by first | (rw [hy313]; with_reducible exact H) | (have H2_ := (Option.bind_some _ _).symm.trans H; rw [hy313]; with_reducible exact H2_) | (have H2_ := (Option.bind_some _ _).symm.trans H; with_reducible exact H2_) | with_reducible exact H | (rw [hy313]; exact H) | exact H
    have Ny313 := Aside0.mk hy313
    clear hy313
    obtain rfl := Option.some.inj H
    go_enter Tryd.func90, Tryd.ntmps90
    go_wp2_with (first | ((with_reducible refine gate_dst (N := 7) rfl ?_); refine Kd.R_lit (Kd.int .u8) _ 5 ?hg (N := 7) ?hd (xs := ([(a0) % 256] : List Int)) (inner := [.int .u8 ((a0) % 256)]) (ok := fun _ => True) (okp := fun _ => True) ?hr ?hp (fun _ hk => hk) trivial (Below.refl _ _) (Nat.le_refl _) (by simp) ?_; (case hd => rfl); (case hg => rfl); (case hr => first | (go_simp; done) | (go_simp; rfl)); (case hp => exact (Reps.one (show Kd.M (Kd.int .u8) _ _ _ ((a0) % 256) [.int .u8 ((a0) % 256)] from rfl) (Reps.none _ _))); intro v314 w3 ho4 hb hg_ hnew_; clear hg_ hnew_; (first | rw [← Ny313.out] at ho4 | (simp only [Int.reduceToNat] at ho4; rw [← Ny313.out] at ho4)); have n0_ := Aside0.mk (Kd.R_lower ho4 (below_size (by repeat (first | (with_reducible first | exact HB.out | apply below_alloc | apply pw_below_drewN | apply below_drew1) | exact HB.out)))); have n1_ := Aside0.mk (below_step (by repeat (first | (with_reducible first | exact HB.out | apply below_alloc | apply pw_below_drewN | apply below_drew1) | exact HB.out)) hb); clear HB; have HO315 := n0_; have HB := n1_; clear n0_ n1_; clear hb ho4))
    go_ret
    exact ⟨_, by first | rfl | (simp [errW_none, errW_some] <;> rfl) | (simp [*, errW_none, errW_some] <;> rfl), by (with_reducible repeat (first | apply Kd.R_alloc | apply Kd.R_drewN | apply Kd.R_drew)); exact HO315.out, by repeat (first | (with_reducible first | exact HB.out | apply below_alloc | apply pw_below_drewN | apply below_drew1) | exact HB.out)⟩
  · rw [if_neg c2] at H
    have c2b0 : decide (a0 < 128) = false := decide_eq_false c2
    clear c2
    obtain ⟨y316, hy316⟩ : ∃ y_ : List Int, y_ = (([(IntKind.u64.wrap ((Int.tmod a0 128) + 128)) % 256] : List Int)) := ⟨_, rfl⟩
    replace H : ((tiltyardref02_bytes.f k (IntKind.u64.wrap (Int.tdiv a0 128))).bind fun t319 => (if y316.length + t319.length < 140737488355328 then (some (y316 ++ t319)) else (none))) = some r := by first | (rw [hy316]; with_reducible exact H) | (have H2_ := (Option.bind_some _ _).symm.trans H; rw [hy316]; with_reducible exact H2_) | (have H2_ := (Option.bind_some _ _).symm.trans H; with_reducible exact H2_) | with_reducible exact H | (rw [hy316]; exact H) | exact H
    have Ny316 := Aside0.mk hy316
    clear hy316
    replace H := Option.bind_eq_some_iff.mp H
    obtain ⟨t319, A50, H⟩ := H
    replace H : (if y316.length + t319.length < 140737488355328 then (some (y316 ++ t319)) else (none)) = some r := H
    have A5 := Aside0.mk A50
    clear A50
    by_cases c6 : y316.length + t319.length < 140737488355328
    · rw [if_pos c6] at H
      have LMc6 := Aside0.mk c6
      clear c6
      obtain ⟨y322, hy322⟩ : ∃ y_ : List Int, y_ = (y316 ++ t319) := ⟨_, rfl⟩
      replace H : (some y322) = some r := by first | (rw [hy322]; with_reducible exact H) | (have H2_ := (Option.bind_some _ _).symm.trans H; rw [hy322]; with_reducible exact H2_) | (have H2_ := (Option.bind_some _ _).symm.trans H; with_reducible exact H2_) | with_reducible exact H | (rw [hy322]; exact H) | exact H
      have Ny322 := Aside0.mk hy322
      clear hy322
      obtain rfl := Option.some.inj H
      go_enter Tryd.func90, Tryd.ntmps90
      go_wp2_with (first | ((with_reducible refine gate_dst (N := 12) rfl ?_); refine Kd.R_lit (Kd.int .u8) _ 5 ?hg (N := 12) ?hd (xs := ([(IntKind.u64.wrap ((Int.tmod a0 128) + 128)) % 256] : List Int)) (inner := [.int .u8 ((IntKind.u64.wrap ((Int.tmod a0 128) + 128)) % 256)]) (ok := fun _ => True) (okp := fun _ => True) ?hr ?hp (fun _ hk => hk) trivial (Below.refl _ _) (Nat.le_refl _) (by simp) ?_; (case hd => rfl); (case hg => rfl); (case hr => first | (go_simp; done) | (go_simp; rfl)); (case hp => exact (Reps.one (show Kd.M (Kd.int .u8) _ _ _ ((IntKind.u64.wrap ((Int.tmod a0 128) + 128)) % 256) [.int .u8 ((IntKind.u64.wrap ((Int.tmod a0 128) + 128)) % 256)] from rfl) (Reps.none _ _))); intro v317 w7 ho8 hb hg_ hnew_; clear hg_ hnew_; (first | rw [← Ny316.out] at ho8 | (simp only [Int.reduceToNat] at ho8; rw [← Ny316.out] at ho8)); have n0_ := Aside0.mk (Kd.R_lower ho8 (below_size (by repeat (first | (with_reducible first | exact HB.out | apply below_alloc | apply pw_below_drewN | apply below_drew1) | exact HB.out)))); have n1_ := Aside0.mk (below_step (by repeat (first | (with_reducible first | exact HB.out | apply below_alloc | apply pw_below_drewN | apply below_drew1) | exact HB.out)) hb); clear HB; have HO318 := n0_; have HB := n1_; clear n0_ n1_; clear hb ho8) | ((with_reducible refine gate_callee (f := 90) rfl ?_); refine goesL_ (some 15) rfl rfl Tryd.func90 (by kernel_rfl) rfl #[.int .u64 (IntKind.u64.wrap (Int.tdiv a0 128))] rfl (by (try simp only [List.map_toArray, List.map_cons, List.map_nil]); first | done | rfl | (simp only [List.length_drop, List.length_take]; rfl)) ?_; (with_reducible refine (ih k (by omega) (IntKind.u64.wrap (Int.tdiv a0 128)) t319 _ A5.out).mono ?_); rintro e w9 ⟨v320, rfl, ho0, hb⟩; refine ⟨_, rfl, ?_⟩; have n0_ := Aside0.mk (Kd.R_elder' (by (with_reducible repeat (first | apply Kd.R_alloc | apply Kd.R_drewN | apply Kd.R_drew)); exact HO318.out) (Kd.R_base ho0) hb); have n1_ := Aside0.mk (Kd.R_lower (Kd.R_new' ho0 (Kd.R_lt (by (with_reducible repeat (first | apply Kd.R_alloc | apply Kd.R_drewN | apply Kd.R_drew)); exact HO318.out))) (below_size (by repeat (first | (with_reducible first | exact HB.out | apply below_alloc | apply pw_below_drewN | apply below_drew1) | exact HB.out)))); have n2_ := Aside0.mk (below_step (by repeat (first | (with_reducible first | exact HB.out | apply below_alloc | apply pw_below_drewN | apply below_drew1) | exact HB.out)) hb); clear HO318; clear HB; have HO318 := n0_; have HO321 := n1_; have HB := n2_; clear n0_ n1_ n2_; (try clear hb); (try clear hb2); (try clear hk); (try clear hi); (try clear ho0); obtain ⟨Ao11, co11, eo11⟩ := Kd.R_slice HO321.out; subst eo11) | ((with_reducible refine gate_builtin (b := .append) (xs := #[.tmp 12, .tmp 15]) rfl ?_); at_builtin; refine Kd.R_append_rows (Kd.int .u8) (w0 := w) w.heap.size rfl (.tmp 12) (.tmp 15) 30 5 (.int .u8 0) 1 rfl Tryd.underlying30 info5 rfl (by decide) (by omega) v317 y316 t319 _ _ _ (fun k_ => some k_ ≠ (.slice Ao11 t319.length co11 : Value).ownBlock) (fun _ => False) rfl rfl ?aO ?aR (fun _ _ h => h) (fun _ h => h.elim) ?aF ?aB ?aS ?aL ?_; (case aR => repeat (first | exact (Kd.R_reads' HO321.out).2.2 | (with_reducible refine Kd.C_alloc ?_ _) | (with_reducible refine Kd.C_drewN ?_ _) | (with_reducible refine Kd.C_drew ?_))); (case aB => exact (by repeat (first | (with_reducible first | exact HB.out | apply below_alloc | apply pw_below_drewN | apply below_drew1) | exact HB.out))); (case aF => exact (fun k_ hk => Kd.fresh' (Kd.R_lt (by (with_reducible repeat (first | apply Kd.R_alloc | apply Kd.R_drewN | apply Kd.R_drew)); exact HO321.out)) k_ hk)); (case aO => exact (by (with_reducible repeat (first | apply Kd.R_alloc | apply Kd.R_drewN | apply Kd.R_drew)); exact Kd.R_mono HO318.out (fun _ hk => hk.2))); (case aS => exact (below_size (by repeat (first | (with_reducible first | exact HB.out | apply below_alloc | apply pw_below_drewN | apply below_drew1) | exact HB.out)))); (case aL => have := LMc6.out; omega); intro v323 w10 ho hb hg hat; rw [← Ny322.out] at ho; have n0_ := Aside0.mk (Kd.R_after (ok := (fun _ => True)) (by (with_reducible repeat (first | apply Kd.R_alloc | apply Kd.R_drewN | apply Kd.R_drew)); exact HO321.out) hg hat); have n1_ := Aside0.mk (hb); have n2_ := Aside0.mk (ho); clear HO321; clear HB; clear HO318; have HO321 := n0_; have HB := n1_; have HO324 := n2_; clear n0_ n1_ n2_; clear ho hb hg hat))
      go_ret
      exact ⟨_, by first | rfl | (simp [errW_none, errW_some] <;> rfl) | (simp [*, errW_none, errW_some] <;> rfl), by (with_reducible repeat (first | apply Kd.R_alloc | apply Kd.R_drewN | apply Kd.R_drew)); exact Kd.R_mono HO324.out (fun _ hk => trivial), by repeat (first | (with_reducible first | exact HB.out | apply below_alloc | apply pw_below_drewN | apply below_drew1) | exact HB.out)⟩
    · rw [if_neg c6] at H
      exact absurd H (by simp)
end Go.Proofs.YteidgpaakoeefaaDoor.PIm
namespace Go.Proofs.YteidgpaakoeefaaDoor
open Go.RowKit Go.Proofs.YteidgpaakoeefaaDoorW.PrintWords Go.Proofs.YteidgpaakoeefaaDoorW.PrintLast Go.Proofs.YteidgpaakoeefaaDoorW.PrintMore
set_option linter.unusedVariables false
set_option maxRecDepth 100000
set_option linter.unusedSimpArgs false
def bN (s : Nat) : Nat := if s % 2 = 1 then s / 2 ^^^ 3988292384 else s / 2
theorem bN_high (h u : Nat) : bN (2 * h ^^^ u) = h ^^^ bN u := by
  have h1 : (2 * h ^^^ u) / 2 = h ^^^ u / 2 := by
    have := Nat.xor_div_two_pow (a := 2 * h) (b := u) (n := 1)
    rw [show (2 : Nat) ^ 1 = 2 by rfl, show 2 * h / 2 = h by omega] at this
    exact this
  have h2 : (2 * h ^^^ u) % 2 = u % 2 := by
    have := Nat.xor_mod_two_pow (a := 2 * h) (b := u) (n := 1)
    rw [show (2 : Nat) ^ 1 = 2 by rfl, show 2 * h % 2 = 0 by omega, Nat.zero_xor] at this
    exact this
  unfold bN
  rw [h1, h2]
  split
  · rw [Nat.xor_assoc]
  · rfl
theorem bN_four (s : Nat) : bN (bN (bN (bN s))) = nstepN s := by
  have hs := split16 s
  have hl : ∀ u : Fin 16, bN (bN (bN (bN u.val))) = nibN u.val := by decide +kernel
  have h1 := hl ⟨s % 16, by omega⟩
  have e : bN (bN (bN (bN s))) = s / 16 ^^^ bN (bN (bN (bN (s % 16)))) := by
    conv => lhs; rw [← hs]
    rw [show 16 * (s / 16) = 2 * (8 * (s / 16)) by omega, bN_high, show 8 * (s / 16) = 2 * (4 * (s / 16)) by omega, bN_high, show 4 * (s / 16) = 2 * (2 * (s / 16)) by omega, bN_high, bN_high]
  rw [e]
  unfold nstepN
  rw [← h1]
theorem bN_lt (s : Nat) (h : s < 4294967296) : bN s < 4294967296 := by
  unfold bN
  split
  · exact Nat.xor_lt_two_pow (n := 32) (by omega) (by omega)
  · omega
def bstep (s : Int) : Int := if s % 2 = 1 then bits .xor .u32 (s / 2) 3988292384 else s / 2
theorem bstep_cast (s : Nat) (h : s < 4294967296) : bstep (s : Int) = ((bN s : Nat) : Int) := by
  unfold bstep bN
  by_cases hs : s % 2 = 1
  · rw [if_pos hs, if_pos (by omega), show (s : Int) / 2 = ((s / 2 : Nat) : Int) by omega, show (3988292384 : Int) = ((3988292384 : Nat) : Int) by rfl, u32_xor_nat _ _ (by omega) (by omega)]
  · rw [if_neg hs, if_neg (by omega)]
    omega
def bIt : Nat → Int → Int
  | 0, s => s
  | k + 1, s => bstep (bIt k s)
theorem bIt_range (s : Int) (h0 : 0 ≤ s) (h1 : s < 4294967296) : ∀ k, 0 ≤ bIt k s ∧ bIt k s < 4294967296
  | 0 => ⟨h0, h1⟩
  | k + 1 => by
    have ih := bIt_range s h0 h1 k
    show 0 ≤ bstep (bIt k s) ∧ bstep (bIt k s) < 4294967296
    unfold bstep
    split
    · exact u32_range _ _
    · omega
theorem bIt_eight (s : Int) (h0 : 0 ≤ s) (h1 : s < 4294967296) : bIt 8 s = nstep (nstep s) := by
  obtain ⟨n, rfl⟩ : ∃ n : Nat, s = (n : Int) := ⟨s.toNat, by omega⟩
  have hn : n < 4294967296 := by omega
  have b1 := bN_lt n hn; have b2 := bN_lt _ b1; have b3 := bN_lt _ b2; have b4 := bN_lt _ b3; have b5 := bN_lt _ b4; have b6 := bN_lt _ b5; have b7 := bN_lt _ b6
  simp only [bIt]
  rw [bstep_cast n hn, bstep_cast _ b1, bstep_cast _ b2, bstep_cast _ b3, bstep_cast _ b4, bstep_cast _ b5, bstep_cast _ b6, bstep_cast _ b7, bN_four, bN_four, nstep_cast n hn, nstep_cast _ (nstepN_lt n hn)]
theorem u32_and1 (x : Int) (h0 : 0 ≤ x) (h1 : x < 4294967296) : bits .and .u32 x 1 = x % 2 := bits_mask .u32 32 (by decide) wraps_u32 1 (by decide) x h0 h1
set_option maxHeartbeats 4000000 in
set_option maxRecDepth 100000 in
theorem rSum_calls (A0 : Option Addr) (c0 : Nat) (l0 : List Int) (w : World)
    (hr0 : Kd.C (Kd.int .u8) w A0 l0.length l0) (hl : l0.length ≤ 140737488355328) :
    Calls Tryd.prog 65 #[.slice A0 l0.length c0] w
      fun e w' => e = .returned (.int .i64 (sumF l0)) ∧ w' = w := by
  have HR := Aside0.mk hr0
  clear hr0
  go_enter Tryd.func65, Tryd.ntmps65
  go_wp2
  go_loop [3, 4] (fun vs vi => ∃ (s i : Int), vs = .int .u32 s ∧ vi = .int .i64 i ∧ 0 ≤ i ∧ i ≤ l0.length ∧ 0 ≤ s ∧ s < 4294967296 ∧ Aside0 (s = (l0.take i.toNat).foldl sstep 4294967295)) (fun _ vi => (l0.length - intOf vi).toNat)
  case atStart => exact ⟨_, _, rfl, rfl, by omega, by omega, by omega, by omega, ⟨rfl⟩⟩
  case round =>
    obtain ⟨s, i, rfl, rfl, hi0, hi1, hs0, hs1, HS⟩ := hrel
    by_cases hx : i < l0.length
    · have dx : decide (i < (l0.length : Int)) = true := decide_eq_true hx
      obtain ⟨ad, e, hcell⟩ := Kd.at_int HR.out i hi0 hx
      cases e
      obtain ⟨c, hc⟩ : ∃ c, c = rd l0 i := ⟨_, rfl⟩
      rw [← hc] at hcell
      have HC := Aside0.mk hc; clear hc
      have hr := u32_range s (c % 4294967296)
      obtain ⟨t, ht⟩ : ∃ t, t = bits .xor .u32 s (c % 4294967296) := ⟨_, rfl⟩
      rw [← ht] at hr
      have HTT := Aside0.mk ht
      go_wp2
      rw [← ht]
      clear ht
      go_loop [3, 5] (fun vs vk => ∃ (s k : Int), vs = .int .u32 s ∧ vk = .int .i64 k ∧ 0 ≤ k ∧ k ≤ 8 ∧ Aside0 (s = bIt k.toNat t)) (fun _ vk => (8 - intOf vk).toNat)
      case atStart => exact ⟨_, _, rfl, rfl, by omega, by omega, ⟨rfl⟩⟩
      case round =>
        obtain ⟨u, k, rfl, rfl, hk0, hk1, HU⟩ := hrel
        by_cases hy : k < 8
        · have dy : decide (k < 8) = true := decide_eq_true hy
          have hur := bIt_range t hr.1 hr.2 k.toNat
          rw [← HU.out] at hur
          have h1 := u32_and1 u hur.1 hur.2
          have hst : bIt (k + 1).toNat t = bstep u := by
            rw [show (k + 1).toNat = k.toNat + 1 by omega, HU.out]; rfl
          have HST := Aside0.mk hst; clear hst
          by_cases ho : u % 2 = 1
          · have e1 : decide (bits .and .u32 u 1 = 1) = true := by rw [h1]; exact decide_eq_true ho
            have e2 : (bits .and .u32 u 1 == 1) = true := by rw [h1, ho]; rfl
            have e3 : bits .and .u32 u 1 = 1 := by rw [h1]; exact ho
            go_wp2
            refine ⟨⟨_, k + 1, rfl, rfl, by omega, by omega, ⟨?_⟩⟩, by simp only [intOf]; omega⟩
            rw [HST.out]
            unfold bstep
            rw [if_pos ho]
          · have e1 : decide (bits .and .u32 u 1 = 1) = false := by rw [h1]; exact decide_eq_false ho
            have e2 : (bits .and .u32 u 1 == 1) = false := by rw [h1]; simpa using ho
            have e3 : ¬ bits .and .u32 u 1 = 1 := by rw [h1]; exact ho
            go_wp2
            refine ⟨⟨_, k + 1, rfl, rfl, by omega, by omega, ⟨?_⟩⟩, by simp only [intOf]; omega⟩
            rw [HST.out]
            unfold bstep
            rw [if_neg ho]
        · have dy : decide (k < 8) = false := decide_eq_false hy
          have hu8 : u = sstep s c := by
            rw [HU.out, show k.toNat = 8 by omega, bIt_eight t hr.1 hr.2, HTT.out]
            rfl
          have hrg := sstep_range s c
          rw [← hu8] at hrg
          have HU8 := Aside0.mk hu8
          clear hu8
          go_wp2
          refine ⟨⟨_, _, rfl, rfl, by omega, by omega, hrg.1, hrg.2, ⟨?_⟩⟩, by simp only [intOf]; omega⟩
          rw [fold_take l0 i hi0 hx, ← HS.out, ← HC.out, HU8.out]
    · have dx : decide (i < (l0.length : Int)) = false := decide_eq_false hx
      go_wp2
      go_ret
      have hsf : sumF l0 = 4294967295 - s := by
        rw [HS.out, List.take_of_length_le (by omega)]; rfl
      rw [hsf]
      rw [← max_xor s hs0 hs1]
      have hx2 := u32_range IntKind.u32.max s
      have hx3 : wrap64 (bits .xor .u32 IntKind.u32.max s) = bits .xor .u32 IntKind.u32.max s := by simp only [wrap64]; omega
      rw [hx3]
      exact ⟨rfl, rfl⟩
set_option maxHeartbeats 4000000 in
set_option maxRecDepth 100000 in
/-- Bytes in other memory, and others behind them. -/
theorem copied_callsF (A0 A1 : Option Addr) (c0 c1 n0 n1 : Nat) (l0 l1 : List Int) (w : World) (hn0 : l0.length = n0) (hn1 : l1.length = n1)
    (hr0 : Kd.C (Kd.int .u8) w A0 n0 l0) (hr1 : Kd.C (Kd.int .u8) w A1 n1 l1) (hl : n0 + n1 ≤ 140737488355328) :
    Calls Tryd.prog 66 #[.slice A0 n0 c0, .slice A1 n1 c1] w
      fun e w' => ∃ v, e = .returned v ∧ RS w.heap.size w' v (l0 ++ l1) ∧ Below w.heap.size w w' := by
  have HR0 := Aside0.mk hr0; have HR1 := Aside0.mk hr1; have HN0 := Aside0.mk hn0; have HN1 := Aside0.mk hn1
  clear hr0 hr1 hn0 hn1
  have HB := Aside0.mk (below_alloc (Below.refl w.heap.size w) (.cells #[] 5))
  have HO0 : Aside0 (RF w.heap.size (w.alloc (.cells #[] 5)) (.slice (some ⟨w.heap.size, 0, none⟩) 0 0) [] []) := ⟨.inr ⟨w.heap.size, rfl, Nat.le_refl _, (MapKept.heap_alloc w _).1, by simp, by simp⟩⟩
  go_enter Tryd.func66, Tryd.ntmps66
  go_wp2_with (first | ((with_reducible refine gate_builtin (b := .append) (xs := #[.tmp 5, .tmp 6]) rfl ?_); at_builtin; refine wp_rf_rows (w0 := w) w.heap.size rfl (.tmp 5) (.tmp 6) rfl _ [] [] l0 _ _ _ rfl rfl HO0.out (Kd.C_below HR0.out HB.out) HB.out (below_size HB.out) (by simp; omega) ?_; intro v1 w1 sp1 ho hb hg; have HO1 := Aside0.mk ho; clear HB; have HB := Aside0.mk hb; clear ho hb hg) | ((with_reducible refine gate_builtin (b := .append) (xs := #[.tmp 7, .tmp 8]) rfl ?_); at_builtin; refine wp_rf_rows (w0 := w) w.heap.size rfl (.tmp 7) (.tmp 8) rfl _ l0 sp1 l1 _ _ _ rfl rfl HO1.out (Kd.C_below HR1.out HB.out) HB.out (below_size HB.out) (by have := HN0.out; omega) ?_; intro v2 w2 sp2 ho hb hg; have HO2 := Aside0.mk ho; clear HB; have HB := Aside0.mk hb; clear ho hb hg))
  go_ret
  exact ⟨_, rfl, ⟨sp2, HO2.out⟩, HB.out⟩
end Go.Proofs.YteidgpaakoeefaaDoor
namespace Go.Proofs.YteidgpaakoeefaaDoor
open Go.RowKit Go.Proofs.YteidgpaakoeefaaDoorW.PrintWords Go.Proofs.YteidgpaakoeefaaDoorW.PrintLast Go.Proofs.YteidgpaakoeefaaDoorW.PrintMore
set_option linter.unusedVariables false
set_option maxRecDepth 100000
set_option linter.unusedSimpArgs false
theorem rbytes_venc : ∀ (k z : Nat), z < 128 ^ (k + 1) → k ≤ 20 → z < 18446744073709551616 → PIm.tiltyardref02_bytes.f (k + 1) (z : Int) = some (venc z)
  | 0, z, h, _, _ => by
    unfold PIm.tiltyardref02_bytes.f
    rw [if_pos (by omega), venc_lt (by omega), show (z : Int) % 256 = (z : Int) by omega]
  | k + 1, z, h, hk, hz => by
    unfold PIm.tiltyardref02_bytes.f
    by_cases hs : z < 128
    · rw [if_pos (by omega), venc_lt hs, show (z : Int) % 256 = (z : Int) by omega]
    · have h1 : Int.tmod (z : Int) 128 = ((z % 128 : Nat) : Int) := rfl
      have h2 : Int.tdiv (z : Int) 128 = ((z / 128 : Nat) : Int) := rfl
      have hd : z / 128 < 128 ^ (k + 1) := by
        rw [Nat.div_lt_iff_lt_mul (by decide), ← Nat.pow_succ]; exact h
      have ih := rbytes_venc k (z / 128) hd (by omega) (by omega)
      have hvl := venc_len k (z / 128) hd
      rw [if_neg (by omega), venc_ge hs, h1, h2, w64id _ (by omega) (by omega), w64id _ (by omega) (by omega), ih]
      show (if 1 + (venc (z / 128)).length < 140737488355328 then some ([(((z % 128 : Nat) : Int) + 128) % 256] ++ venc (z / 128)) else none) = _
      rw [if_pos (by omega), show (((z % 128 : Nat) : Int) + 128) % 256 = ((z % 128 + 128 : Nat) : Int) by omega]
      rfl
theorem rbytes_calls (z : Int) (w : World) (h0 : 0 ≤ z) (h1 : z < 18446744073709551616) :
    Calls Tryd.prog 90 #[.int .u64 z] w fun e w' => ∃ A c n, e = .returned (.slice A n c) ∧ (venc z.toNat).length = n ∧ n ≤ 10 ∧ Kd.C (Kd.int .u8) w' A n (venc z.toNat) ∧ Below w.heap.size w w' := by
  have hf : PIm.tiltyardref02_bytes.f 11 z = some (venc z.toNat) := by
    have := rbytes_venc 10 z.toNat (by have : (128 : Nat) ^ (10 + 1) = 151115727451828646838272 := by decide
                                       omega) (by omega) (by omega)
    rwa [show ((z.toNat : Nat) : Int) = z by omega] at this
  refine (PIm.tiltyardref02_bytes.calls 11 z _ w hf).mono ?_
  rintro e w' ⟨v, rfl, hR, hb⟩
  obtain ⟨A, c, rfl⟩ := Kd.R_slice hR
  exact ⟨A, c, _, rfl, rfl, venc_len64 h1, (Kd.R_reads' hR).2.2, hb⟩
set_option maxHeartbeats 4000000 in
set_option maxRecDepth 100000 in
theorem rNum_callsF (A0 : Option Addr) (c0 : Nat) (l0 : List Int) (n : Int) (w : World)
    (hr0 : Kd.C (Kd.int .u8) w A0 l0.length l0) (hl : l0.length ≤ 140737488355318) (hn0 : -9223372036854775808 ≤ n) (hn1 : n ≤ 9223372036854775807) :
    Calls Tryd.prog 63 #[.slice A0 l0.length c0, .int .i64 n] w
      fun e w' => ∃ v, e = .returned (.tuple #[v, .int .i64 (numF l0 n).2]) ∧ RS w.heap.size w' v (numF l0 n).1 ∧ Below w.heap.size w w' := by
  by_cases hn : n < 0
  · have hd : decide (n < 0) = true := decide_eq_true hn
    have hf : numF l0 n = ([], 1) := if_pos hn
    rw [hf]
    clear hn hf
    go_enter Tryd.func63, Tryd.ntmps63
    go_wp2
    go_ret2
    exact ⟨_, rfl, RS.nil _ _, Below.refl _ _⟩
  · have hd : decide (n < 0) = false := decide_eq_false hn
    have hf : numF l0 n = (l0 ++ venc n.toNat, 0) := if_neg hn
    rw [hf]
    have hw : IntKind.u64.wrap n = n := w64id n (by omega) (by omega)
    have HR := Aside0.mk hr0
    have HN := Aside0.mk hn
    clear hn hf hr0
    obtain ⟨m, hm⟩ : ∃ m, m = l0.length := ⟨_, rfl⟩
    rw [← hm] at hl ⊢
    have HM := Aside0.mk hm; clear hm
    go_enter Tryd.func63, Tryd.ntmps63
    go_wp2_with fail
    try rw [hw]
    ((with_reducible refine (rbytes_calls n _ (by have := HN.out; omega) (by omega)).mono ?_); rintro e_ W1 ⟨A1, c1, k, rfl, hk, hk2, hC, hb_⟩)
    have HB := Aside0.mk hb_; have HC := Aside0.mk hC; have HK := Aside0.mk hk
    clear hb_ hC hk
    go_wp2_with fail
    ((with_reducible refine (copied_callsF _ _ _ _ _ _ _ _ _ HM.out.symm HK.out (by rw [HM.out]; exact Kd.C_below HR.out HB.out) HC.out (by omega)).mono ?_); rintro e_ W2 ⟨v0, rfl, ho_, hb_⟩)
    go_wp2
    go_ret2
    exact ⟨_, rfl, ho_.lower (below_size HB.out), below_step HB.out hb_⟩
set_option maxHeartbeats 4000000 in
set_option maxRecDepth 100000 in
theorem rInt_callsF (A0 : Option Addr) (c0 : Nat) (l0 : List Int) (n : Int) (w : World)
    (hr0 : Kd.C (Kd.int .u8) w A0 l0.length l0) (hl : l0.length ≤ 140737488355318) (hn0 : -9223372036854775808 ≤ n) (hn1 : n ≤ 9223372036854775807) :
    Calls Tryd.prog 64 #[.slice A0 l0.length c0, .int .i64 n] w
      fun e w' => ∃ v, e = .returned v ∧ RS w.heap.size w' v (l0 ++ venc (zz n).toNat) ∧ Below w.heap.size w w' := by
  have HR := Aside0.mk hr0
  clear hr0
  obtain ⟨m, hm⟩ : ∃ m, m = l0.length := ⟨_, rfl⟩
  rw [← hm] at hl ⊢
  have HM := Aside0.mk hm; clear hm
  by_cases hn : n < 0
  · have hd : decide (n < 0) = true := decide_eq_true hn
    have hz : -(n + 1) * 2 + 1 = zz n := by unfold zz; rw [if_pos hn]; omega
    have hzr := zz_range n hn0 hn1
    have HZ := Aside0.mk hz; have HZR := Aside0.mk hzr
    clear hz hzr
    go_enter Tryd.func64, Tryd.ntmps64
    go_wp2_with fail
    ((with_reducible refine (rbytes_calls (-(n + 1) * 2 + 1) _ (by rw [HZ.out]; exact HZR.out.1) (by rw [HZ.out]; exact HZR.out.2)).mono ?_); rintro e_ W1 ⟨A1, c1, k, rfl, hk, hk2, hC, hb_⟩)
    rw [HZ.out] at hk hC
    have HB := Aside0.mk hb_; have HC := Aside0.mk hC; have HK := Aside0.mk hk
    clear hb_ hC hk
    go_wp2_with fail
    ((with_reducible refine (copied_callsF _ _ _ _ _ _ _ _ _ HM.out.symm HK.out (by rw [HM.out]; exact Kd.C_below HR.out HB.out) HC.out (by omega)).mono ?_); rintro e_ W2 ⟨v0, rfl, ho_, hb_⟩)
    go_wp2
    go_ret
    exact ⟨_, rfl, ho_.lower (below_size HB.out), below_step HB.out hb_⟩
  · have hd : decide (n < 0) = false := decide_eq_false hn
    have hz : n * 2 = zz n := by unfold zz; rw [if_neg hn]; omega
    have hzr := zz_range n hn0 hn1
    have HZ := Aside0.mk hz; have HZR := Aside0.mk hzr
    clear hz hzr
    go_enter Tryd.func64, Tryd.ntmps64
    go_wp2_with fail
    ((with_reducible refine (rbytes_calls (n * 2) _ (by rw [HZ.out]; exact HZR.out.1) (by rw [HZ.out]; exact HZR.out.2)).mono ?_); rintro e_ W1 ⟨A1, c1, k, rfl, hk, hk2, hC, hb_⟩)
    rw [HZ.out] at hk hC
    have HB := Aside0.mk hb_; have HC := Aside0.mk hC; have HK := Aside0.mk hk
    clear hb_ hC hk
    go_wp2_with fail
    ((with_reducible refine (copied_callsF _ _ _ _ _ _ _ _ _ HM.out.symm HK.out (by rw [HM.out]; exact Kd.C_below HR.out HB.out) HC.out (by omega)).mono ?_); rintro e_ W2 ⟨v0, rfl, ho_, hb_⟩)
    go_wp2
    go_ret
    exact ⟨_, rfl, ho_.lower (below_size HB.out), below_step HB.out hb_⟩
set_option maxHeartbeats 4000000 in
set_option maxRecDepth 100000 in
theorem rFrame_callsF (A0 : Option Addr) (c0 m : Nat) (l0 : List Int) (w : World) (hm : l0.length = m)
    (hr0 : Kd.C (Kd.int .u8) w A0 m l0) (hl : m ≤ 140737488355318) :
    Calls Tryd.prog 38 #[.slice A0 m c0] w
      fun e w' => ∃ v, e = .returned v ∧ RS w.heap.size w' v (frameF l0) ∧ Below w.heap.size w w' := by
  have HM := Aside0.mk hm
  have hc := rSum_calls A0 c0 l0 w (by rw [hm]; exact hr0) (by omega)
  rw [hm] at hc
  have HR := Aside0.mk hr0
  have hs := sumF_range l0
  have hff : frameF l0 = l0 ++ [sumF l0 % 256, sumF l0 / 256 % 256, sumF l0 / 65536 % 256, sumF l0 / 16777216] := rfl
  rw [hff]
  clear hr0 hff hm
  generalize sumF l0 = s at hs hc ⊢
  have t1 : Int.tdiv s 256 = s / 256 := Int.tdiv_eq_ediv_of_nonneg hs.1
  have t2 : Int.tdiv s 65536 = s / 65536 := Int.tdiv_eq_ediv_of_nonneg hs.1
  have t3 : Int.tdiv s 16777216 = s / 16777216 := Int.tdiv_eq_ediv_of_nonneg hs.1
  have t4 : s / 16777216 % 256 = s / 16777216 := by omega
  go_enter Tryd.func38, Tryd.ntmps38
  go_wp2_with fail
  ((with_reducible refine hc.mono ?_); rintro e_ W1 ⟨rfl, rfl⟩)
  clear hc
  go_wp2_with fail
  have hC : Kd.C (Kd.int .u8) (W1.alloc (Obj.cells #[.int .u8 (s % 256), .int .u8 (s / 256 % 256), .int .u8 (s / 65536 % 256), .int .u8 (s / 16777216)] 5)) (some ⟨W1.heap.size, 0, none⟩) 4 [s % 256, s / 256 % 256, s / 65536 % 256, s / 16777216] := C_pre W1 [s % 256, s / 256 % 256, s / 65536 % 256, s / 16777216] [] 5 (by simp) _ rfl
  ((with_reducible refine (copied_callsF A0 (some ⟨W1.heap.size, 0, none⟩) c0 4 m 4 l0 [s % 256, s / 256 % 256, s / 65536 % 256, s / 16777216] _ HM.out rfl (Kd.C_alloc HR.out _) hC (by omega)).mono ?_); rintro e_ W2 ⟨v0, rfl, ho_, hb_⟩)
  have hb1 := below_alloc (Below.refl W1.heap.size W1) (Obj.cells #[.int .u8 (s % 256), .int .u8 (s / 256 % 256), .int .u8 (s / 65536 % 256), .int .u8 (s / 16777216)] 5)
  have HO := Aside0.mk (ho_.lower (below_size hb1)); have HB := Aside0.mk (below_step hb1 hb_)
  clear hC hb1 ho_ hb_
  go_wp2
  go_ret
  exact ⟨_, rfl, HO.out, HB.out⟩
def opF (l : List Int) : List Int × Bool := if l.length < 4 then ([], false) else if frameF (l.take (l.length - 4)) = l then (l.take (l.length - 4), true) else ([], false)
theorem equal_l0 (x y : List Int) (hl : x.length = y.length) (hm : x.length ≤ 9223372036854775806) : ∀ (k i : Nat), i ≤ x.length → x.length < k + i → PIm.slices_Equal_byte_byte.l0 k x y (x.length : Int) (i : Int) = some (decide (x.drop i = y.drop i))
  | 0, i, h, hk => by omega
  | k + 1, i, h, hk => by
    unfold PIm.slices_Equal_byte_byte.l0
    by_cases hi : i < x.length
    · have hi2 : i < y.length := by omega
      rw [if_pos (by omega), if_pos (by omega), if_pos (by omega), if_pos (by omega), rd_get' hi, rd_get' hi2, show x.drop i = x[i] :: x.drop (i + 1) from List.drop_eq_getElem_cons hi, show y.drop i = y[i] :: y.drop (i + 1) from List.drop_eq_getElem_cons hi2]
      by_cases he : x[i] = y[i]
      · rw [if_pos he, show wrap64 ((i : Int) + 1) = ((i + 1 : Nat) : Int) by simp only [wrap64]; omega, equal_l0 x y hl hm k (i + 1) (by omega) (by omega)]
        refine congrArg some (decide_eq_decide.2 ⟨fun h => by rw [he, h], fun h => by injection h⟩)
      · rw [if_neg he]
        refine congrArg some (decide_eq_false fun h => he ?_).symm
        injection h
    · rw [if_neg (by omega), List.drop_of_length_le (by omega), List.drop_of_length_le (by omega)]
      simp
theorem equal_law (x y : List Int) (hm : x.length ≤ 9223372036854775806) : PIm.slices_Equal_byte_byte.f (x.length + 1) x y = some (decide (x = y)) := by
  unfold PIm.slices_Equal_byte_byte.f
  by_cases hl : x.length = y.length
  · rw [if_pos (by omega)]
    have := equal_l0 x y hl hm (x.length + 1) 0 (by omega) (by omega)
    simpa using this
  · rw [if_neg (by omega)]
    have : x ≠ y := fun e => hl (by rw [e])
    simp [this]
theorem Equal_calls (A0 A1 : Option Addr) (c0 c1 n0 n1 : Nat) (x y : List Int) (w : World) (hn0 : x.length = n0) (hn1 : y.length = n1)
    (hr0 : Kd.C (Kd.int .u8) w A0 n0 x) (hc0 : n0 ≤ c0) (hr1 : Kd.C (Kd.int .u8) w A1 n1 y) (hc1 : n1 ≤ c1) (hm : n0 ≤ 9223372036854775806) :
    Calls Tryd.prog 51 #[.slice A0 n0 c0, .slice A1 n1 c1] w fun e w' => e = .returned (.bool (decide (x = y))) ∧ Drawn0 w w' := by
  subst hn0 hn1
  exact PIm.slices_Equal_byte_byte.calls (x.length + 1) A0 c0 x A1 c1 y _ w hr0 hc0 hr1 hc1 (equal_law x y hm)
theorem cutTo (A : Option Addr) (m c j : Nat) (hc : j ≤ c) (W : World) : (Instr.slice 30 (.slice A m c) none (some (.int .i64 (j : Int))) none).run Tryd.prog W = .ok (.slice A j c) W := by
  obtain ⟨i0, hi0, _, hsz0, _⟩ := info_parts infoB
  have ht := Tryd.underlying30
  have hel : Tryd.prog.elem 30 = 5 := by simp [Program.elem, ht]
  have hu : Tryd.prog.underlying 30 = some (.slice (Tryd.prog.elem 30)) := by rw [hel]; exact ht
  have ha : (A.map fun x => x.add 0) = A := by cases A <;> simp [Addr.add]
  rw [run_slice_h W 30 A m c hu .i64 (j : Int) (by omega) (by omega), hel]
  simp [sizeOf, typeInfo, hi0, hsz0, sliced, Result.andThen, ha]
theorem C_first {w : World} {A : Option Addr} {n : Nat} {xs : List Int} (h : Kd.C (Kd.int .u8) w A n xs) (j : Nat) (hj : j ≤ n) : Kd.C (Kd.int .u8) w A j (xs.take j) := by
  have hn : xs.length = n := h.1
  refine ⟨by rw [List.length_take]; omega, Nat.le_trans hj h.2.1, fun h0 => ?_⟩
  obtain ⟨ad, h1, h2⟩ := h.2.2 (by omega)
  exact ⟨ad, h1, fun i p hi => h2 i p (by
    rw [List.getElem?_take] at hi
    split at hi
    · exact hi
    · cases hi)⟩
end Go.Proofs.YteidgpaakoeefaaDoor
namespace Go.Proofs.YteidgpaakoeefaaDoor
open Go.RowKit Go.Proofs.YteidgpaakoeefaaDoorW.PrintWords Go.Proofs.YteidgpaakoeefaaDoorW.PrintLast Go.Proofs.YteidgpaakoeefaaDoorW.PrintMore
set_option linter.unusedVariables false
set_option maxRecDepth 100000
set_option linter.unusedSimpArgs false
theorem frameF_len (l : List Int) : (frameF l).length = l.length + 4 := by simp [frameF]
set_option maxHeartbeats 4000000 in
set_option maxRecDepth 100000 in
theorem Open_callsF (A0 : Option Addr) (c0 : Nat) (l0 : List Int) (w : World)
    (hr0 : Kd.C (Kd.int .u8) w A0 l0.length l0) (hc0 : l0.length ≤ c0) (hl : l0.length ≤ 140737488355318) (hT : Tab w) :
    Calls Tryd.prog 21 #[.slice A0 l0.length c0] w
      fun e w' => ∃ v, e = .returned (.tuple #[v, .bool (opF l0).2]) ∧ RS w.heap.size w' v (opF l0).1 ∧ Below w.heap.size w w' := by
  have HR := Aside0.mk hr0; have HT := Aside0.mk hT
  clear hr0 hT
  by_cases hs : l0.length < 4
  · have hf : opF l0 = ([], false) := if_pos hs
    rw [hf]
    clear hf
    obtain ⟨m, hm⟩ : ∃ m, m = l0.length := ⟨_, rfl⟩
    rw [← hm] at hl hs hc0 ⊢
    clear hm
    have e1 : decide ((m : Int) - 4 < 0) = true := decide_eq_true (by omega)
    go_enter Tryd.func21, Tryd.ntmps21
    go_wp2
    go_ret2
    exact ⟨_, rfl, RS.nil _ _, Below.refl _ _⟩
  · have hf : opF l0 = if frameF (l0.take (l0.length - 4)) = l0 then (l0.take (l0.length - 4), true) else ([], false) := if_neg hs
    obtain ⟨n, hn⟩ : ∃ n, l0.length = n + 4 := ⟨l0.length - 4, by omega⟩
    have hCR := HR.out
    rw [hn] at hCR hl hc0 hf ⊢
    rw [show n + 4 - 4 = n by omega] at hf
    have e1 : decide (((n + 4 : Nat) : Int) - 4 < 0) = false := decide_eq_false (by omega)
    have e0 : ((n + 4 : Nat) : Int) - 4 = (n : Int) := by omega
    have e2 : decide ((n : Int) < 0) = false := decide_eq_false (by omega)
    have hcut := cutTo A0 (n + 4) c0 n (by omega)
    have hC1 := C_first hCR n (by omega)
    have hln : (l0.take n).length = n := by rw [List.length_take]; omega
    have hfr := fun W (h : Kd.C (Kd.int .u8) W A0 n (l0.take n)) (hT : Tab W) => Frame_callsF A0 c0 (l0.take n) W (by rw [hln]; exact h) (by omega) hT
    rw [hln] at hfr
    have hfl : (frameF (l0.take n)).length = n + 4 := by rw [frameF_len, hln]
    by_cases hx : frameF (l0.take n) = l0
    · have hf2 := hf
      rw [if_pos hx] at hf2
      rw [hf2]
      have e3 : decide (frameF (l0.take n) = l0) = true := decide_eq_true hx
      have HLN := Aside0.mk hln; have HFL := Aside0.mk hfl; have HN := Aside0.mk hn; have HCR := Aside0.mk hCR; have HC1 := Aside0.mk hC1; have E3 := Aside0.mk e3; have HX := Aside0.mk hx
      clear hln hfl hn hCR hC1 hf hf2 e3 hx
      go_enter Tryd.func21, Tryd.ntmps21
      go_wp2_with fail
      ((with_reducible refine (hfr _ HC1.out HT.out).mono ?_); rintro e_ W1 ⟨v0, rfl, ho_, hb_⟩)
      obtain ⟨sp0, ho0⟩ := ho_
      obtain ⟨A1, c1, hv⟩ := Kd.R_slice ho0.R
      subst hv
      have HB := Aside0.mk hb_
      have hRR := Kd.R_reads' ho0.R
      rw [HFL.out] at hRR
      have HRR := Aside0.mk hRR
      clear hb_ ho0 hRR hfr
      rw [HFL.out]
      go_wp2_with fail
      ((with_reducible refine (Equal_calls _ _ _ _ _ _ _ _ _ HFL.out HN.out HRR.out.2.2 HRR.out.2.1 (Kd.C_below HCR.out HB.out) hc0 (by omega)).mono ?_); rintro e_ W2 ⟨rfl, hd_⟩)
      rw [E3.out]
      have HB2 := Aside0.mk (below_step HB.out hd_.below)
      clear hd_
      obtain ⟨ad, hA, hcs⟩ := HCR.out.2.2 (by omega)
      subst hA
      have hmk : ∀ W : World, (Instr.makeSlice 30 (.int .i64 0) (.int .i64 (n : Int))).run Tryd.prog W = .ok (.slice (some ⟨W.heap.size, 0, none⟩) 0 n) (W.alloc (.cells (madeCells #[.int .u8 0] n) 5)) := by
        intro W
        obtain ⟨i0, hi0, hz0, hsz0, hby⟩ := info_parts infoB
        have h := run_make (P := Tryd.prog) W 30 5 i0 (.int .u8 0) Tryd.underlying30 hi0 hz0 .i64 .i64 (0 : Int) (n : Int) (by omega) (by omega) (by rw [hby]; omega) (by omega)
        rw [hsz0, Nat.mul_one, Int.toNat_natCast] at h
        exact h
      have hC2 := C_cells (Kd.C_drew (Kd.C_alloc (C_first (Kd.C_below HCR.out HB2.out) n (by omega)) (.cells (madeCells #[.int .u8 0] n) 5))) HLN.out.symm
      have hload : (loadCellsFrom ad 0 n #[]).run Tryd.prog (W2.alloc (.cells (madeCells #[.int .u8 0] n) 5)).drew = .ok ((l0.take n).map (Value.int .u8)).toArray (W2.alloc (.cells (madeCells #[.int .u8 0] n) 5)).drew := by
        have h := run_loadCells_list (P := Tryd.prog) _ ad _ hC2
        rw [List.length_map, HLN.out] at h
        exact h
      have hmn : (madeCells #[Value.int .u8 0] n).size = n := by simp [madeCells]
      have hstore : (storeCells ⟨W2.heap.size, 0, none⟩ ((l0.take n).map (Value.int .u8))).run Tryd.prog (W2.alloc (.cells (madeCells #[.int .u8 0] n) 5)).drew = .ok () (W2.alloc (.cells ((l0.take n).map (Value.int .u8)).toArray 5)).drew := by
        have h := run_storeCells_at Tryd.prog W2.heap.size 0 5 ((l0.take n).map (Value.int .u8)) 0 (madeCells #[.int .u8 0] n) (W2.alloc (.cells (madeCells #[.int .u8 0] n) 5)).drew (MapKept.heap_alloc W2 _).1 (by rw [hmn, List.length_map, HLN.out]; omega) (by intro u hu; obtain ⟨x, _, rfl⟩ := List.mem_map.1 hu; rfl)
        rw [h]
        have e : ((madeCells #[Value.int .u8 0] n).toList.take (0 + 0) ++ (l0.take n).map (Value.int .u8) ++ (madeCells #[Value.int .u8 0] n).toList.drop (0 + 0 + ((l0.take n).map (Value.int .u8)).length)).toArray = ((l0.take n).map (Value.int .u8)).toArray := by
          rw [List.drop_of_length_le (by rw [Array.length_toList, hmn, List.length_map, HLN.out]; omega)]
          simp
        rw [e]
        show Result.ok () ((W2.alloc _).setRow W2.heap.size _).drew = _
        rw [World.setRow_alloc_new]
      clear hC2 hmn
      generalize hcs2 : (l0.take n).map (Value.int .u8) = cs at hload hstore
      have HCS := Aside0.mk hcs2
      clear hcs hcs2
      go_wp2
      go_region
      go_wp2
      go_ret2
      refine ⟨_, rfl, ⟨[], .inr ⟨W2.heap.size, by rw [HLN.out]; rfl, below_size HB2.out, ?_, by rw [HLN.out]; simp only [maxLen, List.length_nil]; omega, by simp⟩⟩, below_drew (below_alloc HB2.out _)⟩
      rw [List.append_nil, HCS.out]
      exact (MapKept.heap_alloc W2 _).1
    · have hf2 := hf
      rw [if_neg hx] at hf2
      rw [hf2]
      have e3 : decide (frameF (l0.take n) = l0) = false := decide_eq_false hx
      have HLN := Aside0.mk hln; have HFL := Aside0.mk hfl; have HN := Aside0.mk hn; have HCR := Aside0.mk hCR; have HC1 := Aside0.mk hC1; have E3 := Aside0.mk e3; have HX := Aside0.mk hx
      clear hln hfl hn hCR hC1 hf hf2 e3 hx
      go_enter Tryd.func21, Tryd.ntmps21
      go_wp2_with fail
      ((with_reducible refine (hfr _ HC1.out HT.out).mono ?_); rintro e_ W1 ⟨v0, rfl, ho_, hb_⟩)
      obtain ⟨sp0, ho0⟩ := ho_
      obtain ⟨A1, c1, hv⟩ := Kd.R_slice ho0.R
      subst hv
      have HB := Aside0.mk hb_
      have hRR := Kd.R_reads' ho0.R
      rw [HFL.out] at hRR
      have HRR := Aside0.mk hRR
      clear hb_ ho0 hRR hfr
      rw [HFL.out]
      go_wp2_with fail
      ((with_reducible refine (Equal_calls _ _ _ _ _ _ _ _ _ HFL.out HN.out HRR.out.2.2 HRR.out.2.1 (Kd.C_below HCR.out HB.out) hc0 (by omega)).mono ?_); rintro e_ W2 ⟨rfl, hd_⟩)
      rw [E3.out]
      have HB2 := Aside0.mk (below_step HB.out hd_.below)
      clear hd_
      go_wp2
      go_ret2
      exact ⟨_, rfl, RS.nil _ _, HB2.out⟩
theorem bytesOf_str (a : List Int) (h : ∀ x ∈ a, 0 ≤ x ∧ x < 256) : bytesOf (strOfNums a) = a := by
  unfold bytesOf
  rw [strOfNums_data, List.map_map]
  have : ∀ x ∈ a, ((fun b : UInt8 => (b.toNat : Int)) ∘ fun n : Int => UInt8.ofNat n.toNat) x = x := by
    intro x hx
    have := h x hx
    show ((UInt8.ofNat x.toNat).toNat : Int) = x
    rw [UInt8.toNat_ofNat']
    omega
  rw [List.map_congr_left this]
  simp
theorem strList_inj {a b : List Int} (ha : ∀ x ∈ a, 0 ≤ x ∧ x < 256) (hb : ∀ x ∈ b, 0 ≤ x ∧ x < 256) : (strOfNums a).toList = (strOfNums b).toList ↔ a = b := by
  constructor
  · intro h
    rw [ByteArray.toList_eq, ByteArray.toList_eq] at h
    rw [← bytesOf_str a ha, ← bytesOf_str b hb]
    unfold bytesOf
    rw [h]
  · intro h
    rw [h]
theorem frameF_range (l : List Int) (h : ∀ x ∈ l, 0 ≤ x ∧ x < 256) : ∀ x ∈ frameF l, 0 ≤ x ∧ x < 256 := by
  intro x hx
  have hs := sumF_range l
  rcases List.mem_append.1 hx with hx | hx
  · exact h x hx
  · simp only [List.mem_cons, List.not_mem_nil, or_false] at hx
    rcases hx with rfl | rfl | rfl | rfl <;> omega
end Go.Proofs.YteidgpaakoeefaaDoor
namespace Go.Proofs.YteidgpaakoeefaaDoor
open Go.RowKit Go.Proofs.YteidgpaakoeefaaDoorW.PrintWords Go.Proofs.YteidgpaakoeefaaDoorW.PrintLast Go.Proofs.YteidgpaakoeefaaDoorW.PrintMore
set_option linter.unusedVariables false
set_option linter.unusedSimpArgs false
set_option maxRecDepth 100000
namespace PIm
def wire_Num.f (l0 : List Int) (a1 : Int) : Option (List Int × Int) := if l0.length ≤ 140737488355318 ∧ -9223372036854775808 ≤ a1 ∧ a1 ≤ 9223372036854775807 then some (numF l0 a1) else none
theorem wire_Num.calls (A0 : Option Addr) (c0 : Nat) (l0 : List Int) (a1 : Int) (r1 : List Int) (r2 : Int) (w : World) (hr0 : Kd.C (Kd.int .u8) w A0 l0.length l0) (hc0 : l0.length ≤ c0) (h : wire_Num.f l0 a1 = some (r1, r2)) :
    Calls Tryd.prog 59 #[.slice A0 l0.length c0, .int .i64 a1] w fun e w' => ∃ v0_ : Value, e = .returned (.tuple #[v0_, .int .i64 r2]) ∧ Kd.R (Kd.int .u8) 5 w' w.heap.size (fun _ => True) v0_ r1 ∧ Below w.heap.size w w' := by
  unfold wire_Num.f at h
  split at h
  · next hc =>
    have e := Option.some.inj h
    have := Num_calls A0 c0 l0 a1 w hr0 hc.1 hc.2.1 hc.2.2
    rw [e] at this
    exact this
  · cases h
def wire_Int.f (l0 : List Int) (a1 : Int) : Option (List Int) := if l0.length ≤ 140737488355318 ∧ -9223372036854775808 ≤ a1 ∧ a1 ≤ 9223372036854775807 then some (l0 ++ venc (zz a1).toNat) else none
theorem wire_Int.calls (A0 : Option Addr) (c0 : Nat) (l0 : List Int) (a1 : Int) (r : List Int) (w : World) (hr0 : Kd.C (Kd.int .u8) w A0 l0.length l0) (hc0 : l0.length ≤ c0) (h : wire_Int.f l0 a1 = some r) :
    Calls Tryd.prog 58 #[.slice A0 l0.length c0, .int .i64 a1] w fun e w' => ∃ v0_ : Value, e = .returned (v0_) ∧ Kd.R (Kd.int .u8) 5 w' w.heap.size (fun _ => True) v0_ r ∧ Below w.heap.size w w' := by
  unfold wire_Int.f at h
  split at h
  · next hc =>
    obtain rfl := Option.some.inj h
    exact Int_calls A0 c0 l0 a1 w hr0 hc.1 hc.2.1 hc.2.2
  · cases h
def wire_Frame.f (l0 : List Int) : Option (List Int) := if l0.length ≤ 140737488355318 then some (frameF l0) else none
theorem wire_Frame.calls (A0 : Option Addr) (c0 : Nat) (l0 : List Int) (r : List Int) (w : World) (hr0 : Kd.C (Kd.int .u8) w A0 l0.length l0) (hc0 : l0.length ≤ c0) (h : wire_Frame.f l0 = some r) (hW : Tab w) :
    Calls Tryd.prog 15 #[.slice A0 l0.length c0] w fun e w' => ∃ v0_ : Value, e = .returned (v0_) ∧ Kd.R (Kd.int .u8) 5 w' w.heap.size (fun _ => True) v0_ r ∧ Below w.heap.size w w' := by
  unfold wire_Frame.f at h
  split at h
  · next hc =>
    obtain rfl := Option.some.inj h
    exact Frame_calls A0 c0 l0 w hr0 hc hW
  · cases h
def wire_Open.f (l0 : List Int) : Option (List Int × Bool) := if l0.length ≤ 140737488355318 then some (opF l0) else none
theorem wire_Open.calls (A0 : Option Addr) (c0 : Nat) (l0 : List Int) (r1 : List Int) (r2 : Bool) (w : World) (hr0 : Kd.C (Kd.int .u8) w A0 l0.length l0) (hc0 : l0.length ≤ c0) (h : wire_Open.f l0 = some (r1, r2)) (hW : Tab w) :
    Calls Tryd.prog 21 #[.slice A0 l0.length c0] w fun e w' => ∃ v0_ : Value, e = .returned (.tuple #[v0_, .bool r2]) ∧ Kd.R (Kd.int .u8) 5 w' w.heap.size (fun _ => True) v0_ r1 ∧ Below w.heap.size w w' := by
  unfold wire_Open.f at h
  split at h
  · next hc =>
    have e := Option.some.inj h
    have := Open_callsF A0 c0 l0 w hr0 hc0 hc hW
    rw [e] at this
    refine this.mono ?_
    rintro e w' ⟨v, h1, ⟨sp, h2⟩, h3⟩
    exact ⟨v, h1, h2.R, h3⟩
  · cases h
end PIm
end Go.Proofs.YteidgpaakoeefaaDoor
namespace Go.Proofs.YteidgpaakoeefaaDoor.PIm
open Go.RowKit Go.Proofs.YteidgpaakoeefaaDoorW.PrintWords Go.Proofs.YteidgpaakoeefaaDoorW.PrintLast Go.Proofs.YteidgpaakoeefaaDoorW.PrintMore
attribute [local go_sem] max2_int min2_int max_two min_two max_three min_three max_four min_four   -- for this text's walks alone
set_option linter.unusedVariables false
set_option linter.unusedSimpArgs false
def image_whole.f (l0 : List Int) (a1 : Int) : Option (List Int) := (wire_Int.f ([] : List Int) a1).bind fun t102 => (if l0.length + t102.length < 140737488355328 then (some (l0 ++ t102)) else (none))
set_option maxHeartbeats 8000000 in
set_option maxRecDepth 100000 in
theorem image_whole.calls (P0_ : Nat → Prop) (u9000_ : Value) (l0 : List Int) (a1 : Int) (r : List Int) (w0 w : World) (hB : Below w0.heap.size w0 w) (ho0 : Kd.R (Kd.int .u8) 5 w w0.heap.size P0_ u9000_ l0) (h : image_whole.f l0 a1 = some r) :
    Calls Tryd.prog 25 #[u9000_, .int .i64 a1] w fun e w' => ∃ v0_ : Value, e = .returned (v0_) ∧ Kd.R (Kd.int .u8) 5 w' w0.heap.size (fun k_ => (P0_ k_ ∨ w.heap.size ≤ k_)) v0_ r ∧ Below w0.heap.size w0 w' ∧ Kept w w' (fun k_ => P0_ k_) := by
  have HO0 := Aside0.mk (show Kd.R (Kd.int .u8) 5 w w0.heap.size (fun k_ => (P0_ k_ ∨ w.heap.size ≤ k_)) u9000_ l0 from Kd.R_mono ho0 (fun k_ hk => (.inl hk)))
  have HK := Aside0.mk (Kept.refl w (fun k_ => P0_ k_))
  have HW0 := Aside0.mk hB.size
  have HB := Aside0.mk hB
  clear hB
  have H : ((wire_Int.f ([] : List Int) a1).bind fun t102 => (if l0.length + t102.length < 140737488355328 then (some (l0 ++ t102)) else (none))) = some r := h
  clear h
  replace H := Option.bind_eq_some_iff.mp H
  obtain ⟨t102, A30, H⟩ := H
  replace H : (if l0.length + t102.length < 140737488355328 then (some (l0 ++ t102)) else (none)) = some r := H
  have A3 := Aside0.mk A30
  clear A30
  by_cases c4 : l0.length + t102.length < 140737488355328
  · rw [if_pos c4] at H
    have LMc4 := Aside0.mk c4
    clear c4
    obtain ⟨y105, hy105⟩ : ∃ y_ : List Int, y_ = (l0 ++ t102) := ⟨_, rfl⟩
    replace H : (some y105) = some r := by first | (rw [hy105]; with_reducible exact H) | (have H2_ := (Option.bind_some _ _).symm.trans H; rw [hy105]; with_reducible exact H2_) | (have H2_ := (Option.bind_some _ _).symm.trans H; with_reducible exact H2_) | with_reducible exact H | (rw [hy105]; exact H) | exact H
    have Ny105 := Aside0.mk hy105
    clear hy105
    obtain rfl := Option.some.inj H
    go_enter Tryd.func25, Tryd.ntmps25
    go_wp2_with (first | ((with_reducible refine gate_callee (f := 58) rfl ?_); refine goesL_ (some 7) rfl rfl Tryd.func58 (by kernel_rfl) rfl #[.slice none 0 0, .int .i64 a1] rfl (by (try simp only [List.map_toArray, List.map_cons, List.map_nil]); first | done | rfl | (simp only [List.length_drop, List.length_take]; rfl)) ?_; (refine (wire_Int.calls _ _ ([] : List Int) a1 t102 _ ?side1 ?side2 A3.out).mono ?_); (case side1 => exact Kd.C_nil _ _); (case side2 => exact Nat.le_refl _); rintro e w5 ⟨v103, rfl, ho0, hb⟩; refine ⟨_, rfl, ?_⟩; have n0_ := Aside0.mk (Kd.R_elder' (by (with_reducible repeat (first | apply Kd.R_alloc | apply Kd.R_drewN | apply Kd.R_drew)); exact HO0.out) (Kd.R_base ho0) hb); have n1_ := Aside0.mk (Kd.R_lower (Kd.R_new' (Kd.R_newM (M := fun k_ => (P0_ k_ ∨ w.heap.size ≤ k_)) ho0 (by first | exact HK.out.1 | exact (show Kept w _ (fun k_ => P0_ k_) from by repeat (first | (with_reducible first | exact HK.out | apply Kept.alloc | apply Kept.drewN | apply Kept.drew) | exact HK.out)).1) (fun k_ h_ => .inr h_)) (Kd.R_lt (by (with_reducible repeat (first | apply Kd.R_alloc | apply Kd.R_drewN | apply Kd.R_drew)); exact HO0.out))) (below_size (by repeat (first | (with_reducible first | exact HB.out | apply below_alloc | apply pw_below_drewN | apply below_drew1) | exact HB.out)))); have n2_ := Aside0.mk (Kept.below (S := (fun k_ => P0_ k_)) (by repeat (first | (with_reducible first | exact HK.out | apply Kept.alloc | apply Kept.drewN | apply Kept.drew) | exact HK.out)) hb); have n3_ := Aside0.mk (below_step (by repeat (first | (with_reducible first | exact HB.out | apply below_alloc | apply pw_below_drewN | apply below_drew1) | exact HB.out)) hb); clear HO0; clear HK; clear HB; have HO0 := n0_; have HO104 := n1_; have HK := n2_; have HB := n3_; clear n0_ n1_ n2_ n3_; (try clear hb); (try clear hb2); (try clear hk); (try clear hi); (try clear ho0); obtain ⟨Ao7, co7, eo7⟩ := Kd.R_slice HO104.out; subst eo7) | ((with_reducible refine gate_builtin (b := .append) (xs := #[.tmp 5, .tmp 7]) rfl ?_); at_builtin; refine Kd.R_append_rows (Kd.int .u8) (w0 := w0) w0.heap.size rfl (.tmp 5) (.tmp 7) 30 5 (.int .u8 0) 1 rfl Tryd.underlying30 info5 rfl (by decide) (by omega) u9000_ l0 t102 _ _ _ (fun k_ => (P0_ k_ ∨ w.heap.size ≤ k_) ∧ some k_ ≠ (.slice Ao7 t102.length co7 : Value).ownBlock) (fun _ => False) rfl rfl ?aO ?aR (fun _ _ h => h) (fun _ h => h.elim) ?aF ?aB ?aS ?aL ?_; (case aR => repeat (first | exact (Kd.R_reads' HO104.out).2.2 | (with_reducible refine Kd.C_alloc ?_ _) | (with_reducible refine Kd.C_drewN ?_ _) | (with_reducible refine Kd.C_drew ?_))); (case aB => exact (by repeat (first | (with_reducible first | exact HB.out | apply below_alloc | apply pw_below_drewN | apply below_drew1) | exact HB.out))); (case aF => exact (fun k_ hk => ⟨(.inr (Nat.le_trans (by first | exact HK.out.1 | exact (show Kept w _ (fun k_ => P0_ k_) from by repeat (first | (with_reducible first | exact HK.out | apply Kept.alloc | apply Kept.drewN | apply Kept.drew) | exact HK.out)).1) hk)), Kd.fresh' (Kd.R_lt (by (with_reducible repeat (first | apply Kd.R_alloc | apply Kd.R_drewN | apply Kd.R_drew)); exact HO104.out)) k_ hk⟩)); (case aO => exact (by (with_reducible repeat (first | apply Kd.R_alloc | apply Kd.R_drewN | apply Kd.R_drew)); exact HO0.out)); (case aS => exact (below_size (by repeat (first | (with_reducible first | exact HB.out | apply below_alloc | apply pw_below_drewN | apply below_drew1) | exact HB.out)))); (case aL => have := LMc4.out; omega); intro v106 w6 ho hb hg hat; rw [← Ny105.out] at ho; have n0_ := Aside0.mk (Kd.R_after (ok := (fun k_ => (P0_ k_ ∨ w.heap.size ≤ k_))) (by (with_reducible repeat (first | apply Kd.R_alloc | apply Kd.R_drewN | apply Kd.R_drew)); exact Kd.R_mono HO104.out (fun _ hk => ⟨hk.1.1, hk.2⟩)) hg hat); have n1_ := Aside0.mk (hb); have n2_ := Aside0.mk (Kept.of_grown (S := (fun k_ => P0_ k_)) hg (by repeat (first | (with_reducible first | exact HK.out | apply Kept.alloc | apply Kept.drewN | apply Kept.drew) | exact HK.out)) (fun k_ e_ => (HO0.out.1 k_ e_).1)); have n3_ := Aside0.mk (ho); clear HO104; clear HB; clear HK; clear HO0; have HO104 := n0_; have HB := n1_; have HK := n2_; have HO107 := n3_; clear n0_ n1_ n2_ n3_; clear ho hb hg hat))
    go_ret
    exact ⟨_, by first | rfl | (simp [errW_none, errW_some] <;> rfl) | (simp [*, errW_none, errW_some] <;> rfl), by (with_reducible repeat (first | apply Kd.R_alloc | apply Kd.R_drewN | apply Kd.R_drew)); exact Kd.R_mono HO107.out (fun _ hk => hk.1), by repeat (first | (with_reducible first | exact HB.out | apply below_alloc | apply pw_below_drewN | apply below_drew1) | exact HB.out), by repeat (first | (with_reducible first | exact HK.out | apply Kept.alloc | apply Kept.drewN | apply Kept.drew) | exact HK.out)⟩
  · rw [if_neg c4] at H
    exact absurd H (by simp)
def image_nat.f (l0 : List Int) (a1 : Int) : Option (List Int) := (wire_Num.f ([] : List Int) a1).bind fun bt108 => (if l0.length + bt108.1.length < 140737488355328 then (some (l0 ++ bt108.1)) else (none))
set_option maxHeartbeats 8000000 in
set_option maxRecDepth 100000 in
theorem image_nat.calls (P0_ : Nat → Prop) (u9000_ : Value) (l0 : List Int) (a1 : Int) (r : List Int) (w0 w : World) (hB : Below w0.heap.size w0 w) (ho0 : Kd.R (Kd.int .u8) 5 w w0.heap.size P0_ u9000_ l0) (h : image_nat.f l0 a1 = some r) :
    Calls Tryd.prog 26 #[u9000_, .int .i64 a1] w fun e w' => ∃ v0_ : Value, e = .returned (v0_) ∧ Kd.R (Kd.int .u8) 5 w' w0.heap.size (fun k_ => (P0_ k_ ∨ w.heap.size ≤ k_)) v0_ r ∧ Below w0.heap.size w0 w' ∧ Kept w w' (fun k_ => P0_ k_) := by
  have HO0 := Aside0.mk (show Kd.R (Kd.int .u8) 5 w w0.heap.size (fun k_ => (P0_ k_ ∨ w.heap.size ≤ k_)) u9000_ l0 from Kd.R_mono ho0 (fun k_ hk => (.inl hk)))
  have HK := Aside0.mk (Kept.refl w (fun k_ => P0_ k_))
  have HW0 := Aside0.mk hB.size
  have HB := Aside0.mk hB
  clear hB
  have H : ((wire_Num.f ([] : List Int) a1).bind fun bt108 => (if l0.length + bt108.1.length < 140737488355328 then (some (l0 ++ bt108.1)) else (none))) = some r := h
  clear h
  replace H := Option.bind_eq_some_iff.mp H
  obtain ⟨⟨t108, t109⟩, A30, H⟩ := H
  replace H : (if l0.length + t108.length < 140737488355328 then (some (l0 ++ t108)) else (none)) = some r := H
  have A3 := Aside0.mk A30
  clear A30
  by_cases c4 : l0.length + t108.length < 140737488355328
  · rw [if_pos c4] at H
    have LMc4 := Aside0.mk c4
    clear c4
    obtain ⟨y112, hy112⟩ : ∃ y_ : List Int, y_ = (l0 ++ t108) := ⟨_, rfl⟩
    replace H : (some y112) = some r := by first | (rw [hy112]; with_reducible exact H) | (have H2_ := (Option.bind_some _ _).symm.trans H; rw [hy112]; with_reducible exact H2_) | (have H2_ := (Option.bind_some _ _).symm.trans H; with_reducible exact H2_) | with_reducible exact H | (rw [hy112]; exact H) | exact H
    have Ny112 := Aside0.mk hy112
    clear hy112
    obtain rfl := Option.some.inj H
    go_enter Tryd.func26, Tryd.ntmps26
    go_wp2_with (first | ((with_reducible refine gate_callee (f := 59) rfl ?_); refine goesL_ (some 9) rfl rfl Tryd.func59 (by kernel_rfl) rfl #[.slice none 0 0, .int .i64 a1] rfl (by (try simp only [List.map_toArray, List.map_cons, List.map_nil]); first | done | rfl | (simp only [List.length_drop, List.length_take]; rfl)) ?_; (refine (wire_Num.calls _ _ ([] : List Int) a1 t108 t109 _ ?side1 ?side2 A3.out).mono ?_); (case side1 => exact Kd.C_nil _ _); (case side2 => exact Nat.le_refl _); rintro e w5 ⟨v110, rfl, ho0, hb⟩; refine ⟨_, rfl, ?_⟩; have n0_ := Aside0.mk (Kd.R_elder' (by (with_reducible repeat (first | apply Kd.R_alloc | apply Kd.R_drewN | apply Kd.R_drew)); exact HO0.out) (Kd.R_base ho0) hb); have n1_ := Aside0.mk (Kd.R_lower (Kd.R_new' (Kd.R_newM (M := fun k_ => (P0_ k_ ∨ w.heap.size ≤ k_)) ho0 (by first | exact HK.out.1 | exact (show Kept w _ (fun k_ => P0_ k_) from by repeat (first | (with_reducible first | exact HK.out | apply Kept.alloc | apply Kept.drewN | apply Kept.drew) | exact HK.out)).1) (fun k_ h_ => .inr h_)) (Kd.R_lt (by (with_reducible repeat (first | apply Kd.R_alloc | apply Kd.R_drewN | apply Kd.R_drew)); exact HO0.out))) (below_size (by repeat (first | (with_reducible first | exact HB.out | apply below_alloc | apply pw_below_drewN | apply below_drew1) | exact HB.out)))); have n2_ := Aside0.mk (Kept.below (S := (fun k_ => P0_ k_)) (by repeat (first | (with_reducible first | exact HK.out | apply Kept.alloc | apply Kept.drewN | apply Kept.drew) | exact HK.out)) hb); have n3_ := Aside0.mk (below_step (by repeat (first | (with_reducible first | exact HB.out | apply below_alloc | apply pw_below_drewN | apply below_drew1) | exact HB.out)) hb); clear HO0; clear HK; clear HB; have HO0 := n0_; have HO111 := n1_; have HK := n2_; have HB := n3_; clear n0_ n1_ n2_ n3_; (try clear hb); (try clear hb2); (try clear hk); (try clear hi); (try clear ho0); obtain ⟨Ao7, co7, eo7⟩ := Kd.R_slice HO111.out; subst eo7) | ((with_reducible refine gate_builtin (b := .append) (xs := #[.tmp 12, .tmp 13]) rfl ?_); at_builtin; refine Kd.R_append_rows (Kd.int .u8) (w0 := w0) w0.heap.size rfl (.tmp 12) (.tmp 13) 30 5 (.int .u8 0) 1 rfl Tryd.underlying30 info5 rfl (by decide) (by omega) u9000_ l0 t108 _ _ _ (fun k_ => (P0_ k_ ∨ w.heap.size ≤ k_) ∧ some k_ ≠ (.slice Ao7 t108.length co7 : Value).ownBlock) (fun _ => False) rfl rfl ?aO ?aR (fun _ _ h => h) (fun _ h => h.elim) ?aF ?aB ?aS ?aL ?_; (case aR => repeat (first | exact (Kd.R_reads' HO111.out).2.2 | (with_reducible refine Kd.C_alloc ?_ _) | (with_reducible refine Kd.C_drewN ?_ _) | (with_reducible refine Kd.C_drew ?_))); (case aB => exact (by repeat (first | (with_reducible first | exact HB.out | apply below_alloc | apply pw_below_drewN | apply below_drew1) | exact HB.out))); (case aF => exact (fun k_ hk => ⟨(.inr (Nat.le_trans (by first | exact HK.out.1 | exact (show Kept w _ (fun k_ => P0_ k_) from by repeat (first | (with_reducible first | exact HK.out | apply Kept.alloc | apply Kept.drewN | apply Kept.drew) | exact HK.out)).1) hk)), Kd.fresh' (Kd.R_lt (by (with_reducible repeat (first | apply Kd.R_alloc | apply Kd.R_drewN | apply Kd.R_drew)); exact HO111.out)) k_ hk⟩)); (case aO => exact (by (with_reducible repeat (first | apply Kd.R_alloc | apply Kd.R_drewN | apply Kd.R_drew)); exact HO0.out)); (case aS => exact (below_size (by repeat (first | (with_reducible first | exact HB.out | apply below_alloc | apply pw_below_drewN | apply below_drew1) | exact HB.out)))); (case aL => have := LMc4.out; omega); intro v113 w6 ho hb hg hat; rw [← Ny112.out] at ho; have n0_ := Aside0.mk (Kd.R_after (ok := (fun k_ => (P0_ k_ ∨ w.heap.size ≤ k_))) (by (with_reducible repeat (first | apply Kd.R_alloc | apply Kd.R_drewN | apply Kd.R_drew)); exact Kd.R_mono HO111.out (fun _ hk => ⟨hk.1.1, hk.2⟩)) hg hat); have n1_ := Aside0.mk (hb); have n2_ := Aside0.mk (Kept.of_grown (S := (fun k_ => P0_ k_)) hg (by repeat (first | (with_reducible first | exact HK.out | apply Kept.alloc | apply Kept.drewN | apply Kept.drew) | exact HK.out)) (fun k_ e_ => (HO0.out.1 k_ e_).1)); have n3_ := Aside0.mk (ho); clear HO111; clear HB; clear HK; clear HO0; have HO111 := n0_; have HB := n1_; have HK := n2_; have HO114 := n3_; clear n0_ n1_ n2_ n3_; clear ho hb hg hat))
    go_ret
    exact ⟨_, by first | rfl | (simp [errW_none, errW_some] <;> rfl) | (simp [*, errW_none, errW_some] <;> rfl), by (with_reducible repeat (first | apply Kd.R_alloc | apply Kd.R_drewN | apply Kd.R_drew)); exact Kd.R_mono HO114.out (fun _ hk => hk.1), by repeat (first | (with_reducible first | exact HB.out | apply below_alloc | apply pw_below_drewN | apply below_drew1) | exact HB.out), by repeat (first | (with_reducible first | exact HK.out | apply Kept.alloc | apply Kept.drewN | apply Kept.drew) | exact HK.out)⟩
  · rw [if_neg c4] at H
    exact absurd H (by simp)
def image_Encode_1.f (l0 : List Int) (a1_0 : Int) (a1_1 : Int) (a1_2 : Int) : Option (List Int) := (image_nat.f l0 a1_0).bind fun t116 => ((image_nat.f t116 a1_1).bind fun t119 => ((image_whole.f t119 a1_2).bind fun t122 => (some t122)))
def image_Encode_1.T1 : Bool × List (List Nat × List Nat) := (true, [([], []), ([], []), ([1], [1]), ([0, 2], [0, 2]), ([], []), ([4], [4]), ([3, 5, 3], [3, 5]), ([], []), ([7], [7]), ([6, 8, 6], [6, 8]), ([9, 9, 0, 1, 2, 3, 4, 5, 6, 7, 8, 9], [9])])
def image_Encode_1.B1 : List Nat := [0, 0, 2, 7, 0, 16, 63, 0, 128, 511, 1023]
theorem image_Encode_1.tab1 : rtab .any (opsOf Tryd.f24 1) = image_Encode_1.T1 := by kernel_rfl
theorem image_Encode_1.bits1 : waitsOk image_Encode_1.T1.2 image_Encode_1.B1 = true := by kernel_rfl
set_option maxHeartbeats 8000000 in
set_option maxRecDepth 100000 in
theorem image_Encode_1.calls (P0_ : Nat → Prop) (u9000_ : Value) (l0 : List Int) (a1_0 : Int) (a1_1 : Int) (a1_2 : Int) (r : List Int) (w0 w : World) (hB : Below w0.heap.size w0 w) (ho0 : Kd.R (Kd.int .u8) 5 w w0.heap.size P0_ u9000_ l0) (h : image_Encode_1.f l0 a1_0 a1_1 a1_2 = some r) :
    Calls Tryd.prog 24 #[u9000_, .agg #[.int .i64 a1_0, .int .i64 a1_1, .int .i64 a1_2]] w fun e w' => ∃ v0_ : Value, e = .returned (v0_) ∧ Kd.R (Kd.int .u8) 5 w' w0.heap.size (fun k_ => (P0_ k_ ∨ w.heap.size ≤ k_)) v0_ r ∧ Below w0.heap.size w0 w' ∧ Kept w w' (fun k_ => P0_ k_) := by
  have hu48 := Tryd.underlying48
  have HO0 := Aside0.mk (show Kd.R (Kd.int .u8) 5 w w0.heap.size (fun k_ => (P0_ k_ ∨ w.heap.size ≤ k_)) u9000_ l0 from Kd.R_mono ho0 (fun k_ hk => (.inl hk)))
  have HK := Aside0.mk (Kept.refl w (fun k_ => P0_ k_))
  have HW0 := Aside0.mk hB.size
  have HB := Aside0.mk hB
  clear hB
  have H : ((image_nat.f l0 a1_0).bind fun t116 => ((image_nat.f t116 a1_1).bind fun t119 => ((image_whole.f t119 a1_2).bind fun t122 => (some t122)))) = some r := h
  clear h
  replace H := Option.bind_eq_some_iff.mp H
  obtain ⟨t116, A30, H⟩ := H
  replace H : ((image_nat.f t116 a1_1).bind fun t119 => ((image_whole.f t119 a1_2).bind fun t122 => (some t122))) = some r := H
  have A3 := Aside0.mk A30
  clear A30
  replace H := Option.bind_eq_some_iff.mp H
  obtain ⟨t119, A40, H⟩ := H
  replace H : ((image_whole.f t119 a1_2).bind fun t122 => (some t122)) = some r := H
  have A4 := Aside0.mk A40
  clear A40
  replace H := Option.bind_eq_some_iff.mp H
  obtain ⟨t122, A50, H⟩ := H
  replace H : (some t122) = some r := H
  have A5 := Aside0.mk A50
  clear A50
  obtain rfl := Option.some.inj H
  go_enter Tryd.func24, Tryd.ntmps24
  try go_wp2_with (first | ((with_reducible refine gate_dst (N := 3) rfl ?_); refine box_event ?hg (N := 3) ?hd (cs := #[.int .i64 a1_0, .int .i64 a1_1, .int .i64 a1_2]) (t := 48) ?hr ?_; (case hd => rfl); (case hg => rfl); (case hr => first | (go_simp; done) | (go_simp; rfl)); intro gb115 hg w6 hbox hb; have n0_ := Aside0.mk (Kd.R_below (by (with_reducible repeat (first | apply Kd.R_alloc | apply Kd.R_drewN | apply Kd.R_drew)); exact HO0.out) hb); have n1_ := Aside0.mk (Kept.below (S := (fun k_ => P0_ k_)) (by repeat (first | (with_reducible first | exact HK.out | apply Kept.alloc | apply Kept.drewN | apply Kept.drew) | exact HK.out)) hb); have n2_ := Aside0.mk (below_step (by repeat (first | (with_reducible first | exact HB.out | apply below_alloc | apply pw_below_drewN | apply below_drew1) | exact HB.out)) hb); have n3_ := Aside0.mk (hbox); have n4_ := Aside0.mk ((by rw [hg]; exact (by first | exact HK.out.1 | exact (show Kept w _ (fun k_ => P0_ k_) from by repeat (first | (with_reducible first | exact HK.out | apply Kept.alloc | apply Kept.drewN | apply Kept.drew) | exact HK.out)).1) : w.heap.size ≤ gb115)); have n5_ := Aside0.mk ((by rw [hg]; exact (below_size (by repeat (first | (with_reducible first | exact HB.out | apply below_alloc | apply pw_below_drewN | apply below_drew1) | exact HB.out))) : w0.heap.size ≤ gb115)); clear HO0; clear HK; clear HB; have HO0 := n0_; have HK := n1_; have HB := n2_; have BK115 := n3_; have GW115 := n4_; have GE115 := n5_; clear n0_ n1_ n2_ n3_ n4_ n5_; clear hb hbox hg))
  have n0_ := Aside0.mk (Kd.R_drew HO0.out)
  have n1_ := Aside0.mk (blk_drew BK115.out)
  have n2_ := Aside0.mk (Kept.drew HK.out)
  have n3_ := Aside0.mk (below_drew1 HB.out)
  clear HO0
  clear BK115
  clear HK
  clear HB
  have HO0 := n0_
  have BK115 := n1_
  have HK := n2_
  have HB := n3_
  clear n0_ n1_ n2_ n3_
  obtain ⟨Ao8, co8, eo8⟩ := Kd.R_slice HO0.out
  (first | subst eo8 | (injection eo8 with f1_ f2_ f3_; have f4_ := f1_.symm; have f5_ := f3_.symm; clear f1_ f2_ f3_; subst f4_; subst f5_))
  refine start_ (n := 11) (S := fun w' => w'.cell? ⟨gb115, 0, none⟩ = some (.int .i64 a1_0) ∧ w'.cell? ⟨gb115, 1, none⟩ = some (.int .i64 a1_1) ∧ w'.cell? ⟨gb115, 2, none⟩ = some (.int .i64 a1_2)) (ds := []) #[false, false, false, false, false, false, false, false, false, false, false] (by kernel_rfl) rfl rfl ⟨(blk_cell BK115.out 0).trans rfl, (blk_cell BK115.out 1).trans rfl, (blk_cell BK115.out 2).trans rfl⟩ (fun hHeld => ?_); refine with_tabW image_Encode_1.tab1 image_Encode_1.bits1 (fun HT_ HW_ => ?_)
  generalize w6.drew = w7 at HO0 BK115 HK HB hHeld ⊢
  refine pure_ (i := 0) (N := some 5) (v := ?_) (a' := ?_) #[true, false, false, false, false, false, false, false, false, false, false] rfl rfl (any_of HT_.out (by kernel_rfl)) (fun _ _ _ h => h) (Or.inl ⟨by rfl, ?_⟩) ?_ ?_
  rotate_left
  · intro w'
    go_simp
    with_reducible rfl
  rotate_left
  · simp only [Act.put, List.setIfInBounds_toArray, List.set_cons_zero, List.set_cons_succ, i64_w, i32_w]
    rfl
  refine pure_ (i := 1) (N := some 6) (v := ?_) (a' := ?_) #[true, true, false, false, false, false, false, false, false, false, false] rfl rfl (any_of HT_.out (by kernel_rfl)) (fun _ _ _ h => h) (Or.inl ⟨by rfl, ?_⟩) ?_ ?_
  rotate_left
  · intro w'
    go_simp
    with_reducible rfl
  rotate_left
  · simp only [Act.put, List.setIfInBounds_toArray, List.set_cons_zero, List.set_cons_succ, i64_w, i32_w]
    rfl
  refine pure_ (i := 4) (N := some 9) (v := ?_) (a' := ?_) #[true, true, false, false, true, false, false, false, false, false, false] rfl rfl (any_of HT_.out (by kernel_rfl)) (fun _ _ _ h => h) (Or.inl ⟨by rfl, ?_⟩) ?_ ?_
  rotate_left
  · intro w'
    go_simp
    with_reducible rfl
  rotate_left
  · simp only [Act.put, List.setIfInBounds_toArray, List.set_cons_zero, List.set_cons_succ, i64_w, i32_w]
    rfl
  refine pure_ (i := 7) (N := some 12) (v := ?_) (a' := ?_) #[true, true, false, false, true, false, false, true, false, false, false] rfl rfl (any_of HT_.out (by kernel_rfl)) (fun _ _ _ h => h) (Or.inl ⟨by rfl, ?_⟩) ?_ ?_
  rotate_left
  · intro w'
    go_simp
    with_reducible rfl
  rotate_left
  · simp only [Act.put, List.setIfInBounds_toArray, List.set_cons_zero, List.set_cons_succ, i64_w, i32_w]
    rfl
  refine take_ (i := 2) (N := some 7) (v := ?_) (a' := ?_) #[true, true, true, false, true, false, false, true, false, false, false] rfl rfl (take_ofW HT_.out HW_.out (by kernel_rfl)) (fun _ _ _ h => h) (Or.inl ⟨by rfl, ?_⟩) hHeld ?_ ?_
  rotate_left
  · rintro w' ⟨s0, s1, s2⟩
    go_simp
    with_reducible rfl
  rotate_left
  · simp only [Act.put, List.setIfInBounds_toArray, List.set_cons_zero, List.set_cons_succ, i64_w, i32_w]
    rfl
  refine take_ (i := 5) (N := some 10) (v := ?_) (a' := ?_) #[true, true, true, false, true, true, false, true, false, false, false] rfl rfl (take_ofW HT_.out HW_.out (by kernel_rfl)) (fun _ _ _ h => h) (Or.inl ⟨by rfl, ?_⟩) hHeld ?_ ?_
  rotate_left
  · rintro w' ⟨s0, s1, s2⟩
    go_simp
    with_reducible rfl
  rotate_left
  · simp only [Act.put, List.setIfInBounds_toArray, List.set_cons_zero, List.set_cons_succ, i64_w, i32_w]
    rfl
  refine take_ (i := 8) (N := some 13) (v := ?_) (a' := ?_) #[true, true, true, false, true, true, false, true, true, false, false] rfl rfl (take_ofW HT_.out HW_.out (by kernel_rfl)) (fun _ _ _ h => h) (Or.inl ⟨by rfl, ?_⟩) hHeld ?_ ?_
  rotate_left
  · rintro w' ⟨s0, s1, s2⟩
    go_simp
    with_reducible rfl
  rotate_left
  · simp only [Act.put, List.setIfInBounds_toArray, List.set_cons_zero, List.set_cons_succ, i64_w, i32_w]
    rfl
  refine one_ (i := 3) (N := some 8) #[true, true, true, true, true, true, false, true, true, false, false] rfl rfl (one_of HT_.out (by kernel_rfl)) (by decide) (fun K hK => ?_)
  refine goes_ Tryd.func26 (by kernel_rfl) rfl #[.slice Ao8 l0.length co8, .int .i64 a1_0] (by rfl) rfl rfl (by (try simp only [List.map_toArray, List.map_cons, List.map_nil]); first | done | rfl | (simp only [List.length_drop, List.length_take]; rfl)) ?_
  with_reducible refine (image_nat.calls (fun k_ => some k_ = (.slice Ao8 l0.length co8 : Value).ownBlock) (.slice Ao8 l0.length co8) l0 a1_0 t116 w0 _ ?side1 ?side2 A3.out).mono ?_
  (case side1 => repeat (first | (with_reducible first | exact HB.out | apply below_alloc | apply pw_below_drewN | apply below_drew1 | refine below_set ?_ GE115.out) | exact HB.out))
  (case side2 => exact Kd.R_tight rfl HO0.out)
  rintro e w9 ⟨v117, rfl, ho0, hb, hkp⟩
  refine ⟨_, rfl, ?_⟩
  have n0_ := Aside0.mk (blk_kept (by (with_reducible repeat (first | refine blk_drewN ?_ _ | refine blk_drew ?_ | refine blk_alloc ?_ _)); exact BK115.out) hkp (fun hs_ => (fun e_ => (Kd.R_ne HO0.out BK115.out (by decide)) e_) hs_))
  have n1_ := Aside0.mk (Kd.R_mono (ok' := fun k_ => (P0_ k_ ∨ w.heap.size ≤ k_)) ho0 (fun k_ hk_ => Or.elim hk_ (fun hs_ => (HO0.out.1 k_ (hs_).symm)) (fun hn_ => (.inr (Nat.le_trans (by first | exact HK.out.1 | exact (show Kept w _ (fun k_ => P0_ k_) from by repeat (first | (with_reducible first | exact HK.out | apply Kept.alloc | apply Kept.drewN | apply Kept.drew | refine Kept.setCell ?_ (.inr GW115.out) _) | exact HK.out)).1) hn_)))))
  have n2_ := Aside0.mk (Kept.then_ (S := (fun k_ => P0_ k_)) (by repeat (first | (with_reducible first | exact HK.out | apply Kept.alloc | apply Kept.drewN | apply Kept.drew | refine Kept.setCell ?_ (.inr GW115.out) _) | exact HK.out)) hkp (fun k_ hs_ => (fun e_ => (HO0.out.1 k_ e_.symm)) hs_))
  have n3_ := Aside0.mk (hb)
  clear BK115
  clear HK
  clear HB
  clear HO0
  have BK115 := n0_
  have HO118 := n1_
  have HK := n2_
  have HB := n3_
  clear n0_ n1_ n2_ n3_
  (try clear hb)
  (try clear hkp)
  (try clear ho0)
  obtain ⟨Ao10, co10, eo10⟩ := Kd.R_slice HO118.out
  (first | subst eo10 | (injection eo10 with f1_ f2_ f3_; have f4_ := f1_.symm; have f5_ := f3_.symm; clear f1_ f2_ f3_; subst f4_; subst f5_))
  refine hK.out _ _ ⟨(blk_cell BK115.out 0).trans rfl, (blk_cell BK115.out 1).trans rfl, (blk_cell BK115.out 2).trans rfl⟩ (fun hHeld => ?_)
  clear hK K
  refine norm_ (a' := ?_) ?_ ?_
  rotate_left
  · show Act.put _ (some 8) _ = _
    simp only [Act.put, List.setIfInBounds_toArray, List.set_cons_zero, List.set_cons_succ, i64_w, i32_w]
    rfl
  refine one_ (i := 6) (N := some 11) #[true, true, true, true, true, true, true, true, true, false, false] rfl rfl (one_of HT_.out (by kernel_rfl)) (by decide) (fun K hK => ?_)
  refine goes_ Tryd.func26 (by kernel_rfl) rfl #[.slice Ao10 t116.length co10, .int .i64 a1_1] (by rfl) rfl rfl (by (try simp only [List.map_toArray, List.map_cons, List.map_nil]); first | done | rfl | (simp only [List.length_drop, List.length_take]; rfl)) ?_
  with_reducible refine (image_nat.calls (fun k_ => some k_ = (.slice Ao10 t116.length co10 : Value).ownBlock) (.slice Ao10 t116.length co10) t116 a1_1 t119 w0 _ ?side1 ?side2 A4.out).mono ?_
  (case side1 => repeat (first | (with_reducible first | exact HB.out | apply below_alloc | apply pw_below_drewN | apply below_drew1 | refine below_set ?_ GE115.out) | exact HB.out))
  (case side2 => exact Kd.R_tight rfl HO118.out)
  rintro e w11 ⟨v120, rfl, ho0, hb, hkp⟩
  refine ⟨_, rfl, ?_⟩
  have n0_ := Aside0.mk (blk_kept (by (with_reducible repeat (first | refine blk_drewN ?_ _ | refine blk_drew ?_ | refine blk_alloc ?_ _)); exact BK115.out) hkp (fun hs_ => (fun e_ => (Kd.R_ne HO118.out BK115.out (by decide)) e_) hs_))
  have n1_ := Aside0.mk (Kd.R_mono (ok' := fun k_ => (P0_ k_ ∨ w.heap.size ≤ k_)) ho0 (fun k_ hk_ => Or.elim hk_ (fun hs_ => (HO118.out.1 k_ (hs_).symm)) (fun hn_ => (.inr (Nat.le_trans (by first | exact HK.out.1 | exact (show Kept w _ (fun k_ => P0_ k_) from by repeat (first | (with_reducible first | exact HK.out | apply Kept.alloc | apply Kept.drewN | apply Kept.drew | refine Kept.setCell ?_ (.inr GW115.out) _) | exact HK.out)).1) hn_)))))
  have n2_ := Aside0.mk (Kept.then_ (S := (fun k_ => P0_ k_)) (by repeat (first | (with_reducible first | exact HK.out | apply Kept.alloc | apply Kept.drewN | apply Kept.drew | refine Kept.setCell ?_ (.inr GW115.out) _) | exact HK.out)) hkp (fun k_ hs_ => (fun e_ => (HO118.out.1 k_ e_.symm)) hs_))
  have n3_ := Aside0.mk (hb)
  clear BK115
  clear HK
  clear HB
  clear HO118
  have BK115 := n0_
  have HO121 := n1_
  have HK := n2_
  have HB := n3_
  clear n0_ n1_ n2_ n3_
  (try clear hb)
  (try clear hkp)
  (try clear ho0)
  obtain ⟨Ao12, co12, eo12⟩ := Kd.R_slice HO121.out
  (first | subst eo12 | (injection eo12 with f1_ f2_ f3_; have f4_ := f1_.symm; have f5_ := f3_.symm; clear f1_ f2_ f3_; subst f4_; subst f5_))
  refine hK.out _ _ ⟨(blk_cell BK115.out 0).trans rfl, (blk_cell BK115.out 1).trans rfl, (blk_cell BK115.out 2).trans rfl⟩ (fun hHeld => ?_)
  clear hK K
  refine norm_ (a' := ?_) ?_ ?_
  rotate_left
  · show Act.put _ (some 11) _ = _
    simp only [Act.put, List.setIfInBounds_toArray, List.set_cons_zero, List.set_cons_succ, i64_w, i32_w]
    rfl
  refine one_ (i := 9) (N := some 14) #[true, true, true, true, true, true, true, true, true, true, false] rfl rfl (one_of HT_.out (by kernel_rfl)) (by decide) (fun K hK => ?_)
  refine goes_ Tryd.func25 (by kernel_rfl) rfl #[.slice Ao12 t119.length co12, .int .i64 a1_2] (by rfl) rfl rfl (by (try simp only [List.map_toArray, List.map_cons, List.map_nil]); first | done | rfl | (simp only [List.length_drop, List.length_take]; rfl)) ?_
  with_reducible refine (image_whole.calls (fun k_ => some k_ = (.slice Ao12 t119.length co12 : Value).ownBlock) (.slice Ao12 t119.length co12) t119 a1_2 t122 w0 _ ?side1 ?side2 A5.out).mono ?_
  (case side1 => repeat (first | (with_reducible first | exact HB.out | apply below_alloc | apply pw_below_drewN | apply below_drew1 | refine below_set ?_ GE115.out) | exact HB.out))
  (case side2 => exact Kd.R_tight rfl HO121.out)
  rintro e w13 ⟨v123, rfl, ho0, hb, hkp⟩
  refine ⟨_, rfl, ?_⟩
  have n0_ := Aside0.mk (blk_kept (by (with_reducible repeat (first | refine blk_drewN ?_ _ | refine blk_drew ?_ | refine blk_alloc ?_ _)); exact BK115.out) hkp (fun hs_ => (fun e_ => (Kd.R_ne HO121.out BK115.out (by decide)) e_) hs_))
  have n1_ := Aside0.mk (Kd.R_mono (ok' := fun k_ => (P0_ k_ ∨ w.heap.size ≤ k_)) ho0 (fun k_ hk_ => Or.elim hk_ (fun hs_ => (HO121.out.1 k_ (hs_).symm)) (fun hn_ => (.inr (Nat.le_trans (by first | exact HK.out.1 | exact (show Kept w _ (fun k_ => P0_ k_) from by repeat (first | (with_reducible first | exact HK.out | apply Kept.alloc | apply Kept.drewN | apply Kept.drew | refine Kept.setCell ?_ (.inr GW115.out) _) | exact HK.out)).1) hn_)))))
  have n2_ := Aside0.mk (Kept.then_ (S := (fun k_ => P0_ k_)) (by repeat (first | (with_reducible first | exact HK.out | apply Kept.alloc | apply Kept.drewN | apply Kept.drew | refine Kept.setCell ?_ (.inr GW115.out) _) | exact HK.out)) hkp (fun k_ hs_ => (fun e_ => (HO121.out.1 k_ e_.symm)) hs_))
  have n3_ := Aside0.mk (hb)
  clear BK115
  clear HK
  clear HB
  clear HO121
  have BK115 := n0_
  have HO124 := n1_
  have HK := n2_
  have HB := n3_
  clear n0_ n1_ n2_ n3_
  (try clear hb)
  (try clear hkp)
  (try clear ho0)
  refine hK.out _ _ ⟨(blk_cell BK115.out 0).trans rfl, (blk_cell BK115.out 1).trans rfl, (blk_cell BK115.out 2).trans rfl⟩ (fun hHeld => ?_)
  clear hK K
  refine norm_ (a' := ?_) ?_ ?_
  rotate_left
  · show Act.put _ (some 14) _ = _
    simp only [Act.put, List.setIfInBounds_toArray, List.set_cons_zero, List.set_cons_succ, i64_w, i32_w]
    rfl
  refine pure_ (i := 10) (N := some 4) (v := ?_) (a' := ?_) #[true, true, true, true, true, true, true, true, true, true, true] rfl rfl (any_of HT_.out (by kernel_rfl)) (fun _ _ _ h => h) (Or.inl ⟨by rfl, ?_⟩) ?_ ?_
  rotate_left
  · intro w'
    go_simp
    with_reducible rfl
  rotate_left
  · simp only [Act.put, List.setIfInBounds_toArray, List.set_cons_zero, List.set_cons_succ, i64_w, i32_w]
    rfl
  refine done_ (done_of HT_.out (by kernel_rfl)) ?_
  try go_wp2
  go_ret
  exact ⟨_, by first | rfl | (simp [errW_none, errW_some] <;> rfl) | (simp [*, errW_none, errW_some] <;> rfl), by (with_reducible repeat (first | apply Kd.R_alloc | apply Kd.R_drewN | apply Kd.R_drew)); exact HO124.out, by repeat (first | (with_reducible first | exact HB.out | apply below_alloc | apply pw_below_drewN | apply below_drew1 | refine below_set ?_ GE115.out) | exact HB.out), by repeat (first | (with_reducible first | exact HK.out | apply Kept.alloc | apply Kept.drewN | apply Kept.drew | refine Kept.setCell ?_ (.inr GW115.out) _) | exact HK.out)⟩
def image_Encode_2_1.f (l0 : List Int) (a1_0 : Int) (a1_1 : Int) (a1_2 : Int) : Option (List Int) := (image_nat.f l0 a1_0).bind fun t126 => ((image_whole.f t126 a1_1).bind fun t129 => ((image_nat.f t129 a1_2).bind fun t132 => (some t132)))
def image_Encode_2_1.T1 : Bool × List (List Nat × List Nat) := (true, [([], []), ([], []), ([1], [1]), ([0, 2], [0, 2]), ([], []), ([4], [4]), ([3, 5, 3], [3, 5]), ([], []), ([7], [7]), ([6, 8, 6], [6, 8]), ([9, 9, 0, 1, 2, 3, 4, 5, 6, 7, 8, 9], [9])])
def image_Encode_2_1.B1 : List Nat := [0, 0, 2, 7, 0, 16, 63, 0, 128, 511, 1023]
theorem image_Encode_2_1.tab1 : rtab .any (opsOf Tryd.f32 1) = image_Encode_2_1.T1 := by kernel_rfl
theorem image_Encode_2_1.bits1 : waitsOk image_Encode_2_1.T1.2 image_Encode_2_1.B1 = true := by kernel_rfl
set_option maxHeartbeats 8000000 in
set_option maxRecDepth 100000 in
theorem image_Encode_2_1.calls (P0_ : Nat → Prop) (u9000_ : Value) (l0 : List Int) (a1_0 : Int) (a1_1 : Int) (a1_2 : Int) (r : List Int) (w0 w : World) (hB : Below w0.heap.size w0 w) (ho0 : Kd.R (Kd.int .u8) 5 w w0.heap.size P0_ u9000_ l0) (h : image_Encode_2_1.f l0 a1_0 a1_1 a1_2 = some r) :
    Calls Tryd.prog 32 #[u9000_, .agg #[.int .i64 a1_0, .int .i64 a1_1, .int .i64 a1_2]] w fun e w' => ∃ v0_ : Value, e = .returned (v0_) ∧ Kd.R (Kd.int .u8) 5 w' w0.heap.size (fun k_ => (P0_ k_ ∨ w.heap.size ≤ k_)) v0_ r ∧ Below w0.heap.size w0 w' ∧ Kept w w' (fun k_ => P0_ k_) := by
  have hu50 := Tryd.underlying50
  have HO0 := Aside0.mk (show Kd.R (Kd.int .u8) 5 w w0.heap.size (fun k_ => (P0_ k_ ∨ w.heap.size ≤ k_)) u9000_ l0 from Kd.R_mono ho0 (fun k_ hk => (.inl hk)))
  have HK := Aside0.mk (Kept.refl w (fun k_ => P0_ k_))
  have HW0 := Aside0.mk hB.size
  have HB := Aside0.mk hB
  clear hB
  have H : ((image_nat.f l0 a1_0).bind fun t126 => ((image_whole.f t126 a1_1).bind fun t129 => ((image_nat.f t129 a1_2).bind fun t132 => (some t132)))) = some r := h
  clear h
  replace H := Option.bind_eq_some_iff.mp H
  obtain ⟨t126, A30, H⟩ := H
  replace H : ((image_whole.f t126 a1_1).bind fun t129 => ((image_nat.f t129 a1_2).bind fun t132 => (some t132))) = some r := H
  have A3 := Aside0.mk A30
  clear A30
  replace H := Option.bind_eq_some_iff.mp H
  obtain ⟨t129, A40, H⟩ := H
  replace H : ((image_nat.f t129 a1_2).bind fun t132 => (some t132)) = some r := H
  have A4 := Aside0.mk A40
  clear A40
  replace H := Option.bind_eq_some_iff.mp H
  obtain ⟨t132, A50, H⟩ := H
  replace H : (some t132) = some r := H
  have A5 := Aside0.mk A50
  clear A50
  obtain rfl := Option.some.inj H
  go_enter Tryd.func32, Tryd.ntmps32
  try go_wp2_with (first | ((with_reducible refine gate_dst (N := 3) rfl ?_); refine box_event ?hg (N := 3) ?hd (cs := #[.int .i64 a1_0, .int .i64 a1_1, .int .i64 a1_2]) (t := 50) ?hr ?_; (case hd => rfl); (case hg => rfl); (case hr => first | (go_simp; done) | (go_simp; rfl)); intro gb125 hg w6 hbox hb; have n0_ := Aside0.mk (Kd.R_below (by (with_reducible repeat (first | apply Kd.R_alloc | apply Kd.R_drewN | apply Kd.R_drew)); exact HO0.out) hb); have n1_ := Aside0.mk (Kept.below (S := (fun k_ => P0_ k_)) (by repeat (first | (with_reducible first | exact HK.out | apply Kept.alloc | apply Kept.drewN | apply Kept.drew) | exact HK.out)) hb); have n2_ := Aside0.mk (below_step (by repeat (first | (with_reducible first | exact HB.out | apply below_alloc | apply pw_below_drewN | apply below_drew1) | exact HB.out)) hb); have n3_ := Aside0.mk (hbox); have n4_ := Aside0.mk ((by rw [hg]; exact (by first | exact HK.out.1 | exact (show Kept w _ (fun k_ => P0_ k_) from by repeat (first | (with_reducible first | exact HK.out | apply Kept.alloc | apply Kept.drewN | apply Kept.drew) | exact HK.out)).1) : w.heap.size ≤ gb125)); have n5_ := Aside0.mk ((by rw [hg]; exact (below_size (by repeat (first | (with_reducible first | exact HB.out | apply below_alloc | apply pw_below_drewN | apply below_drew1) | exact HB.out))) : w0.heap.size ≤ gb125)); clear HO0; clear HK; clear HB; have HO0 := n0_; have HK := n1_; have HB := n2_; have BK125 := n3_; have GW125 := n4_; have GE125 := n5_; clear n0_ n1_ n2_ n3_ n4_ n5_; clear hb hbox hg))
  have n0_ := Aside0.mk (Kd.R_drew HO0.out)
  have n1_ := Aside0.mk (blk_drew BK125.out)
  have n2_ := Aside0.mk (Kept.drew HK.out)
  have n3_ := Aside0.mk (below_drew1 HB.out)
  clear HO0
  clear BK125
  clear HK
  clear HB
  have HO0 := n0_
  have BK125 := n1_
  have HK := n2_
  have HB := n3_
  clear n0_ n1_ n2_ n3_
  obtain ⟨Ao8, co8, eo8⟩ := Kd.R_slice HO0.out
  (first | subst eo8 | (injection eo8 with f1_ f2_ f3_; have f4_ := f1_.symm; have f5_ := f3_.symm; clear f1_ f2_ f3_; subst f4_; subst f5_))
  refine start_ (n := 11) (S := fun w' => w'.cell? ⟨gb125, 0, none⟩ = some (.int .i64 a1_0) ∧ w'.cell? ⟨gb125, 1, none⟩ = some (.int .i64 a1_1) ∧ w'.cell? ⟨gb125, 2, none⟩ = some (.int .i64 a1_2)) (ds := []) #[false, false, false, false, false, false, false, false, false, false, false] (by kernel_rfl) rfl rfl ⟨(blk_cell BK125.out 0).trans rfl, (blk_cell BK125.out 1).trans rfl, (blk_cell BK125.out 2).trans rfl⟩ (fun hHeld => ?_); refine with_tabW image_Encode_2_1.tab1 image_Encode_2_1.bits1 (fun HT_ HW_ => ?_)
  generalize w6.drew = w7 at HO0 BK125 HK HB hHeld ⊢
  refine pure_ (i := 0) (N := some 5) (v := ?_) (a' := ?_) #[true, false, false, false, false, false, false, false, false, false, false] rfl rfl (any_of HT_.out (by kernel_rfl)) (fun _ _ _ h => h) (Or.inl ⟨by rfl, ?_⟩) ?_ ?_
  rotate_left
  · intro w'
    go_simp
    with_reducible rfl
  rotate_left
  · simp only [Act.put, List.setIfInBounds_toArray, List.set_cons_zero, List.set_cons_succ, i64_w, i32_w]
    rfl
  refine pure_ (i := 1) (N := some 6) (v := ?_) (a' := ?_) #[true, true, false, false, false, false, false, false, false, false, false] rfl rfl (any_of HT_.out (by kernel_rfl)) (fun _ _ _ h => h) (Or.inl ⟨by rfl, ?_⟩) ?_ ?_
  rotate_left
  · intro w'
    go_simp
    with_reducible rfl
  rotate_left
  · simp only [Act.put, List.setIfInBounds_toArray, List.set_cons_zero, List.set_cons_succ, i64_w, i32_w]
    rfl
  refine pure_ (i := 4) (N := some 9) (v := ?_) (a' := ?_) #[true, true, false, false, true, false, false, false, false, false, false] rfl rfl (any_of HT_.out (by kernel_rfl)) (fun _ _ _ h => h) (Or.inl ⟨by rfl, ?_⟩) ?_ ?_
  rotate_left
  · intro w'
    go_simp
    with_reducible rfl
  rotate_left
  · simp only [Act.put, List.setIfInBounds_toArray, List.set_cons_zero, List.set_cons_succ, i64_w, i32_w]
    rfl
  refine pure_ (i := 7) (N := some 12) (v := ?_) (a' := ?_) #[true, true, false, false, true, false, false, true, false, false, false] rfl rfl (any_of HT_.out (by kernel_rfl)) (fun _ _ _ h => h) (Or.inl ⟨by rfl, ?_⟩) ?_ ?_
  rotate_left
  · intro w'
    go_simp
    with_reducible rfl
  rotate_left
  · simp only [Act.put, List.setIfInBounds_toArray, List.set_cons_zero, List.set_cons_succ, i64_w, i32_w]
    rfl
  refine take_ (i := 2) (N := some 7) (v := ?_) (a' := ?_) #[true, true, true, false, true, false, false, true, false, false, false] rfl rfl (take_ofW HT_.out HW_.out (by kernel_rfl)) (fun _ _ _ h => h) (Or.inl ⟨by rfl, ?_⟩) hHeld ?_ ?_
  rotate_left
  · rintro w' ⟨s0, s1, s2⟩
    go_simp
    with_reducible rfl
  rotate_left
  · simp only [Act.put, List.setIfInBounds_toArray, List.set_cons_zero, List.set_cons_succ, i64_w, i32_w]
    rfl
  refine take_ (i := 5) (N := some 10) (v := ?_) (a' := ?_) #[true, true, true, false, true, true, false, true, false, false, false] rfl rfl (take_ofW HT_.out HW_.out (by kernel_rfl)) (fun _ _ _ h => h) (Or.inl ⟨by rfl, ?_⟩) hHeld ?_ ?_
  rotate_left
  · rintro w' ⟨s0, s1, s2⟩
    go_simp
    with_reducible rfl
  rotate_left
  · simp only [Act.put, List.setIfInBounds_toArray, List.set_cons_zero, List.set_cons_succ, i64_w, i32_w]
    rfl
  refine take_ (i := 8) (N := some 13) (v := ?_) (a' := ?_) #[true, true, true, false, true, true, false, true, true, false, false] rfl rfl (take_ofW HT_.out HW_.out (by kernel_rfl)) (fun _ _ _ h => h) (Or.inl ⟨by rfl, ?_⟩) hHeld ?_ ?_
  rotate_left
  · rintro w' ⟨s0, s1, s2⟩
    go_simp
    with_reducible rfl
  rotate_left
  · simp only [Act.put, List.setIfInBounds_toArray, List.set_cons_zero, List.set_cons_succ, i64_w, i32_w]
    rfl
  refine one_ (i := 3) (N := some 8) #[true, true, true, true, true, true, false, true, true, false, false] rfl rfl (one_of HT_.out (by kernel_rfl)) (by decide) (fun K hK => ?_)
  refine goes_ Tryd.func26 (by kernel_rfl) rfl #[.slice Ao8 l0.length co8, .int .i64 a1_0] (by rfl) rfl rfl (by (try simp only [List.map_toArray, List.map_cons, List.map_nil]); first | done | rfl | (simp only [List.length_drop, List.length_take]; rfl)) ?_
  with_reducible refine (image_nat.calls (fun k_ => some k_ = (.slice Ao8 l0.length co8 : Value).ownBlock) (.slice Ao8 l0.length co8) l0 a1_0 t126 w0 _ ?side1 ?side2 A3.out).mono ?_
  (case side1 => repeat (first | (with_reducible first | exact HB.out | apply below_alloc | apply pw_below_drewN | apply below_drew1 | refine below_set ?_ GE125.out) | exact HB.out))
  (case side2 => exact Kd.R_tight rfl HO0.out)
  rintro e w9 ⟨v127, rfl, ho0, hb, hkp⟩
  refine ⟨_, rfl, ?_⟩
  have n0_ := Aside0.mk (blk_kept (by (with_reducible repeat (first | refine blk_drewN ?_ _ | refine blk_drew ?_ | refine blk_alloc ?_ _)); exact BK125.out) hkp (fun hs_ => (fun e_ => (Kd.R_ne HO0.out BK125.out (by decide)) e_) hs_))
  have n1_ := Aside0.mk (Kd.R_mono (ok' := fun k_ => (P0_ k_ ∨ w.heap.size ≤ k_)) ho0 (fun k_ hk_ => Or.elim hk_ (fun hs_ => (HO0.out.1 k_ (hs_).symm)) (fun hn_ => (.inr (Nat.le_trans (by first | exact HK.out.1 | exact (show Kept w _ (fun k_ => P0_ k_) from by repeat (first | (with_reducible first | exact HK.out | apply Kept.alloc | apply Kept.drewN | apply Kept.drew | refine Kept.setCell ?_ (.inr GW125.out) _) | exact HK.out)).1) hn_)))))
  have n2_ := Aside0.mk (Kept.then_ (S := (fun k_ => P0_ k_)) (by repeat (first | (with_reducible first | exact HK.out | apply Kept.alloc | apply Kept.drewN | apply Kept.drew | refine Kept.setCell ?_ (.inr GW125.out) _) | exact HK.out)) hkp (fun k_ hs_ => (fun e_ => (HO0.out.1 k_ e_.symm)) hs_))
  have n3_ := Aside0.mk (hb)
  clear BK125
  clear HK
  clear HB
  clear HO0
  have BK125 := n0_
  have HO128 := n1_
  have HK := n2_
  have HB := n3_
  clear n0_ n1_ n2_ n3_
  (try clear hb)
  (try clear hkp)
  (try clear ho0)
  obtain ⟨Ao10, co10, eo10⟩ := Kd.R_slice HO128.out
  (first | subst eo10 | (injection eo10 with f1_ f2_ f3_; have f4_ := f1_.symm; have f5_ := f3_.symm; clear f1_ f2_ f3_; subst f4_; subst f5_))
  refine hK.out _ _ ⟨(blk_cell BK125.out 0).trans rfl, (blk_cell BK125.out 1).trans rfl, (blk_cell BK125.out 2).trans rfl⟩ (fun hHeld => ?_)
  clear hK K
  refine norm_ (a' := ?_) ?_ ?_
  rotate_left
  · show Act.put _ (some 8) _ = _
    simp only [Act.put, List.setIfInBounds_toArray, List.set_cons_zero, List.set_cons_succ, i64_w, i32_w]
    rfl
  refine one_ (i := 6) (N := some 11) #[true, true, true, true, true, true, true, true, true, false, false] rfl rfl (one_of HT_.out (by kernel_rfl)) (by decide) (fun K hK => ?_)
  refine goes_ Tryd.func25 (by kernel_rfl) rfl #[.slice Ao10 t126.length co10, .int .i64 a1_1] (by rfl) rfl rfl (by (try simp only [List.map_toArray, List.map_cons, List.map_nil]); first | done | rfl | (simp only [List.length_drop, List.length_take]; rfl)) ?_
  with_reducible refine (image_whole.calls (fun k_ => some k_ = (.slice Ao10 t126.length co10 : Value).ownBlock) (.slice Ao10 t126.length co10) t126 a1_1 t129 w0 _ ?side1 ?side2 A4.out).mono ?_
  (case side1 => repeat (first | (with_reducible first | exact HB.out | apply below_alloc | apply pw_below_drewN | apply below_drew1 | refine below_set ?_ GE125.out) | exact HB.out))
  (case side2 => exact Kd.R_tight rfl HO128.out)
  rintro e w11 ⟨v130, rfl, ho0, hb, hkp⟩
  refine ⟨_, rfl, ?_⟩
  have n0_ := Aside0.mk (blk_kept (by (with_reducible repeat (first | refine blk_drewN ?_ _ | refine blk_drew ?_ | refine blk_alloc ?_ _)); exact BK125.out) hkp (fun hs_ => (fun e_ => (Kd.R_ne HO128.out BK125.out (by decide)) e_) hs_))
  have n1_ := Aside0.mk (Kd.R_mono (ok' := fun k_ => (P0_ k_ ∨ w.heap.size ≤ k_)) ho0 (fun k_ hk_ => Or.elim hk_ (fun hs_ => (HO128.out.1 k_ (hs_).symm)) (fun hn_ => (.inr (Nat.le_trans (by first | exact HK.out.1 | exact (show Kept w _ (fun k_ => P0_ k_) from by repeat (first | (with_reducible first | exact HK.out | apply Kept.alloc | apply Kept.drewN | apply Kept.drew | refine Kept.setCell ?_ (.inr GW125.out) _) | exact HK.out)).1) hn_)))))
  have n2_ := Aside0.mk (Kept.then_ (S := (fun k_ => P0_ k_)) (by repeat (first | (with_reducible first | exact HK.out | apply Kept.alloc | apply Kept.drewN | apply Kept.drew | refine Kept.setCell ?_ (.inr GW125.out) _) | exact HK.out)) hkp (fun k_ hs_ => (fun e_ => (HO128.out.1 k_ e_.symm)) hs_))
  have n3_ := Aside0.mk (hb)
  clear BK125
  clear HK
  clear HB
  clear HO128
  have BK125 := n0_
  have HO131 := n1_
  have HK := n2_
  have HB := n3_
  clear n0_ n1_ n2_ n3_
  (try clear hb)
  (try clear hkp)
  (try clear ho0)
  obtain ⟨Ao12, co12, eo12⟩ := Kd.R_slice HO131.out
  (first | subst eo12 | (injection eo12 with f1_ f2_ f3_; have f4_ := f1_.symm; have f5_ := f3_.symm; clear f1_ f2_ f3_; subst f4_; subst f5_))
  refine hK.out _ _ ⟨(blk_cell BK125.out 0).trans rfl, (blk_cell BK125.out 1).trans rfl, (blk_cell BK125.out 2).trans rfl⟩ (fun hHeld => ?_)
  clear hK K
  refine norm_ (a' := ?_) ?_ ?_
  rotate_left
  · show Act.put _ (some 11) _ = _
    simp only [Act.put, List.setIfInBounds_toArray, List.set_cons_zero, List.set_cons_succ, i64_w, i32_w]
    rfl
  refine one_ (i := 9) (N := some 14) #[true, true, true, true, true, true, true, true, true, true, false] rfl rfl (one_of HT_.out (by kernel_rfl)) (by decide) (fun K hK => ?_)
  refine goes_ Tryd.func26 (by kernel_rfl) rfl #[.slice Ao12 t129.length co12, .int .i64 a1_2] (by rfl) rfl rfl (by (try simp only [List.map_toArray, List.map_cons, List.map_nil]); first | done | rfl | (simp only [List.length_drop, List.length_take]; rfl)) ?_
  with_reducible refine (image_nat.calls (fun k_ => some k_ = (.slice Ao12 t129.length co12 : Value).ownBlock) (.slice Ao12 t129.length co12) t129 a1_2 t132 w0 _ ?side1 ?side2 A5.out).mono ?_
  (case side1 => repeat (first | (with_reducible first | exact HB.out | apply below_alloc | apply pw_below_drewN | apply below_drew1 | refine below_set ?_ GE125.out) | exact HB.out))
  (case side2 => exact Kd.R_tight rfl HO131.out)
  rintro e w13 ⟨v133, rfl, ho0, hb, hkp⟩
  refine ⟨_, rfl, ?_⟩
  have n0_ := Aside0.mk (blk_kept (by (with_reducible repeat (first | refine blk_drewN ?_ _ | refine blk_drew ?_ | refine blk_alloc ?_ _)); exact BK125.out) hkp (fun hs_ => (fun e_ => (Kd.R_ne HO131.out BK125.out (by decide)) e_) hs_))
  have n1_ := Aside0.mk (Kd.R_mono (ok' := fun k_ => (P0_ k_ ∨ w.heap.size ≤ k_)) ho0 (fun k_ hk_ => Or.elim hk_ (fun hs_ => (HO131.out.1 k_ (hs_).symm)) (fun hn_ => (.inr (Nat.le_trans (by first | exact HK.out.1 | exact (show Kept w _ (fun k_ => P0_ k_) from by repeat (first | (with_reducible first | exact HK.out | apply Kept.alloc | apply Kept.drewN | apply Kept.drew | refine Kept.setCell ?_ (.inr GW125.out) _) | exact HK.out)).1) hn_)))))
  have n2_ := Aside0.mk (Kept.then_ (S := (fun k_ => P0_ k_)) (by repeat (first | (with_reducible first | exact HK.out | apply Kept.alloc | apply Kept.drewN | apply Kept.drew | refine Kept.setCell ?_ (.inr GW125.out) _) | exact HK.out)) hkp (fun k_ hs_ => (fun e_ => (HO131.out.1 k_ e_.symm)) hs_))
  have n3_ := Aside0.mk (hb)
  clear BK125
  clear HK
  clear HB
  clear HO131
  have BK125 := n0_
  have HO134 := n1_
  have HK := n2_
  have HB := n3_
  clear n0_ n1_ n2_ n3_
  (try clear hb)
  (try clear hkp)
  (try clear ho0)
  refine hK.out _ _ ⟨(blk_cell BK125.out 0).trans rfl, (blk_cell BK125.out 1).trans rfl, (blk_cell BK125.out 2).trans rfl⟩ (fun hHeld => ?_)
  clear hK K
  refine norm_ (a' := ?_) ?_ ?_
  rotate_left
  · show Act.put _ (some 14) _ = _
    simp only [Act.put, List.setIfInBounds_toArray, List.set_cons_zero, List.set_cons_succ, i64_w, i32_w]
    rfl
  refine pure_ (i := 10) (N := some 4) (v := ?_) (a' := ?_) #[true, true, true, true, true, true, true, true, true, true, true] rfl rfl (any_of HT_.out (by kernel_rfl)) (fun _ _ _ h => h) (Or.inl ⟨by rfl, ?_⟩) ?_ ?_
  rotate_left
  · intro w'
    go_simp
    with_reducible rfl
  rotate_left
  · simp only [Act.put, List.setIfInBounds_toArray, List.set_cons_zero, List.set_cons_succ, i64_w, i32_w]
    rfl
  refine done_ (done_of HT_.out (by kernel_rfl)) ?_
  try go_wp2
  go_ret
  exact ⟨_, by first | rfl | (simp [errW_none, errW_some] <;> rfl) | (simp [*, errW_none, errW_some] <;> rfl), by (with_reducible repeat (first | apply Kd.R_alloc | apply Kd.R_drewN | apply Kd.R_drew)); exact HO134.out, by repeat (first | (with_reducible first | exact HB.out | apply below_alloc | apply pw_below_drewN | apply below_drew1 | refine below_set ?_ GE125.out) | exact HB.out), by repeat (first | (with_reducible first | exact HK.out | apply Kept.alloc | apply Kept.drewN | apply Kept.drew | refine Kept.setCell ?_ (.inr GW125.out) _) | exact HK.out)⟩
def image_typed.f (a0 : Int) : Option (Bool) := if 1 ≤ a0 then (some (decide (a0 ≤ 4))) else (some false)
set_option maxHeartbeats 8000000 in
set_option maxRecDepth 100000 in
theorem image_typed.calls (a0 : Int) (r : Bool) (w : World) (h : image_typed.f a0 = some r) :
    Calls Tryd.prog 80 #[.int .i64 a0] w fun e w' => e = .returned (.bool r) ∧ Drawn0 w w' := by
  have H : (if 1 ≤ a0 then (some (decide (a0 ≤ 4))) else (some false)) = some r := h
  clear h
  by_cases c2 : 1 ≤ a0
  · rw [if_pos c2] at H
    have c2b0 : decide (1 ≤ a0) = true := decide_eq_true c2
    clear c2
    obtain rfl := Option.some.inj H
    go_enter Tryd.func80, Tryd.ntmps80
    go_wp2
    go_ret
    exact ⟨by first | rfl | (simp; done) | (simp [*]; done), by repeat (first | exact Drawn0.refl _ | apply Drawn0.step)⟩
  · rw [if_neg c2] at H
    have c2b0 : decide (1 ≤ a0) = false := decide_eq_false c2
    clear c2
    obtain rfl := Option.some.inj H
    go_enter Tryd.func80, Tryd.ntmps80
    go_wp2
    go_ret
    exact ⟨by first | rfl | (simp; done) | (simp [*]; done), by repeat (first | exact Drawn0.refl _ | apply Drawn0.step)⟩
def image_types_1.f (a0 : Int) : Option (Bool) := (image_typed.f a0).bind fun t135 => (some (!t135))
set_option maxHeartbeats 8000000 in
set_option maxRecDepth 100000 in
theorem image_types_1.calls (a0 : Int) (r : Bool) (w : World) (h : image_types_1.f a0 = some r) :
    Calls Tryd.prog 103 #[.int .i64 a0] w fun e w' => e = .returned (.bool r) ∧ Drawn0 w w' := by
  have H : ((image_typed.f a0).bind fun t135 => (some (!t135))) = some r := h
  clear h
  replace H := Option.bind_eq_some_iff.mp H
  obtain ⟨t135, A20, H⟩ := H
  replace H : (some (!t135)) = some r := H
  have A2 := Aside0.mk A20
  clear A20
  obtain rfl := Option.some.inj H
  go_enter Tryd.func103, Tryd.ntmps103
  go_wp2_with (first | ((with_reducible refine gate_callee (f := 80) rfl ?_); refine goesL_ (some 4) rfl rfl Tryd.func80 (by kernel_rfl) rfl #[.int .i64 a0] rfl (by (try simp only [List.map_toArray, List.map_cons, List.map_nil]); first | done | rfl | (simp only [List.length_drop, List.length_take]; rfl)) ?_; (with_reducible refine (image_typed.calls a0 t135 _ A2.out).mono ?_); rintro e w' ⟨rfl, ⟨nd, rfl⟩⟩; refine ⟨_, rfl, ?_⟩))
  go_ret
  exact ⟨by first | rfl | (simp; done) | (simp [*]; done), by repeat (first | exact Drawn0.refl _ | apply Drawn0.step)⟩
def image_fn_1.f (a0_0 : Int) (a0_1 : Int) (a0_2 : Int) : Option (Bool) := if a0_0 < 1 then (some true) else (if a0_0 > 33 then (some true) else (if a0_2 < 0 then (some true) else (some (decide (a0_2 > 4)))))
set_option maxHeartbeats 8000000 in
set_option maxRecDepth 100000 in
theorem image_fn_1.calls (a0_0 : Int) (a0_1 : Int) (a0_2 : Int) (r : Bool) (w : World) (h : image_fn_1.f a0_0 a0_1 a0_2 = some r) :
    Calls Tryd.prog 86 #[.agg #[.int .i64 a0_0, .int .i64 a0_1, .int .i64 a0_2]] w fun e w' => e = .returned (.bool r) ∧ Below w.heap.size w w' := by
  have hu50 := Tryd.underlying50
  have HB := Aside0.mk (Below.refl w.heap.size w)
  have H : (if a0_0 < 1 then (some true) else (if a0_0 > 33 then (some true) else (if a0_2 < 0 then (some true) else (some (decide (a0_2 > 4)))))) = some r := h
  clear h
  by_cases c2 : a0_0 < 1
  · rw [if_pos c2] at H
    have c2b0 : decide (a0_0 < 1) = true := decide_eq_true c2
    clear c2
    obtain rfl := Option.some.inj H
    go_enter Tryd.func86, Tryd.ntmps86
    go_wp2_with (first | ((with_reducible refine gate_dst (N := 1) rfl ?_); refine box_event ?hg (N := 1) ?hd (cs := #[.int .i64 a0_0, .int .i64 a0_1, .int .i64 a0_2]) (t := 50) ?hr ?_; (case hd => rfl); (case hg => rfl); (case hr => first | (go_simp; done) | (go_simp; rfl)); intro gb136 hg w3 hbox hb; have n0_ := Aside0.mk (below_step (by repeat (first | (with_reducible first | exact HB.out | apply below_alloc | apply pw_below_drewN | apply below_drew1) | exact HB.out)) hb); have n1_ := Aside0.mk (hbox); have n2_ := Aside0.mk ((by rw [hg]; exact (below_size (by repeat (first | (with_reducible first | exact HB.out | apply below_alloc | apply pw_below_drewN | apply below_drew1) | exact HB.out))) : w.heap.size ≤ gb136)); have n3_ := Aside0.mk ((by rw [hg]; exact (below_size (by repeat (first | (with_reducible first | exact HB.out | apply below_alloc | apply pw_below_drewN | apply below_drew1) | exact HB.out))) : w.heap.size ≤ gb136)); clear HB; have HB := n0_; have BK136 := n1_; have GW136 := n2_; have GE136 := n3_; clear n0_ n1_ n2_ n3_; clear hb hbox hg; have hcz4_0 : w3.cell? ⟨gb136, 0, none⟩ = some (.int .i64 a0_0) := (blk_cell BK136.out 0).trans rfl; have hcz4_1 : w3.cell? ⟨gb136, 1, none⟩ = some (.int .i64 a0_1) := (blk_cell BK136.out 1).trans rfl; have hcz4_2 : w3.cell? ⟨gb136, 2, none⟩ = some (.int .i64 a0_2) := (blk_cell BK136.out 2).trans rfl; have hfz4_0 := blk_frozen BK136.out 0; have hfz4_1 := blk_frozen BK136.out 1; have hfz4_2 := blk_frozen BK136.out 2))
    go_ret
    exact ⟨by first | rfl | (simp [errW_none, errW_some] <;> rfl) | (simp [*, errW_none, errW_some] <;> rfl), by repeat (first | (with_reducible first | exact HB.out | apply below_alloc | apply pw_below_drewN | apply below_drew1 | refine below_set ?_ GE136.out) | exact HB.out)⟩
  · rw [if_neg c2] at H
    have c2b0 : decide (a0_0 < 1) = false := decide_eq_false c2
    clear c2
    by_cases c5 : a0_0 > 33
    · rw [if_pos c5] at H
      have c5b0 : decide (33 < a0_0) = true := decide_eq_true c5
      clear c5
      obtain rfl := Option.some.inj H
      go_enter Tryd.func86, Tryd.ntmps86
      go_wp2_with (first | ((with_reducible refine gate_dst (N := 1) rfl ?_); refine box_event ?hg (N := 1) ?hd (cs := #[.int .i64 a0_0, .int .i64 a0_1, .int .i64 a0_2]) (t := 50) ?hr ?_; (case hd => rfl); (case hg => rfl); (case hr => first | (go_simp; done) | (go_simp; rfl)); intro gb136 hg w6 hbox hb; have n0_ := Aside0.mk (below_step (by repeat (first | (with_reducible first | exact HB.out | apply below_alloc | apply pw_below_drewN | apply below_drew1) | exact HB.out)) hb); have n1_ := Aside0.mk (hbox); have n2_ := Aside0.mk ((by rw [hg]; exact (below_size (by repeat (first | (with_reducible first | exact HB.out | apply below_alloc | apply pw_below_drewN | apply below_drew1) | exact HB.out))) : w.heap.size ≤ gb136)); have n3_ := Aside0.mk ((by rw [hg]; exact (below_size (by repeat (first | (with_reducible first | exact HB.out | apply below_alloc | apply pw_below_drewN | apply below_drew1) | exact HB.out))) : w.heap.size ≤ gb136)); clear HB; have HB := n0_; have BK136 := n1_; have GW136 := n2_; have GE136 := n3_; clear n0_ n1_ n2_ n3_; clear hb hbox hg; have hcz7_0 : w6.cell? ⟨gb136, 0, none⟩ = some (.int .i64 a0_0) := (blk_cell BK136.out 0).trans rfl; have hcz7_1 : w6.cell? ⟨gb136, 1, none⟩ = some (.int .i64 a0_1) := (blk_cell BK136.out 1).trans rfl; have hcz7_2 : w6.cell? ⟨gb136, 2, none⟩ = some (.int .i64 a0_2) := (blk_cell BK136.out 2).trans rfl; have hfz7_0 := blk_frozen BK136.out 0; have hfz7_1 := blk_frozen BK136.out 1; have hfz7_2 := blk_frozen BK136.out 2))
      go_ret
      exact ⟨by first | rfl | (simp [errW_none, errW_some] <;> rfl) | (simp [*, errW_none, errW_some] <;> rfl), by repeat (first | (with_reducible first | exact HB.out | apply below_alloc | apply pw_below_drewN | apply below_drew1 | refine below_set ?_ GE136.out) | exact HB.out)⟩
    · rw [if_neg c5] at H
      have c5b0 : decide (33 < a0_0) = false := decide_eq_false c5
      clear c5
      by_cases c8 : a0_2 < 0
      · rw [if_pos c8] at H
        have c8b0 : decide (a0_2 < 0) = true := decide_eq_true c8
        clear c8
        obtain rfl := Option.some.inj H
        go_enter Tryd.func86, Tryd.ntmps86
        go_wp2_with (first | ((with_reducible refine gate_dst (N := 1) rfl ?_); refine box_event ?hg (N := 1) ?hd (cs := #[.int .i64 a0_0, .int .i64 a0_1, .int .i64 a0_2]) (t := 50) ?hr ?_; (case hd => rfl); (case hg => rfl); (case hr => first | (go_simp; done) | (go_simp; rfl)); intro gb136 hg w9 hbox hb; have n0_ := Aside0.mk (below_step (by repeat (first | (with_reducible first | exact HB.out | apply below_alloc | apply pw_below_drewN | apply below_drew1) | exact HB.out)) hb); have n1_ := Aside0.mk (hbox); have n2_ := Aside0.mk ((by rw [hg]; exact (below_size (by repeat (first | (with_reducible first | exact HB.out | apply below_alloc | apply pw_below_drewN | apply below_drew1) | exact HB.out))) : w.heap.size ≤ gb136)); have n3_ := Aside0.mk ((by rw [hg]; exact (below_size (by repeat (first | (with_reducible first | exact HB.out | apply below_alloc | apply pw_below_drewN | apply below_drew1) | exact HB.out))) : w.heap.size ≤ gb136)); clear HB; have HB := n0_; have BK136 := n1_; have GW136 := n2_; have GE136 := n3_; clear n0_ n1_ n2_ n3_; clear hb hbox hg; have hcz10_0 : w9.cell? ⟨gb136, 0, none⟩ = some (.int .i64 a0_0) := (blk_cell BK136.out 0).trans rfl; have hcz10_1 : w9.cell? ⟨gb136, 1, none⟩ = some (.int .i64 a0_1) := (blk_cell BK136.out 1).trans rfl; have hcz10_2 : w9.cell? ⟨gb136, 2, none⟩ = some (.int .i64 a0_2) := (blk_cell BK136.out 2).trans rfl; have hfz10_0 := blk_frozen BK136.out 0; have hfz10_1 := blk_frozen BK136.out 1; have hfz10_2 := blk_frozen BK136.out 2))
        go_ret
        exact ⟨by first | rfl | (simp [errW_none, errW_some] <;> rfl) | (simp [*, errW_none, errW_some] <;> rfl), by repeat (first | (with_reducible first | exact HB.out | apply below_alloc | apply pw_below_drewN | apply below_drew1 | refine below_set ?_ GE136.out) | exact HB.out)⟩
      · rw [if_neg c8] at H
        have c8b0 : decide (a0_2 < 0) = false := decide_eq_false c8
        clear c8
        obtain rfl := Option.some.inj H
        go_enter Tryd.func86, Tryd.ntmps86
        go_wp2_with (first | ((with_reducible refine gate_dst (N := 1) rfl ?_); refine box_event ?hg (N := 1) ?hd (cs := #[.int .i64 a0_0, .int .i64 a0_1, .int .i64 a0_2]) (t := 50) ?hr ?_; (case hd => rfl); (case hg => rfl); (case hr => first | (go_simp; done) | (go_simp; rfl)); intro gb136 hg w11 hbox hb; have n0_ := Aside0.mk (below_step (by repeat (first | (with_reducible first | exact HB.out | apply below_alloc | apply pw_below_drewN | apply below_drew1) | exact HB.out)) hb); have n1_ := Aside0.mk (hbox); have n2_ := Aside0.mk ((by rw [hg]; exact (below_size (by repeat (first | (with_reducible first | exact HB.out | apply below_alloc | apply pw_below_drewN | apply below_drew1) | exact HB.out))) : w.heap.size ≤ gb136)); have n3_ := Aside0.mk ((by rw [hg]; exact (below_size (by repeat (first | (with_reducible first | exact HB.out | apply below_alloc | apply pw_below_drewN | apply below_drew1) | exact HB.out))) : w.heap.size ≤ gb136)); clear HB; have HB := n0_; have BK136 := n1_; have GW136 := n2_; have GE136 := n3_; clear n0_ n1_ n2_ n3_; clear hb hbox hg; have hcz12_0 : w11.cell? ⟨gb136, 0, none⟩ = some (.int .i64 a0_0) := (blk_cell BK136.out 0).trans rfl; have hcz12_1 : w11.cell? ⟨gb136, 1, none⟩ = some (.int .i64 a0_1) := (blk_cell BK136.out 1).trans rfl; have hcz12_2 : w11.cell? ⟨gb136, 2, none⟩ = some (.int .i64 a0_2) := (blk_cell BK136.out 2).trans rfl; have hfz12_0 := blk_frozen BK136.out 0; have hfz12_1 := blk_frozen BK136.out 1; have hfz12_2 := blk_frozen BK136.out 2))
        go_ret
        exact ⟨by first | rfl | (simp [errW_none, errW_some] <;> rfl) | (simp [*, errW_none, errW_some] <;> rfl), by repeat (first | (with_reducible first | exact HB.out | apply below_alloc | apply pw_below_drewN | apply below_drew1 | refine below_set ?_ GE136.out) | exact HB.out)⟩
end Go.Proofs.YteidgpaakoeefaaDoor.PIm
