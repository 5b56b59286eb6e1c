/- The walks of Grow, Concat, put, Num, Int, Text, Frame once more, with the rows' spare room. Printed by gen_u.py. -/
import Derived.Test.YtcgjaobbjeagoaaDoorWireT
import Derived.Test.YtcgjaobbjeagoaaDoorWireF
namespace Go.Proofs.YtcgjaobbjeagoaaDoor
open Go.RowKit Go.Proofs.YtcgjaobbjeagoaaDoorW.PrintWords Go.Proofs.YtcgjaobbjeagoaaDoorW.PrintLast Go.Proofs.YtcgjaobbjeagoaaDoorW.PrintMore
set_option linter.unusedVariables false
set_option linter.unusedSimpArgs false

def RS (base : Nat) (w : World) (v : Value) (xs : List Int) : Prop := ∃ sp, RF base w v xs sp
theorem RS.nil (base : Nat) (w : World) : RS base w (.slice none 0 0) [] := ⟨[], RF.nil _ _⟩
theorem RS.lower {base base' : Nat} {w : World} {v : Value} {xs : List Int} (h : RS base w v xs) (hb : base' ≤ base) : RS base' w v xs := by
  obtain ⟨sp, h⟩ := h
  exact ⟨sp, h.lower hb⟩
theorem RS.below {base : Nat} {w w1 : World} {v : Value} {xs : List Int} (h : RS base w v xs) (hb : Below w.heap.size w w1) : RS base w1 v xs := by
  obtain ⟨sp, h⟩ := h
  exact ⟨sp, h.below hb⟩
theorem RF.take0 {base : Nat} {w : World} {A : Option Addr} {c : Nat} {xs sp : List Int} (h : RF base w (.slice A xs.length c) xs sp) (hx : ∀ x ∈ xs, 0 ≤ x ∧ x < 256) : RS base w (.slice A 0 c) [] := by
  refine ⟨xs ++ sp, ?_⟩
  rcases h with ⟨h1, rfl, rfl⟩ | ⟨g, h1, h2, h3, h4, h5⟩
  · cases h1
    exact RF.nil _ _
  · cases h1
    refine .inr ⟨g, by simp, h2, by simpa using h3, by simpa using h4, fun x hm => ?_⟩
    rcases List.mem_append.1 hm with hm | hm
    · exact hx x hm
    · exact h5 x hm

set_option maxHeartbeats 2000000 in
set_option maxRecDepth 100000 in
theorem grow_nilF (n : Int) (w : World) (h0 : 0 ≤ n) (hn : n ≤ 140737488355328) :
    Calls Tryd.prog 39 #[.slice none 0 0, .int .i64 n] w
      fun e w' => ∃ v, e = .returned v ∧ RS w.heap.size w' v [] ∧ Below w.heap.size w w' := by
  have HB := Aside0.mk (Below.refl w.heap.size w)
  by_cases hz : n = 0
  · subst hz
    go_enter Tryd.func39, Tryd.ntmps39
    go_wp2
    go_ret
    exact ⟨_, rfl, RS.nil _ _, HB.out⟩
  · have hp : 0 < n := by omega
    go_enter Tryd.func39, Tryd.ntmps39
    go_wp2_with (first | ((with_reducible refine gate_builtin (b := .append) (xs := #[.tmp 20, .tmp 21]) rfl ?_); at_builtin; refine wp_rf_zeros (w0 := w) w.heap.size rfl (.tmp 20) (.tmp 21) rfl n rfl rfl hp HB.out (Nat.le_refl _) hn ?_; intro v1 w1 sp1 ho hb; have HO := Aside0.mk ho; clear HB; have HB := Aside0.mk hb; clear ho hb; obtain ⟨A1, c1, hv⟩ := Kd.R_slice HO.out.R; subst hv; obtain ⟨i0, hi0, _, hsz0, _⟩ := info_parts infoB; obtain ⟨hcut, hA⟩ := print_take_int (P := Tryd.prog) (k := .i64) 23 5 Tryd.underlying23 hi0 hsz0 A1 c1 (List.replicate n.toNat 0) 0 (by omega) (by omega) (by have := (Kd.R_reads' HO.out.R).2.1; simpa using this)))
    go_ret
    exact ⟨_, rfl, HO.out.take0 (zeros_range _), HB.out⟩

def CRowF (w : World) (l0 l1 : List Int) (wr : World) (v vi : Value) : Prop :=
  Below w.heap.size w wr ∧ ((vi = .int .i64 0 ∧ RS w.heap.size wr v []) ∨ (vi = .int .i64 1 ∧ RS w.heap.size wr v l0) ∨
    (vi = .int .i64 2 ∧ RS w.heap.size wr v (l0 ++ l1)))

set_option maxHeartbeats 4000000 in
set_option maxRecDepth 100000 in
theorem concat_twoF (g : Nat) (A0 A1 : Option Addr) (c0 c1 : Nat) (l0 l1 : List Int) (w : World)
    (hg0 : w.cell? ⟨g, 0, none⟩ = some (.slice A0 l0.length c0)) (hg1 : w.cell? ⟨g, 1, none⟩ = some (.slice A1 l1.length c1))
    (hr0 : Kd.C (Kd.int .u8) w A0 l0.length l0) (hr1 : Kd.C (Kd.int .u8) w A1 l1.length l1) (hl : l0.length + l1.length ≤ 140737488355328) :
    Calls Tryd.prog 33 #[.slice (some ⟨g, 0, none⟩) 2 2] w
      fun e w' => ∃ v, e = .returned v ∧ RS w.heap.size w' v (l0 ++ l1) ∧ Below w.heap.size w w' := by
  have HB := Aside0.mk (Below.refl w.heap.size w)
  have HR0 := Aside0.mk hr0
  have HR1 := Aside0.mk hr1
  have hlt := World.block_lt_of_cell? w _ hg0
  have HLT : Aside0 (g < w.heap.size) := ⟨hlt⟩
  have HL := Aside0.mk hl
  clear hr0 hr1 hlt
  obtain ⟨n0, hn0⟩ : ∃ n : Nat, n = l0.length := ⟨_, rfl⟩
  obtain ⟨n1, hn1⟩ : ∃ n : Nat, n = l1.length := ⟨_, rfl⟩
  rw [← hn0] at hg0; rw [← hn1] at hg1; rw [← hn0, ← hn1] at hl
  have HN0 := Aside0.mk hn0; have HN1 := Aside0.mk hn1
  clear hn0 hn1
  go_enter Tryd.func33, Tryd.ntmps33
  go_wp2
  go_loop [3, 11] (fun vs vi => CRel n0 n1 vs vi) (fun _ vi => (2 - intOf vi).toNat)
  case atStart => exact .inl ⟨rfl, rfl⟩
  case round =>
    rcases hrel with ⟨rfl, rfl⟩ | ⟨rfl, rfl⟩ | ⟨rfl, rfl⟩
    · go_wp2
      exact ⟨.inr (.inl ⟨rfl, rfl⟩), by simp [intOf]⟩
    · go_wp2
      exact ⟨.inr (.inr ⟨rfl, rfl⟩), by simp [intOf]⟩
    · go_wp2_with fail
      ((with_reducible refine (grow_nilF _ _ (by omega) (by omega)).mono ?_); rintro e_ W1 ⟨v0, rfl, ho_, hb_⟩)
      have HO0 := Aside0.mk ho_
      clear HB; have HB := Aside0.mk hb_; clear ho_ hb_
      have hg0w := (HB.out.cell (p := ⟨g, 0, none⟩) HLT.out).trans hg0
      have hg1w := (HB.out.cell (p := ⟨g, 1, none⟩) HLT.out).trans hg1
      have HG0 := Aside0.mk hg0; have HG1 := Aside0.mk hg1
      clear hg0 hg1
      have HR0' : Aside0 (Kd.C (Kd.int .u8) w A0 n0 l0) := ⟨by rw [HN0.out]; exact HR0.out⟩
      have HR1' : Aside0 (Kd.C (Kd.int .u8) w A1 n1 l1) := ⟨by rw [HN1.out]; exact HR1.out⟩
      clear hg0w hg1w
      go_wp2
      go_loopw [6, 27] (fun v vi wr => CRowF w l0 l1 wr v vi) (fun _ vi _ => (2 - intOf vi).toNat)
      case atStart => exact ⟨HB.out, .inl ⟨rfl, HO0.out⟩⟩
      case round =>
        clear HB HO0
        obtain ⟨hb_, hcase⟩ := hrel
        have HB := Aside0.mk hb_; clear hb_
        have hg0 := (HB.out.cell (p := ⟨g, 0, none⟩) HLT.out).trans HG0.out
        have hg1 := (HB.out.cell (p := ⟨g, 1, none⟩) HLT.out).trans HG1.out
        rcases hcase with ⟨rfl, ho_⟩ | ⟨rfl, ho_⟩ | ⟨rfl, ho_⟩
        · have HO0 := Aside0.mk ho_; clear ho_
          go_wp2_with (first | ((with_reducible refine gate_builtin (b := .append) (xs := #[.tmp 31, .tmp 32]) rfl ?_); at_builtin; obtain ⟨sp0, ho_⟩ := HO0.out; refine wp_rf_rows (w0 := w) w.heap.size rfl (.tmp 31) (.tmp 32) rfl _ [] sp0 l0 _ _ _ rfl rfl ho_ (Kd.C_below HR0'.out HB.out) HB.out (below_size HB.out) (by have := HL.out; have := HN0.out; have := HN1.out; simp; omega) ?_; intro v1 w1 sp1 ho hb hg; have HO1 : Aside0 (RS w.heap.size w1 v1 _) := Aside0.mk ⟨sp1, ho⟩; clear HB; have HB := Aside0.mk hb; clear ho_ ho hb hg))
          refine ⟨⟨HB.out, .inr (.inl ⟨rfl, HO1.out⟩)⟩, by simp [intOf]⟩
        · have HO0 := Aside0.mk ho_; clear ho_
          go_wp2_with (first | ((with_reducible refine gate_builtin (b := .append) (xs := #[.tmp 31, .tmp 32]) rfl ?_); at_builtin; obtain ⟨sp0, ho_⟩ := HO0.out; refine wp_rf_rows (w0 := w) w.heap.size rfl (.tmp 31) (.tmp 32) rfl _ l0 sp0 l1 _ _ _ rfl rfl ho_ (Kd.C_below HR1'.out HB.out) HB.out (below_size HB.out) (by have := HL.out; have := HN0.out; have := HN1.out; omega) ?_; intro v1 w1 sp1 ho hb hg; have HO1 : Aside0 (RS w.heap.size w1 v1 _) := Aside0.mk ⟨sp1, ho⟩; clear HB; have HB := Aside0.mk hb; clear ho_ ho hb hg))
          exact ⟨⟨HB.out, .inr (.inr ⟨rfl, HO1.out⟩)⟩, by simp [intOf]⟩
        · have HO0 := Aside0.mk ho_; clear ho_
          go_wp2
          go_ret
          exact ⟨_, rfl, HO0.out, HB.out⟩

set_option maxHeartbeats 4000000 in
set_option maxRecDepth 100000 in
theorem concat_twoF' (g : Nat) (A0 A1 : Option Addr) (c0 c1 n1 : Nat) (l0 l1 : List Int) (w : World) (hn : l1.length = n1)
    (hg0 : w.cell? ⟨g, 0, none⟩ = some (.slice A0 l0.length c0)) (hg1 : w.cell? ⟨g, 1, none⟩ = some (.slice A1 n1 c1))
    (hr0 : Kd.C (Kd.int .u8) w A0 l0.length l0) (hr1 : Kd.C (Kd.int .u8) w A1 n1 l1) (hl : l0.length + n1 ≤ 140737488355328) :
    Calls Tryd.prog 33 #[.slice (some ⟨g, 0, none⟩) 2 2] w
      fun e w' => ∃ v, e = .returned v ∧ RS w.heap.size w' v (l0 ++ l1) ∧ Below w.heap.size w w' := by
  subst hn
  exact concat_twoF g A0 A1 c0 c1 l0 l1 w hg0 hg1 hr0 hr1 hl

set_option maxHeartbeats 4000000 in
set_option maxRecDepth 100000 in
theorem put_callsF (A0 : Option Addr) (c0_ : Nat) (l0 : List Int) (z : Int) (w : World)
    (hr0 : Kd.C (Kd.int .u8) w A0 l0.length l0) (hl : l0.length ≤ 140737488355318) (hz0 : 0 ≤ z) (hz1 : z < 18446744073709551616) :
    Calls Tryd.prog 32 #[.slice A0 l0.length c0_, .int .u64 z] w
      fun e w' => ∃ v, e = .returned v ∧ RS w.heap.size w' v (l0 ++ venc z.toNat) ∧ Below w.heap.size w w' := by
  have HR0 := Aside0.mk hr0
  clear hr0
  go_enter Tryd.func32, Tryd.ntmps32
  go_wp2
  refine wp_scope_jumps 0 (fun a' w' => ∃ (n : Nat) (zz : Int) (c0 c1 c2 c3 c4 c5 c6 c7 c8 c9 : Int) (u7 u8 u9 u10 u11 u12 u13 u14 u15 u16 u17 u18 u19 u20 u21 u22 : Value),
      a' = { tmps := #[.slice A0 l0.length c0_, .int .u64 zz, undef, undef, .slice none 0 0, .pointer (some ⟨w.heap.size, 0, none⟩), .int .i64 (n : Int), u7, u8, u9, u10, u11, u12, u13, u14, u15, u16, u17, u18, u19, u20, u21, u22, undef, undef, undef, undef, undef, undef], defers := [] } ∧ w' = w.alloc (Obj.cells #[.int .u8 c0, .int .u8 c1, .int .u8 c2, .int .u8 c3, .int .u8 c4, .int .u8 c5, .int .u8 c6, .int .u8 c7, .int .u8 c8, .int .u8 c9] 60) ∧ n ≤ 9 ∧ 0 ≤ zz ∧ zz < 18446744073709551616 ∧ ([c0, c1, c2, c3, c4, c5, c6, c7, c8, c9].take n ++ venc zz.toNat = venc z.toNat))
    (fun a' _ => match a'.tmps.getD 1 undef with | .int _ q => q.toNat | _ => 0) rfl ?_ ?_
  · go_wp2
    go_step3
    go_wp2_with fail
    · go_step3
      refine ⟨rfl, ⟨1, _, _, _, _, _, _, _, _, _, _, _, _, _, _, _, _, _, _, _, _, _, _, _, _, _, _, _, rfl, rfl, by omega, by omega, by omega, ?_⟩⟩
      rw [venc_step z hz0 hz1 (by assumption)]
      rfl
    · have hL : [bits .and .u64 z 127 % 256] = venc z.toNat := (venc_stop z hz0 hz1 (by assumption)).symm
      have hC : Kd.C (Kd.int .u8) (w.alloc (Obj.cells #[.int .u8 (bits .and .u64 z 127 % 256), .int .u8 0, .int .u8 0, .int .u8 0, .int .u8 0, .int .u8 0, .int .u8 0, .int .u8 0, .int .u8 0, .int .u8 0] 60)) (some ⟨w.heap.size, 0, none⟩) 1 [bits .and .u64 z 127 % 256] := C_pre w [bits .and .u64 z 127 % 256] [.int .u8 0, .int .u8 0, .int .u8 0, .int .u8 0, .int .u8 0, .int .u8 0, .int .u8 0, .int .u8 0, .int .u8 0] 60 (by simp) _ rfl
      ((with_reducible refine (concat_twoF' (w.heap.size + 1) A0 (some ⟨w.heap.size, 0, none⟩) c0_ 10 1 l0 [bits .and .u64 z 127 % 256] _ rfl (pair_cells w _ _ _ _).1 (pair_cells w _ _ _ _).2 (Kd.C_alloc (Kd.C_alloc HR0.out _) _) (Kd.C_alloc hC _) (by omega)).mono ?_); rintro e_ W1 ⟨v0, rfl, ho_, hb_⟩)
      clear hC
      have HO0 := Aside0.mk (RS.lower ho_ (two_below w _ _).2); have HB := Aside0.mk (below_step (two_below w _ _).1 hb_)
      rw [hL] at HO0
      clear ho_ hb_ hL
      go_wp2
      simp only [Exit.jump]
      go_ret
      exact ⟨_, rfl, HO0.out, HB.out⟩
  · rintro a' w' ⟨n, zz, c0, c1, c2, c3, c4, c5, c6, c7, c8, c9, u7, u8, u9, u10, u11, u12, u13, u14, u15, u16, u17, u18, u19, u20, u21, u22, rfl, rfl, hn, hzz, hlt, hv⟩
    have hn' : n = 0 ∨ n = 1 ∨ n = 2 ∨ n = 3 ∨ n = 4 ∨ n = 5 ∨ n = 6 ∨ n = 7 ∨ n = 8 ∨ n = 9 := by omega
    rcases hn' with rfl | rfl | rfl | rfl | rfl | rfl | rfl | rfl | rfl | rfl
    · go_wp2_with fail
      · go_step3
        refine ⟨rfl, ⟨1, _, _, _, _, _, _, _, _, _, _, _, _, _, _, _, _, _, _, _, _, _, _, _, _, _, _, _, rfl, rfl, by omega, by omega, by omega, ?_⟩, ?_⟩
        · rw [venc_step zz hzz hlt (by assumption)] at hv
          exact hv
        · show (zz / 128).toNat < zz.toNat
          omega
      · have hL : [bits .and .u64 zz 127 % 256] = venc z.toNat := by
          rw [venc_stop zz hzz hlt (by assumption)] at hv
          exact hv
        have hC : Kd.C (Kd.int .u8) (w.alloc (Obj.cells #[.int .u8 (bits .and .u64 zz 127 % 256), .int .u8 c1, .int .u8 c2, .int .u8 c3, .int .u8 c4, .int .u8 c5, .int .u8 c6, .int .u8 c7, .int .u8 c8, .int .u8 c9] 60)) (some ⟨w.heap.size, 0, none⟩) 1 [bits .and .u64 zz 127 % 256] := C_pre w [bits .and .u64 zz 127 % 256] [.int .u8 c1, .int .u8 c2, .int .u8 c3, .int .u8 c4, .int .u8 c5, .int .u8 c6, .int .u8 c7, .int .u8 c8, .int .u8 c9] 60 (by simp) _ rfl
        ((with_reducible refine (concat_twoF' (w.heap.size + 1) A0 (some ⟨w.heap.size, 0, none⟩) c0_ 10 1 l0 [bits .and .u64 zz 127 % 256] _ rfl (pair_cells w _ _ _ _).1 (pair_cells w _ _ _ _).2 (Kd.C_alloc (Kd.C_alloc HR0.out _) _) (Kd.C_alloc hC _) (by omega)).mono ?_); rintro e_ W1 ⟨v0, rfl, ho_, hb_⟩)
        clear hC
        have HO0 := Aside0.mk (RS.lower ho_ (two_below w _ _).2); have HB := Aside0.mk (below_step (two_below w _ _).1 hb_)
        rw [hL] at HO0
        clear ho_ hb_ hL
        go_wp2
        simp only [Exit.jump]
        go_ret
        exact ⟨_, rfl, HO0.out, HB.out⟩
    · go_wp2_with fail
      · go_step3
        refine ⟨rfl, ⟨2, _, _, _, _, _, _, _, _, _, _, _, _, _, _, _, _, _, _, _, _, _, _, _, _, _, _, _, rfl, rfl, by omega, by omega, by omega, ?_⟩, ?_⟩
        · rw [venc_step zz hzz hlt (by assumption)] at hv
          exact hv
        · show (zz / 128).toNat < zz.toNat
          omega
      · have hL : [c0, bits .and .u64 zz 127 % 256] = venc z.toNat := by
          rw [venc_stop zz hzz hlt (by assumption)] at hv
          exact hv
        have hC : Kd.C (Kd.int .u8) (w.alloc (Obj.cells #[.int .u8 c0, .int .u8 (bits .and .u64 zz 127 % 256), .int .u8 c2, .int .u8 c3, .int .u8 c4, .int .u8 c5, .int .u8 c6, .int .u8 c7, .int .u8 c8, .int .u8 c9] 60)) (some ⟨w.heap.size, 0, none⟩) 2 [c0, bits .and .u64 zz 127 % 256] := C_pre w [c0, bits .and .u64 zz 127 % 256] [.int .u8 c2, .int .u8 c3, .int .u8 c4, .int .u8 c5, .int .u8 c6, .int .u8 c7, .int .u8 c8, .int .u8 c9] 60 (by simp) _ rfl
        ((with_reducible refine (concat_twoF' (w.heap.size + 1) A0 (some ⟨w.heap.size, 0, none⟩) c0_ 10 2 l0 [c0, bits .and .u64 zz 127 % 256] _ rfl (pair_cells w _ _ _ _).1 (pair_cells w _ _ _ _).2 (Kd.C_alloc (Kd.C_alloc HR0.out _) _) (Kd.C_alloc hC _) (by omega)).mono ?_); rintro e_ W1 ⟨v0, rfl, ho_, hb_⟩)
        clear hC
        have HO0 := Aside0.mk (RS.lower ho_ (two_below w _ _).2); have HB := Aside0.mk (below_step (two_below w _ _).1 hb_)
        rw [hL] at HO0
        clear ho_ hb_ hL
        go_wp2
        simp only [Exit.jump]
        go_ret
        exact ⟨_, rfl, HO0.out, HB.out⟩
    · go_wp2_with fail
      · go_step3
        refine ⟨rfl, ⟨3, _, _, _, _, _, _, _, _, _, _, _, _, _, _, _, _, _, _, _, _, _, _, _, _, _, _, _, rfl, rfl, by omega, by omega, by omega, ?_⟩, ?_⟩
        · rw [venc_step zz hzz hlt (by assumption)] at hv
          exact hv
        · show (zz / 128).toNat < zz.toNat
          omega
      · have hL : [c0, c1, bits .and .u64 zz 127 % 256] = venc z.toNat := by
          rw [venc_stop zz hzz hlt (by assumption)] at hv
          exact hv
        have hC : Kd.C (Kd.int .u8) (w.alloc (Obj.cells #[.int .u8 c0, .int .u8 c1, .int .u8 (bits .and .u64 zz 127 % 256), .int .u8 c3, .int .u8 c4, .int .u8 c5, .int .u8 c6, .int .u8 c7, .int .u8 c8, .int .u8 c9] 60)) (some ⟨w.heap.size, 0, none⟩) 3 [c0, c1, bits .and .u64 zz 127 % 256] := C_pre w [c0, c1, bits .and .u64 zz 127 % 256] [.int .u8 c3, .int .u8 c4, .int .u8 c5, .int .u8 c6, .int .u8 c7, .int .u8 c8, .int .u8 c9] 60 (by simp) _ rfl
        ((with_reducible refine (concat_twoF' (w.heap.size + 1) A0 (some ⟨w.heap.size, 0, none⟩) c0_ 10 3 l0 [c0, c1, bits .and .u64 zz 127 % 256] _ rfl (pair_cells w _ _ _ _).1 (pair_cells w _ _ _ _).2 (Kd.C_alloc (Kd.C_alloc HR0.out _) _) (Kd.C_alloc hC _) (by omega)).mono ?_); rintro e_ W1 ⟨v0, rfl, ho_, hb_⟩)
        clear hC
        have HO0 := Aside0.mk (RS.lower ho_ (two_below w _ _).2); have HB := Aside0.mk (below_step (two_below w _ _).1 hb_)
        rw [hL] at HO0
        clear ho_ hb_ hL
        go_wp2
        simp only [Exit.jump]
        go_ret
        exact ⟨_, rfl, HO0.out, HB.out⟩
    · go_wp2_with fail
      · go_step3
        refine ⟨rfl, ⟨4, _, _, _, _, _, _, _, _, _, _, _, _, _, _, _, _, _, _, _, _, _, _, _, _, _, _, _, rfl, rfl, by omega, by omega, by omega, ?_⟩, ?_⟩
        · rw [venc_step zz hzz hlt (by assumption)] at hv
          exact hv
        · show (zz / 128).toNat < zz.toNat
          omega
      · have hL : [c0, c1, c2, bits .and .u64 zz 127 % 256] = venc z.toNat := by
          rw [venc_stop zz hzz hlt (by assumption)] at hv
          exact hv
        have hC : Kd.C (Kd.int .u8) (w.alloc (Obj.cells #[.int .u8 c0, .int .u8 c1, .int .u8 c2, .int .u8 (bits .and .u64 zz 127 % 256), .int .u8 c4, .int .u8 c5, .int .u8 c6, .int .u8 c7, .int .u8 c8, .int .u8 c9] 60)) (some ⟨w.heap.size, 0, none⟩) 4 [c0, c1, c2, bits .and .u64 zz 127 % 256] := C_pre w [c0, c1, c2, bits .and .u64 zz 127 % 256] [.int .u8 c4, .int .u8 c5, .int .u8 c6, .int .u8 c7, .int .u8 c8, .int .u8 c9] 60 (by simp) _ rfl
        ((with_reducible refine (concat_twoF' (w.heap.size + 1) A0 (some ⟨w.heap.size, 0, none⟩) c0_ 10 4 l0 [c0, c1, c2, bits .and .u64 zz 127 % 256] _ rfl (pair_cells w _ _ _ _).1 (pair_cells w _ _ _ _).2 (Kd.C_alloc (Kd.C_alloc HR0.out _) _) (Kd.C_alloc hC _) (by omega)).mono ?_); rintro e_ W1 ⟨v0, rfl, ho_, hb_⟩)
        clear hC
        have HO0 := Aside0.mk (RS.lower ho_ (two_below w _ _).2); have HB := Aside0.mk (below_step (two_below w _ _).1 hb_)
        rw [hL] at HO0
        clear ho_ hb_ hL
        go_wp2
        simp only [Exit.jump]
        go_ret
        exact ⟨_, rfl, HO0.out, HB.out⟩
    · go_wp2_with fail
      · go_step3
        refine ⟨rfl, ⟨5, _, _, _, _, _, _, _, _, _, _, _, _, _, _, _, _, _, _, _, _, _, _, _, _, _, _, _, rfl, rfl, by omega, by omega, by omega, ?_⟩, ?_⟩
        · rw [venc_step zz hzz hlt (by assumption)] at hv
          exact hv
        · show (zz / 128).toNat < zz.toNat
          omega
      · have hL : [c0, c1, c2, c3, bits .and .u64 zz 127 % 256] = venc z.toNat := by
          rw [venc_stop zz hzz hlt (by assumption)] at hv
          exact hv
        have hC : Kd.C (Kd.int .u8) (w.alloc (Obj.cells #[.int .u8 c0, .int .u8 c1, .int .u8 c2, .int .u8 c3, .int .u8 (bits .and .u64 zz 127 % 256), .int .u8 c5, .int .u8 c6, .int .u8 c7, .int .u8 c8, .int .u8 c9] 60)) (some ⟨w.heap.size, 0, none⟩) 5 [c0, c1, c2, c3, bits .and .u64 zz 127 % 256] := C_pre w [c0, c1, c2, c3, bits .and .u64 zz 127 % 256] [.int .u8 c5, .int .u8 c6, .int .u8 c7, .int .u8 c8, .int .u8 c9] 60 (by simp) _ rfl
        ((with_reducible refine (concat_twoF' (w.heap.size + 1) A0 (some ⟨w.heap.size, 0, none⟩) c0_ 10 5 l0 [c0, c1, c2, c3, bits .and .u64 zz 127 % 256] _ rfl (pair_cells w _ _ _ _).1 (pair_cells w _ _ _ _).2 (Kd.C_alloc (Kd.C_alloc HR0.out _) _) (Kd.C_alloc hC _) (by omega)).mono ?_); rintro e_ W1 ⟨v0, rfl, ho_, hb_⟩)
        clear hC
        have HO0 := Aside0.mk (RS.lower ho_ (two_below w _ _).2); have HB := Aside0.mk (below_step (two_below w _ _).1 hb_)
        rw [hL] at HO0
        clear ho_ hb_ hL
        go_wp2
        simp only [Exit.jump]
        go_ret
        exact ⟨_, rfl, HO0.out, HB.out⟩
    · go_wp2_with fail
      · go_step3
        refine ⟨rfl, ⟨6, _, _, _, _, _, _, _, _, _, _, _, _, _, _, _, _, _, _, _, _, _, _, _, _, _, _, _, rfl, rfl, by omega, by omega, by omega, ?_⟩, ?_⟩
        · rw [venc_step zz hzz hlt (by assumption)] at hv
          exact hv
        · show (zz / 128).toNat < zz.toNat
          omega
      · have hL : [c0, c1, c2, c3, c4, bits .and .u64 zz 127 % 256] = venc z.toNat := by
          rw [venc_stop zz hzz hlt (by assumption)] at hv
          exact hv
        have hC : Kd.C (Kd.int .u8) (w.alloc (Obj.cells #[.int .u8 c0, .int .u8 c1, .int .u8 c2, .int .u8 c3, .int .u8 c4, .int .u8 (bits .and .u64 zz 127 % 256), .int .u8 c6, .int .u8 c7, .int .u8 c8, .int .u8 c9] 60)) (some ⟨w.heap.size, 0, none⟩) 6 [c0, c1, c2, c3, c4, bits .and .u64 zz 127 % 256] := C_pre w [c0, c1, c2, c3, c4, bits .and .u64 zz 127 % 256] [.int .u8 c6, .int .u8 c7, .int .u8 c8, .int .u8 c9] 60 (by simp) _ rfl
        ((with_reducible refine (concat_twoF' (w.heap.size + 1) A0 (some ⟨w.heap.size, 0, none⟩) c0_ 10 6 l0 [c0, c1, c2, c3, c4, bits .and .u64 zz 127 % 256] _ rfl (pair_cells w _ _ _ _).1 (pair_cells w _ _ _ _).2 (Kd.C_alloc (Kd.C_alloc HR0.out _) _) (Kd.C_alloc hC _) (by omega)).mono ?_); rintro e_ W1 ⟨v0, rfl, ho_, hb_⟩)
        clear hC
        have HO0 := Aside0.mk (RS.lower ho_ (two_below w _ _).2); have HB := Aside0.mk (below_step (two_below w _ _).1 hb_)
        rw [hL] at HO0
        clear ho_ hb_ hL
        go_wp2
        simp only [Exit.jump]
        go_ret
        exact ⟨_, rfl, HO0.out, HB.out⟩
    · go_wp2_with fail
      · go_step3
        refine ⟨rfl, ⟨7, _, _, _, _, _, _, _, _, _, _, _, _, _, _, _, _, _, _, _, _, _, _, _, _, _, _, _, rfl, rfl, by omega, by omega, by omega, ?_⟩, ?_⟩
        · rw [venc_step zz hzz hlt (by assumption)] at hv
          exact hv
        · show (zz / 128).toNat < zz.toNat
          omega
      · have hL : [c0, c1, c2, c3, c4, c5, bits .and .u64 zz 127 % 256] = venc z.toNat := by
          rw [venc_stop zz hzz hlt (by assumption)] at hv
          exact hv
        have hC : Kd.C (Kd.int .u8) (w.alloc (Obj.cells #[.int .u8 c0, .int .u8 c1, .int .u8 c2, .int .u8 c3, .int .u8 c4, .int .u8 c5, .int .u8 (bits .and .u64 zz 127 % 256), .int .u8 c7, .int .u8 c8, .int .u8 c9] 60)) (some ⟨w.heap.size, 0, none⟩) 7 [c0, c1, c2, c3, c4, c5, bits .and .u64 zz 127 % 256] := C_pre w [c0, c1, c2, c3, c4, c5, bits .and .u64 zz 127 % 256] [.int .u8 c7, .int .u8 c8, .int .u8 c9] 60 (by simp) _ rfl
        ((with_reducible refine (concat_twoF' (w.heap.size + 1) A0 (some ⟨w.heap.size, 0, none⟩) c0_ 10 7 l0 [c0, c1, c2, c3, c4, c5, bits .and .u64 zz 127 % 256] _ rfl (pair_cells w _ _ _ _).1 (pair_cells w _ _ _ _).2 (Kd.C_alloc (Kd.C_alloc HR0.out _) _) (Kd.C_alloc hC _) (by omega)).mono ?_); rintro e_ W1 ⟨v0, rfl, ho_, hb_⟩)
        clear hC
        have HO0 := Aside0.mk (RS.lower ho_ (two_below w _ _).2); have HB := Aside0.mk (below_step (two_below w _ _).1 hb_)
        rw [hL] at HO0
        clear ho_ hb_ hL
        go_wp2
        simp only [Exit.jump]
        go_ret
        exact ⟨_, rfl, HO0.out, HB.out⟩
    · go_wp2_with fail
      · go_step3
        refine ⟨rfl, ⟨8, _, _, _, _, _, _, _, _, _, _, _, _, _, _, _, _, _, _, _, _, _, _, _, _, _, _, _, rfl, rfl, by omega, by omega, by omega, ?_⟩, ?_⟩
        · rw [venc_step zz hzz hlt (by assumption)] at hv
          exact hv
        · show (zz / 128).toNat < zz.toNat
          omega
      · have hL : [c0, c1, c2, c3, c4, c5, c6, bits .and .u64 zz 127 % 256] = venc z.toNat := by
          rw [venc_stop zz hzz hlt (by assumption)] at hv
          exact hv
        have hC : Kd.C (Kd.int .u8) (w.alloc (Obj.cells #[.int .u8 c0, .int .u8 c1, .int .u8 c2, .int .u8 c3, .int .u8 c4, .int .u8 c5, .int .u8 c6, .int .u8 (bits .and .u64 zz 127 % 256), .int .u8 c8, .int .u8 c9] 60)) (some ⟨w.heap.size, 0, none⟩) 8 [c0, c1, c2, c3, c4, c5, c6, bits .and .u64 zz 127 % 256] := C_pre w [c0, c1, c2, c3, c4, c5, c6, bits .and .u64 zz 127 % 256] [.int .u8 c8, .int .u8 c9] 60 (by simp) _ rfl
        ((with_reducible refine (concat_twoF' (w.heap.size + 1) A0 (some ⟨w.heap.size, 0, none⟩) c0_ 10 8 l0 [c0, c1, c2, c3, c4, c5, c6, bits .and .u64 zz 127 % 256] _ rfl (pair_cells w _ _ _ _).1 (pair_cells w _ _ _ _).2 (Kd.C_alloc (Kd.C_alloc HR0.out _) _) (Kd.C_alloc hC _) (by omega)).mono ?_); rintro e_ W1 ⟨v0, rfl, ho_, hb_⟩)
        clear hC
        have HO0 := Aside0.mk (RS.lower ho_ (two_below w _ _).2); have HB := Aside0.mk (below_step (two_below w _ _).1 hb_)
        rw [hL] at HO0
        clear ho_ hb_ hL
        go_wp2
        simp only [Exit.jump]
        go_ret
        exact ⟨_, rfl, HO0.out, HB.out⟩
    · go_wp2_with fail
      · go_step3
        refine ⟨rfl, ⟨9, _, _, _, _, _, _, _, _, _, _, _, _, _, _, _, _, _, _, _, _, _, _, _, _, _, _, _, rfl, rfl, by omega, by omega, by omega, ?_⟩, ?_⟩
        · rw [venc_step zz hzz hlt (by assumption)] at hv
          exact hv
        · show (zz / 128).toNat < zz.toNat
          omega
      · have hL : [c0, c1, c2, c3, c4, c5, c6, c7, bits .and .u64 zz 127 % 256] = venc z.toNat := by
          rw [venc_stop zz hzz hlt (by assumption)] at hv
          exact hv
        have hC : Kd.C (Kd.int .u8) (w.alloc (Obj.cells #[.int .u8 c0, .int .u8 c1, .int .u8 c2, .int .u8 c3, .int .u8 c4, .int .u8 c5, .int .u8 c6, .int .u8 c7, .int .u8 (bits .and .u64 zz 127 % 256), .int .u8 c9] 60)) (some ⟨w.heap.size, 0, none⟩) 9 [c0, c1, c2, c3, c4, c5, c6, c7, bits .and .u64 zz 127 % 256] := C_pre w [c0, c1, c2, c3, c4, c5, c6, c7, bits .and .u64 zz 127 % 256] [.int .u8 c9] 60 (by simp) _ rfl
        ((with_reducible refine (concat_twoF' (w.heap.size + 1) A0 (some ⟨w.heap.size, 0, none⟩) c0_ 10 9 l0 [c0, c1, c2, c3, c4, c5, c6, c7, bits .and .u64 zz 127 % 256] _ rfl (pair_cells w _ _ _ _).1 (pair_cells w _ _ _ _).2 (Kd.C_alloc (Kd.C_alloc HR0.out _) _) (Kd.C_alloc hC _) (by omega)).mono ?_); rintro e_ W1 ⟨v0, rfl, ho_, hb_⟩)
        clear hC
        have HO0 := Aside0.mk (RS.lower ho_ (two_below w _ _).2); have HB := Aside0.mk (below_step (two_below w _ _).1 hb_)
        rw [hL] at HO0
        clear ho_ hb_ hL
        go_wp2
        simp only [Exit.jump]
        go_ret
        exact ⟨_, rfl, HO0.out, HB.out⟩
    · go_wp2_with fail
      · exfalso
        rw [venc_step zz hzz hlt (by assumption)] at hv
        have h1 := congrArg List.length hv
        have h2 := venc_len64 hz1
        have h3 := venc_pos (zz / 128).toNat
        simp at h1
        omega
      · have hL : [c0, c1, c2, c3, c4, c5, c6, c7, c8, bits .and .u64 zz 127 % 256] = venc z.toNat := by
          rw [venc_stop zz hzz hlt (by assumption)] at hv
          exact hv
        have hC : Kd.C (Kd.int .u8) (w.alloc (Obj.cells #[.int .u8 c0, .int .u8 c1, .int .u8 c2, .int .u8 c3, .int .u8 c4, .int .u8 c5, .int .u8 c6, .int .u8 c7, .int .u8 c8, .int .u8 (bits .and .u64 zz 127 % 256)] 60)) (some ⟨w.heap.size, 0, none⟩) 10 [c0, c1, c2, c3, c4, c5, c6, c7, c8, bits .and .u64 zz 127 % 256] := C_pre w [c0, c1, c2, c3, c4, c5, c6, c7, c8, bits .and .u64 zz 127 % 256] [] 60 (by simp) _ rfl
        ((with_reducible refine (concat_twoF' (w.heap.size + 1) A0 (some ⟨w.heap.size, 0, none⟩) c0_ 10 10 l0 [c0, c1, c2, c3, c4, c5, c6, c7, c8, bits .and .u64 zz 127 % 256] _ rfl (pair_cells w _ _ _ _).1 (pair_cells w _ _ _ _).2 (Kd.C_alloc (Kd.C_alloc HR0.out _) _) (Kd.C_alloc hC _) (by omega)).mono ?_); rintro e_ W1 ⟨v0, rfl, ho_, hb_⟩)
        clear hC
        have HO0 := Aside0.mk (RS.lower ho_ (two_below w _ _).2); have HB := Aside0.mk (below_step (two_below w _ _).1 hb_)
        rw [hL] at HO0
        clear ho_ hb_ hL
        go_wp2
        simp only [Exit.jump]
        go_ret
        exact ⟨_, rfl, HO0.out, HB.out⟩

set_option maxHeartbeats 4000000 in
set_option maxRecDepth 100000 in
theorem Num_callsF (A0 : Option Addr) (c0 : Nat) (l0 : List Int) (n : Int) (w : World)
    (hr0 : Kd.C (Kd.int .u8) w A0 l0.length l0) (hl : l0.length ≤ 140737488355318) (hn0 : -9223372036854775808 ≤ n) (hn1 : n ≤ 9223372036854775807) :
    Calls Tryd.prog 11 #[.slice A0 l0.length c0, .int .i64 n] w
      fun e w' => ∃ v, e = .returned (.tuple #[v, .int .i64 (numF l0 n).2]) ∧ RS w.heap.size w' v (numF l0 n).1 ∧ Below w.heap.size w w' := by
  by_cases hn : n < 0
  · have hd : decide (n < 0) = true := decide_eq_true hn
    have hf : numF l0 n = ([], 1) := if_pos hn
    rw [hf]
    clear hn hf
    go_enter Tryd.func11, Tryd.ntmps11
    go_wp2
    go_ret2
    exact ⟨_, rfl, RS.nil _ _, Below.refl _ _⟩
  · have hd : decide (n < 0) = false := decide_eq_false hn
    have hf : numF l0 n = (l0 ++ venc n.toNat, 0) := if_neg hn
    rw [hf]
    have hw : IntKind.u64.wrap n = n := w64id n (by omega) (by omega)
    have HR := Aside0.mk hr0
    have HN := Aside0.mk hn
    clear hn hf hr0
    go_enter Tryd.func11, Tryd.ntmps11
    go_wp2_with fail
    try rw [hw]
    ((with_reducible refine (put_callsF A0 c0 l0 n _ HR.out hl (by have := HN.out; omega) (by omega)).mono ?_); rintro e_ W1 ⟨v0, rfl, ho_, hb_⟩)
    go_wp2
    go_ret2
    exact ⟨_, rfl, ho_, hb_⟩


set_option maxHeartbeats 4000000 in
set_option maxRecDepth 100000 in
theorem Int_callsF (A0 : Option Addr) (c0 : Nat) (l0 : List Int) (n : Int) (w : World)
    (hr0 : Kd.C (Kd.int .u8) w A0 l0.length l0) (hl : l0.length ≤ 140737488355318) (hn0 : -9223372036854775808 ≤ n) (hn1 : n ≤ 9223372036854775807) :
    Calls Tryd.prog 12 #[.slice A0 l0.length c0, .int .i64 n] w
      fun e w' => ∃ v, e = .returned v ∧ RS w.heap.size w' v (l0 ++ venc (zz n).toNat) ∧ Below w.heap.size w w' := by
  have HR := Aside0.mk hr0
  have hz := zz_bits n hn0 hn1
  have HZ := Aside0.mk hz
  clear hr0 hz
  go_enter Tryd.func12, Tryd.ntmps12
  go_wp2_with fail
  rw [HZ.out]
  ((with_reducible refine (put_callsF A0 c0 l0 (zz n) _ HR.out hl (zz_range n hn0 hn1).1 (zz_range n hn0 hn1).2).mono ?_); rintro e_ W1 ⟨v0, rfl, ho_, hb_⟩)
  go_wp2
  go_ret
  exact ⟨_, rfl, ho_, hb_⟩


set_option maxHeartbeats 4000000 in
set_option maxRecDepth 100000 in
theorem Text_callsF (A0 : Option Addr) (c0 : Nat) (l0 : List Int) (t : ByteArray) (w : World)
    (hr0 : Kd.C (Kd.int .u8) w A0 l0.length l0) (hl : l0.length ≤ 140737488351232) (ht : t.size ≤ 9223372036854775807) :
    Calls Tryd.prog 23 #[.slice A0 l0.length c0, .string t] w
      fun e w' => ∃ v, e = .returned (.tuple #[v, .int .i64 (textF l0 t).2]) ∧ RS w.heap.size w' v (textF l0 t).1 ∧ Below w.heap.size w w' := by
  by_cases hn : (65536 : Int) < (t.size : Int)
  · have hd : decide ((65536 : Int) < (t.size : Int)) = true := decide_eq_true hn
    have hf : textF l0 t = ([], 2) := if_pos hn
    rw [hf]
    clear hn hf
    go_enter Tryd.func23, Tryd.ntmps23
    go_wp2
    go_ret2
    exact ⟨_, rfl, RS.nil _ _, Below.refl _ _⟩
  · have hd : decide ((65536 : Int) < (t.size : Int)) = false := decide_eq_false hn
    have hf : textF l0 t = (l0 ++ venc t.size ++ bytesOf t, 0) := if_neg hn
    rw [hf]
    have hw : IntKind.u64.wrap (t.size : Int) = (t.size : Int) := w64id _ (by omega) (by omega)
    have HR := Aside0.mk hr0
    have HN := Aside0.mk hn
    have HV := Aside0.mk (venc_len64 (z := (t.size : Int)) (by omega))
    clear hn hf hr0
    go_enter Tryd.func23, Tryd.ntmps23
    go_wp2_with fail
    try rw [hw]
    ((with_reducible refine (put_callsF A0 c0 l0 (t.size : Int) _ HR.out (by omega) (by omega) (by omega)).mono ?_); rintro e_ W1 ⟨v0, rfl, ho_, hb_⟩)
    rw [Int.toNat_natCast] at ho_ HV
    have HO := Aside0.mk ho_; have HB := Aside0.mk hb_; clear ho_ hb_
    go_wp2_with (first | ((with_reducible refine gate_builtin (b := .append) (xs := #[.tmp 13, .tmp 14]) rfl ?_); at_builtin; obtain ⟨sp0, ho_⟩ := HO.out; refine wp_rf_str (w0 := w) w.heap.size rfl (.tmp 13) (.tmp 14) rfl v0 (l0 ++ venc t.size) sp0 t rfl rfl ho_ HB.out (below_size HB.out) (by have := HN.out; have := HV.out; simp; omega) ?_; intro v1 w1 sp1 ho hb hg; have HO1 : Aside0 (RS w.heap.size w1 v1 _) := Aside0.mk ⟨sp1, ho⟩; have HB1 := Aside0.mk hb; clear ho hb hg ho_ HO HB))
    go_ret2
    exact ⟨_, rfl, HO1.out, HB1.out⟩

set_option maxHeartbeats 4000000 in
set_option maxRecDepth 100000 in
theorem Frame_callsF (A0 : Option Addr) (c0 : Nat) (l0 : List Int) (w : World)
    (hr0 : Kd.C (Kd.int .u8) w A0 l0.length l0) (hl : l0.length ≤ 140737488355318) (hT : Tab w) :
    Calls Tryd.prog 13 #[.slice A0 l0.length c0] w
      fun e w' => ∃ v, e = .returned v ∧ RS w.heap.size w' v (frameF l0) ∧ Below w.heap.size w w' := by
  have HR := Aside0.mk hr0
  have HT := Aside0.mk hT
  have hs := sumF_range l0
  have hff : frameF l0 = l0 ++ [sumF l0 % 256, sumF l0 / 256 % 256, sumF l0 / 65536 % 256, sumF l0 / 16777216] := rfl
  rw [hff]
  have hc := Sum_calls A0 c0 l0 w hr0 (by omega) hT
  clear hr0 hT hff
  generalize sumF l0 = s at hs hc ⊢
  go_enter Tryd.func13, Tryd.ntmps13
  go_wp2_with fail
  ((with_reducible refine hc.mono ?_); rintro e_ W1 ⟨rfl, rfl⟩)
  clear hc
  go_wp2_with fail
  have hC : Kd.C (Kd.int .u8) (W1.alloc (Obj.cells #[.int .u8 (s % 256), .int .u8 (s / 256 % 256), .int .u8 (s / 65536 % 256), .int .u8 (s / 16777216)] 5)) (some ⟨W1.heap.size, 0, none⟩) 4 [s % 256, s / 256 % 256, s / 65536 % 256, s / 16777216] := C_pre W1 [s % 256, s / 256 % 256, s / 65536 % 256, s / 16777216] [] 5 (by simp) _ rfl
  ((with_reducible refine (concat_twoF' (W1.heap.size + 1) A0 (some ⟨W1.heap.size, 0, none⟩) c0 4 4 l0 [s % 256, s / 256 % 256, s / 65536 % 256, s / 16777216] _ rfl (pair_cells W1 _ _ _ _).1 (pair_cells W1 _ _ _ _).2 (Kd.C_alloc (Kd.C_alloc HR.out _) _) (Kd.C_alloc hC _) (by omega)).mono ?_); rintro e_ W2 ⟨v0, rfl, ho_, hb_⟩)
  clear hC
  have HO0 := Aside0.mk (RS.lower ho_ (two_below W1 _ _).2); have HB := Aside0.mk (below_step (two_below W1 _ _).1 hb_)
  clear ho_ hb_
  go_wp2
  go_ret
  exact ⟨_, rfl, HO0.out, HB.out⟩

end Go.Proofs.YtcgjaobbjeagoaaDoor
