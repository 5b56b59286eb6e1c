/- wire.put. Printed by gen_c.py. -/
import Derived.Test.YtcgjaobbjeagoaaDoorWireB
import Derived.ScopeJumps
namespace Go.Proofs.YtcgjaobbjeagoaaDoor
open Go.RowKit Go.Proofs.YtcgjaobbjeagoaaDoorW.PrintWords Go.Proofs.YtcgjaobbjeagoaaDoorW.PrintLast Go.Proofs.YtcgjaobbjeagoaaDoorW.PrintMore
set_option linter.unusedVariables false
set_option linter.unusedSimpArgs false

/-- A number, seven bits a byte. -/
def venc (z : Nat) : List Int := if z < 128 then [(z : Int)] else ((z % 128 + 128 : Nat) : Int) :: venc (z / 128)
theorem venc_lt {z : Nat} (h : z < 128) : venc z = [(z : Int)] := by rw [venc, if_pos h]
theorem venc_ge {z : Nat} (h : ¬ z < 128) : venc z = ((z % 128 + 128 : Nat) : Int) :: venc (z / 128) := by rw [venc, if_neg h]
theorem venc_len : ∀ (k z : Nat), z < 128 ^ (k + 1) → (venc z).length ≤ k + 1
  | 0, z, h => by rw [venc_lt (by simpa using h)]; simp
  | k + 1, z, h => by
    by_cases hz : z < 128
    · rw [venc_lt hz]; simp
    · rw [venc_ge hz, List.length_cons]
      have := venc_len k (z / 128) (Nat.div_lt_of_lt_mul (by rw [Nat.pow_succ] at h; omega))
      omega
theorem venc_pos (z : Nat) : 0 < (venc z).length := by rw [venc]; split <;> simp
theorem venc_len64 {z : Int} (h : z < 18446744073709551616) : (venc z.toNat).length ≤ 10 := venc_len 9 _ (by omega)

theorem u64_and127 (z : Int) (h0 : 0 ≤ z) (h1 : z < 18446744073709551616) : bits .and .u64 z 127 = z % 128 := by go_bits2

/-- The cells at a place hold these bytes. -/
theorem C_of_cells {w : World} {g : Nat} {xs : List Int} (hl : xs.length ≤ 9223372036854775807)
    (h : ∀ (j : Nat) (x : Int), xs[j]? = some x → w.cell? ⟨g, j, none⟩ = some (.int .u8 x)) :
    Kd.C (Kd.int .u8) w (some ⟨g, 0, none⟩) xs.length xs := by
  refine ⟨rfl, hl, fun _ => ⟨_, rfl, fun j p hj => ⟨[.int .u8 p], rfl, rfl, fun i u hu => ?_⟩⟩⟩
  cases i with
  | zero =>
    simp only [List.getElem?_cons_zero, Option.some.injEq] at hu
    subst hu
    rw [add_plain]
    show w.cell? ⟨g, j * 1 + 0, none⟩ = _
    rw [Nat.mul_one, Nat.add_zero]
    exact h j p hj
  | succ i => simp at hu
theorem C_pre (w : World) (xs : List Int) (rest : List Value) (ty : TypeId) (hl : xs.length ≤ 9223372036854775807) (w1 : World) (hw : w1 = w.alloc (Obj.cells (xs.map (Value.int .u8) ++ rest).toArray ty)) :
    Kd.C (Kd.int .u8) w1 (some ⟨w.heap.size, 0, none⟩) xs.length xs := by
  subst hw
  refine C_of_cells hl (fun j x hx => ?_)
  have hj : j < xs.length := by
    have := List.getElem?_eq_some_iff.1 hx
    exact this.1
  have h1 : (xs.map (Value.int .u8) ++ rest)[j]? = some (.int .u8 x) := by rw [List.getElem?_append_left (by simpa using hj), List.getElem?_map, hx]; rfl
  unfold World.cell?
  rw [(MapKept.heap_alloc w _).1]
  simpa using h1

theorem pair_cells (w : World) (o1 : Obj) (a b : Value) (ty : TypeId) :
    ((w.alloc o1).alloc (Obj.cells #[a, b] ty)).cell? ⟨w.heap.size + 1, 0, none⟩ = some a ∧ ((w.alloc o1).alloc (Obj.cells #[a, b] ty)).cell? ⟨w.heap.size + 1, 1, none⟩ = some b := by
  have h := (MapKept.heap_alloc (w.alloc o1) (Obj.cells #[a, b] ty)).1
  have hs : (w.alloc o1).heap.size = w.heap.size + 1 := by show (w.heap.push o1).size = _; simp
  rw [hs] at h
  unfold World.cell?
  rw [h]
  exact ⟨rfl, rfl⟩
theorem two_below (w : World) (o1 o2 : Obj) : Below w.heap.size w ((w.alloc o1).alloc o2) ∧ w.heap.size ≤ ((w.alloc o1).alloc o2).heap.size := by
  have h : Below w.heap.size w ((w.alloc o1).alloc o2) := below_alloc (below_alloc (Below.refl _ _) _) _
  exact ⟨h, below_size h⟩
theorem concat_two' (g : Nat) (A0 A1 : Option Addr) (c0 c1 n1 : Nat) (l0 l1 : List Int) (w : World) (hn : l1.length = n1)
    (hg0 : w.cell? ⟨g, 0, none⟩ = some (.slice A0 l0.length c0)) (hg1 : w.cell? ⟨g, 1, none⟩ = some (.slice A1 n1 c1))
    (hr0 : Kd.C (Kd.int .u8) w A0 l0.length l0) (hr1 : Kd.C (Kd.int .u8) w A1 n1 l1) (hl : l0.length + n1 ≤ 140737488355328) :
    Calls Tryd.prog 33 #[.slice (some ⟨g, 0, none⟩) 2 2] w
      fun e w' => ∃ v, e = .returned v ∧ Kd.R (Kd.int .u8) 5 w' w.heap.size (fun _ => True) v (l0 ++ l1) ∧ Below w.heap.size w w' := by
  subst hn
  exact concat_two g A0 A1 c0 c1 l0 l1 w hg0 hg1 hr0 hr1 hl
theorem low7 (zz : Int) (h0 : 0 ≤ zz) (h1 : zz < 18446744073709551616) : bits .and .u64 zz 127 % 256 = zz % 128 := by
  rw [u64_and127 zz h0 h1]; omega
theorem venc_step (zz : Int) (h0 : 0 ≤ zz) (h1 : zz < 18446744073709551616) (hp : 0 < zz / 128) :
    venc zz.toNat = bits .or .u8 (bits .and .u64 zz 127 % 256) 128 :: venc (zz / 128).toNat := by
  rw [low7 zz h0 h1, u8_or128_right _ (by omega) (by omega), venc_ge (by omega)]
  congr 1
  · omega
  · congr 1
    omega
theorem venc_stop (zz : Int) (h0 : 0 ≤ zz) (h1 : zz < 18446744073709551616) (hp : zz / 128 ≤ 0) :
    venc zz.toNat = [bits .and .u64 zz 127 % 256] := by
  rw [low7 zz h0 h1, venc_lt (by omega)]
  congr 1
  omega

set_option maxHeartbeats 4000000 in
set_option maxRecDepth 100000 in
theorem put_calls (A0 : Option Addr) (c0_ : Nat) (l0 : List Int) (z : Int) (w : World)
    (hr0 : Kd.C (Kd.int .u8) w A0 l0.length l0) (hl : l0.length ≤ 140737488355318) (hz0 : 0 ≤ z) (hz1 : z < 18446744073709551616) :
    Calls Tryd.prog 32 #[.slice A0 l0.length c0_, .int .u64 z] w
      fun e w' => ∃ v, e = .returned v ∧ Kd.R (Kd.int .u8) 5 w' w.heap.size (fun _ => True) v (l0 ++ venc z.toNat) ∧ Below w.heap.size w w' := by
  have HR0 := Aside0.mk hr0
  clear hr0
  go_enter Tryd.func32, Tryd.ntmps32
  go_wp2
  refine wp_scope_jumps 0 (fun a' w' => ∃ (n : Nat) (zz : Int) (c0 c1 c2 c3 c4 c5 c6 c7 c8 c9 : Int) (u7 u8 u9 u10 u11 u12 u13 u14 u15 u16 u17 u18 u19 u20 u21 u22 : Value),
      a' = { tmps := #[.slice A0 l0.length c0_, .int .u64 zz, undef, undef, .slice none 0 0, .pointer (some ⟨w.heap.size, 0, none⟩), .int .i64 (n : Int), u7, u8, u9, u10, u11, u12, u13, u14, u15, u16, u17, u18, u19, u20, u21, u22, undef, undef, undef, undef, undef, undef], defers := [] } ∧ w' = w.alloc (Obj.cells #[.int .u8 c0, .int .u8 c1, .int .u8 c2, .int .u8 c3, .int .u8 c4, .int .u8 c5, .int .u8 c6, .int .u8 c7, .int .u8 c8, .int .u8 c9] 60) ∧ n ≤ 9 ∧ 0 ≤ zz ∧ zz < 18446744073709551616 ∧ ([c0, c1, c2, c3, c4, c5, c6, c7, c8, c9].take n ++ venc zz.toNat = venc z.toNat))
    (fun a' _ => match a'.tmps.getD 1 undef with | .int _ q => q.toNat | _ => 0) rfl ?_ ?_
  · go_wp2
    go_step3
    go_wp2_with fail
    · go_step3
      refine ⟨rfl, ⟨1, _, _, _, _, _, _, _, _, _, _, _, _, _, _, _, _, _, _, _, _, _, _, _, _, _, _, _, rfl, rfl, by omega, by omega, by omega, ?_⟩⟩
      rw [venc_step z hz0 hz1 (by assumption)]
      rfl
    · have hL : [bits .and .u64 z 127 % 256] = venc z.toNat := (venc_stop z hz0 hz1 (by assumption)).symm
      have hC : Kd.C (Kd.int .u8) (w.alloc (Obj.cells #[.int .u8 (bits .and .u64 z 127 % 256), .int .u8 0, .int .u8 0, .int .u8 0, .int .u8 0, .int .u8 0, .int .u8 0, .int .u8 0, .int .u8 0, .int .u8 0] 60)) (some ⟨w.heap.size, 0, none⟩) 1 [bits .and .u64 z 127 % 256] := C_pre w [bits .and .u64 z 127 % 256] [.int .u8 0, .int .u8 0, .int .u8 0, .int .u8 0, .int .u8 0, .int .u8 0, .int .u8 0, .int .u8 0, .int .u8 0] 60 (by simp) _ rfl
      ((with_reducible refine (concat_two' (w.heap.size + 1) A0 (some ⟨w.heap.size, 0, none⟩) c0_ 10 1 l0 [bits .and .u64 z 127 % 256] _ rfl (pair_cells w _ _ _ _).1 (pair_cells w _ _ _ _).2 (Kd.C_alloc (Kd.C_alloc HR0.out _) _) (Kd.C_alloc hC _) (by omega)).mono ?_); rintro e_ W1 ⟨v0, rfl, ho_, hb_⟩)
      clear hC
      have HO0 := Aside0.mk (Kd.R_lower ho_ (two_below w _ _).2); have HB := Aside0.mk (below_step (two_below w _ _).1 hb_)
      rw [hL] at HO0
      clear ho_ hb_ hL
      go_wp2
      simp only [Exit.jump]
      go_ret
      exact ⟨_, rfl, HO0.out, HB.out⟩
  · rintro a' w' ⟨n, zz, c0, c1, c2, c3, c4, c5, c6, c7, c8, c9, u7, u8, u9, u10, u11, u12, u13, u14, u15, u16, u17, u18, u19, u20, u21, u22, rfl, rfl, hn, hzz, hlt, hv⟩
    have hn' : n = 0 ∨ n = 1 ∨ n = 2 ∨ n = 3 ∨ n = 4 ∨ n = 5 ∨ n = 6 ∨ n = 7 ∨ n = 8 ∨ n = 9 := by omega
    rcases hn' with rfl | rfl | rfl | rfl | rfl | rfl | rfl | rfl | rfl | rfl
    · go_wp2_with fail
      · go_step3
        refine ⟨rfl, ⟨1, _, _, _, _, _, _, _, _, _, _, _, _, _, _, _, _, _, _, _, _, _, _, _, _, _, _, _, rfl, rfl, by omega, by omega, by omega, ?_⟩, ?_⟩
        · rw [venc_step zz hzz hlt (by assumption)] at hv
          exact hv
        · show (zz / 128).toNat < zz.toNat
          omega
      · have hL : [bits .and .u64 zz 127 % 256] = venc z.toNat := by
          rw [venc_stop zz hzz hlt (by assumption)] at hv
          exact hv
        have hC : Kd.C (Kd.int .u8) (w.alloc (Obj.cells #[.int .u8 (bits .and .u64 zz 127 % 256), .int .u8 c1, .int .u8 c2, .int .u8 c3, .int .u8 c4, .int .u8 c5, .int .u8 c6, .int .u8 c7, .int .u8 c8, .int .u8 c9] 60)) (some ⟨w.heap.size, 0, none⟩) 1 [bits .and .u64 zz 127 % 256] := C_pre w [bits .and .u64 zz 127 % 256] [.int .u8 c1, .int .u8 c2, .int .u8 c3, .int .u8 c4, .int .u8 c5, .int .u8 c6, .int .u8 c7, .int .u8 c8, .int .u8 c9] 60 (by simp) _ rfl
        ((with_reducible refine (concat_two' (w.heap.size + 1) A0 (some ⟨w.heap.size, 0, none⟩) c0_ 10 1 l0 [bits .and .u64 zz 127 % 256] _ rfl (pair_cells w _ _ _ _).1 (pair_cells w _ _ _ _).2 (Kd.C_alloc (Kd.C_alloc HR0.out _) _) (Kd.C_alloc hC _) (by omega)).mono ?_); rintro e_ W1 ⟨v0, rfl, ho_, hb_⟩)
        clear hC
        have HO0 := Aside0.mk (Kd.R_lower ho_ (two_below w _ _).2); have HB := Aside0.mk (below_step (two_below w _ _).1 hb_)
        rw [hL] at HO0
        clear ho_ hb_ hL
        go_wp2
        simp only [Exit.jump]
        go_ret
        exact ⟨_, rfl, HO0.out, HB.out⟩
    · go_wp2_with fail
      · go_step3
        refine ⟨rfl, ⟨2, _, _, _, _, _, _, _, _, _, _, _, _, _, _, _, _, _, _, _, _, _, _, _, _, _, _, _, rfl, rfl, by omega, by omega, by omega, ?_⟩, ?_⟩
        · rw [venc_step zz hzz hlt (by assumption)] at hv
          exact hv
        · show (zz / 128).toNat < zz.toNat
          omega
      · have hL : [c0, bits .and .u64 zz 127 % 256] = venc z.toNat := by
          rw [venc_stop zz hzz hlt (by assumption)] at hv
          exact hv
        have hC : Kd.C (Kd.int .u8) (w.alloc (Obj.cells #[.int .u8 c0, .int .u8 (bits .and .u64 zz 127 % 256), .int .u8 c2, .int .u8 c3, .int .u8 c4, .int .u8 c5, .int .u8 c6, .int .u8 c7, .int .u8 c8, .int .u8 c9] 60)) (some ⟨w.heap.size, 0, none⟩) 2 [c0, bits .and .u64 zz 127 % 256] := C_pre w [c0, bits .and .u64 zz 127 % 256] [.int .u8 c2, .int .u8 c3, .int .u8 c4, .int .u8 c5, .int .u8 c6, .int .u8 c7, .int .u8 c8, .int .u8 c9] 60 (by simp) _ rfl
        ((with_reducible refine (concat_two' (w.heap.size + 1) A0 (some ⟨w.heap.size, 0, none⟩) c0_ 10 2 l0 [c0, bits .and .u64 zz 127 % 256] _ rfl (pair_cells w _ _ _ _).1 (pair_cells w _ _ _ _).2 (Kd.C_alloc (Kd.C_alloc HR0.out _) _) (Kd.C_alloc hC _) (by omega)).mono ?_); rintro e_ W1 ⟨v0, rfl, ho_, hb_⟩)
        clear hC
        have HO0 := Aside0.mk (Kd.R_lower ho_ (two_below w _ _).2); have HB := Aside0.mk (below_step (two_below w _ _).1 hb_)
        rw [hL] at HO0
        clear ho_ hb_ hL
        go_wp2
        simp only [Exit.jump]
        go_ret
        exact ⟨_, rfl, HO0.out, HB.out⟩
    · go_wp2_with fail
      · go_step3
        refine ⟨rfl, ⟨3, _, _, _, _, _, _, _, _, _, _, _, _, _, _, _, _, _, _, _, _, _, _, _, _, _, _, _, rfl, rfl, by omega, by omega, by omega, ?_⟩, ?_⟩
        · rw [venc_step zz hzz hlt (by assumption)] at hv
          exact hv
        · show (zz / 128).toNat < zz.toNat
          omega
      · have hL : [c0, c1, bits .and .u64 zz 127 % 256] = venc z.toNat := by
          rw [venc_stop zz hzz hlt (by assumption)] at hv
          exact hv
        have hC : Kd.C (Kd.int .u8) (w.alloc (Obj.cells #[.int .u8 c0, .int .u8 c1, .int .u8 (bits .and .u64 zz 127 % 256), .int .u8 c3, .int .u8 c4, .int .u8 c5, .int .u8 c6, .int .u8 c7, .int .u8 c8, .int .u8 c9] 60)) (some ⟨w.heap.size, 0, none⟩) 3 [c0, c1, bits .and .u64 zz 127 % 256] := C_pre w [c0, c1, bits .and .u64 zz 127 % 256] [.int .u8 c3, .int .u8 c4, .int .u8 c5, .int .u8 c6, .int .u8 c7, .int .u8 c8, .int .u8 c9] 60 (by simp) _ rfl
        ((with_reducible refine (concat_two' (w.heap.size + 1) A0 (some ⟨w.heap.size, 0, none⟩) c0_ 10 3 l0 [c0, c1, bits .and .u64 zz 127 % 256] _ rfl (pair_cells w _ _ _ _).1 (pair_cells w _ _ _ _).2 (Kd.C_alloc (Kd.C_alloc HR0.out _) _) (Kd.C_alloc hC _) (by omega)).mono ?_); rintro e_ W1 ⟨v0, rfl, ho_, hb_⟩)
        clear hC
        have HO0 := Aside0.mk (Kd.R_lower ho_ (two_below w _ _).2); have HB := Aside0.mk (below_step (two_below w _ _).1 hb_)
        rw [hL] at HO0
        clear ho_ hb_ hL
        go_wp2
        simp only [Exit.jump]
        go_ret
        exact ⟨_, rfl, HO0.out, HB.out⟩
    · go_wp2_with fail
      · go_step3
        refine ⟨rfl, ⟨4, _, _, _, _, _, _, _, _, _, _, _, _, _, _, _, _, _, _, _, _, _, _, _, _, _, _, _, rfl, rfl, by omega, by omega, by omega, ?_⟩, ?_⟩
        · rw [venc_step zz hzz hlt (by assumption)] at hv
          exact hv
        · show (zz / 128).toNat < zz.toNat
          omega
      · have hL : [c0, c1, c2, bits .and .u64 zz 127 % 256] = venc z.toNat := by
          rw [venc_stop zz hzz hlt (by assumption)] at hv
          exact hv
        have hC : Kd.C (Kd.int .u8) (w.alloc (Obj.cells #[.int .u8 c0, .int .u8 c1, .int .u8 c2, .int .u8 (bits .and .u64 zz 127 % 256), .int .u8 c4, .int .u8 c5, .int .u8 c6, .int .u8 c7, .int .u8 c8, .int .u8 c9] 60)) (some ⟨w.heap.size, 0, none⟩) 4 [c0, c1, c2, bits .and .u64 zz 127 % 256] := C_pre w [c0, c1, c2, bits .and .u64 zz 127 % 256] [.int .u8 c4, .int .u8 c5, .int .u8 c6, .int .u8 c7, .int .u8 c8, .int .u8 c9] 60 (by simp) _ rfl
        ((with_reducible refine (concat_two' (w.heap.size + 1) A0 (some ⟨w.heap.size, 0, none⟩) c0_ 10 4 l0 [c0, c1, c2, bits .and .u64 zz 127 % 256] _ rfl (pair_cells w _ _ _ _).1 (pair_cells w _ _ _ _).2 (Kd.C_alloc (Kd.C_alloc HR0.out _) _) (Kd.C_alloc hC _) (by omega)).mono ?_); rintro e_ W1 ⟨v0, rfl, ho_, hb_⟩)
        clear hC
        have HO0 := Aside0.mk (Kd.R_lower ho_ (two_below w _ _).2); have HB := Aside0.mk (below_step (two_below w _ _).1 hb_)
        rw [hL] at HO0
        clear ho_ hb_ hL
        go_wp2
        simp only [Exit.jump]
        go_ret
        exact ⟨_, rfl, HO0.out, HB.out⟩
    · go_wp2_with fail
      · go_step3
        refine ⟨rfl, ⟨5, _, _, _, _, _, _, _, _, _, _, _, _, _, _, _, _, _, _, _, _, _, _, _, _, _, _, _, rfl, rfl, by omega, by omega, by omega, ?_⟩, ?_⟩
        · rw [venc_step zz hzz hlt (by assumption)] at hv
          exact hv
        · show (zz / 128).toNat < zz.toNat
          omega
      · have hL : [c0, c1, c2, c3, bits .and .u64 zz 127 % 256] = venc z.toNat := by
          rw [venc_stop zz hzz hlt (by assumption)] at hv
          exact hv
        have hC : Kd.C (Kd.int .u8) (w.alloc (Obj.cells #[.int .u8 c0, .int .u8 c1, .int .u8 c2, .int .u8 c3, .int .u8 (bits .and .u64 zz 127 % 256), .int .u8 c5, .int .u8 c6, .int .u8 c7, .int .u8 c8, .int .u8 c9] 60)) (some ⟨w.heap.size, 0, none⟩) 5 [c0, c1, c2, c3, bits .and .u64 zz 127 % 256] := C_pre w [c0, c1, c2, c3, bits .and .u64 zz 127 % 256] [.int .u8 c5, .int .u8 c6, .int .u8 c7, .int .u8 c8, .int .u8 c9] 60 (by simp) _ rfl
        ((with_reducible refine (concat_two' (w.heap.size + 1) A0 (some ⟨w.heap.size, 0, none⟩) c0_ 10 5 l0 [c0, c1, c2, c3, bits .and .u64 zz 127 % 256] _ rfl (pair_cells w _ _ _ _).1 (pair_cells w _ _ _ _).2 (Kd.C_alloc (Kd.C_alloc HR0.out _) _) (Kd.C_alloc hC _) (by omega)).mono ?_); rintro e_ W1 ⟨v0, rfl, ho_, hb_⟩)
        clear hC
        have HO0 := Aside0.mk (Kd.R_lower ho_ (two_below w _ _).2); have HB := Aside0.mk (below_step (two_below w _ _).1 hb_)
        rw [hL] at HO0
        clear ho_ hb_ hL
        go_wp2
        simp only [Exit.jump]
        go_ret
        exact ⟨_, rfl, HO0.out, HB.out⟩
    · go_wp2_with fail
      · go_step3
        refine ⟨rfl, ⟨6, _, _, _, _, _, _, _, _, _, _, _, _, _, _, _, _, _, _, _, _, _, _, _, _, _, _, _, rfl, rfl, by omega, by omega, by omega, ?_⟩, ?_⟩
        · rw [venc_step zz hzz hlt (by assumption)] at hv
          exact hv
        · show (zz / 128).toNat < zz.toNat
          omega
      · have hL : [c0, c1, c2, c3, c4, bits .and .u64 zz 127 % 256] = venc z.toNat := by
          rw [venc_stop zz hzz hlt (by assumption)] at hv
          exact hv
        have hC : Kd.C (Kd.int .u8) (w.alloc (Obj.cells #[.int .u8 c0, .int .u8 c1, .int .u8 c2, .int .u8 c3, .int .u8 c4, .int .u8 (bits .and .u64 zz 127 % 256), .int .u8 c6, .int .u8 c7, .int .u8 c8, .int .u8 c9] 60)) (some ⟨w.heap.size, 0, none⟩) 6 [c0, c1, c2, c3, c4, bits .and .u64 zz 127 % 256] := C_pre w [c0, c1, c2, c3, c4, bits .and .u64 zz 127 % 256] [.int .u8 c6, .int .u8 c7, .int .u8 c8, .int .u8 c9] 60 (by simp) _ rfl
        ((with_reducible refine (concat_two' (w.heap.size + 1) A0 (some ⟨w.heap.size, 0, none⟩) c0_ 10 6 l0 [c0, c1, c2, c3, c4, bits .and .u64 zz 127 % 256] _ rfl (pair_cells w _ _ _ _).1 (pair_cells w _ _ _ _).2 (Kd.C_alloc (Kd.C_alloc HR0.out _) _) (Kd.C_alloc hC _) (by omega)).mono ?_); rintro e_ W1 ⟨v0, rfl, ho_, hb_⟩)
        clear hC
        have HO0 := Aside0.mk (Kd.R_lower ho_ (two_below w _ _).2); have HB := Aside0.mk (below_step (two_below w _ _).1 hb_)
        rw [hL] at HO0
        clear ho_ hb_ hL
        go_wp2
        simp only [Exit.jump]
        go_ret
        exact ⟨_, rfl, HO0.out, HB.out⟩
    · go_wp2_with fail
      · go_step3
        refine ⟨rfl, ⟨7, _, _, _, _, _, _, _, _, _, _, _, _, _, _, _, _, _, _, _, _, _, _, _, _, _, _, _, rfl, rfl, by omega, by omega, by omega, ?_⟩, ?_⟩
        · rw [venc_step zz hzz hlt (by assumption)] at hv
          exact hv
        · show (zz / 128).toNat < zz.toNat
          omega
      · have hL : [c0, c1, c2, c3, c4, c5, bits .and .u64 zz 127 % 256] = venc z.toNat := by
          rw [venc_stop zz hzz hlt (by assumption)] at hv
          exact hv
        have hC : Kd.C (Kd.int .u8) (w.alloc (Obj.cells #[.int .u8 c0, .int .u8 c1, .int .u8 c2, .int .u8 c3, .int .u8 c4, .int .u8 c5, .int .u8 (bits .and .u64 zz 127 % 256), .int .u8 c7, .int .u8 c8, .int .u8 c9] 60)) (some ⟨w.heap.size, 0, none⟩) 7 [c0, c1, c2, c3, c4, c5, bits .and .u64 zz 127 % 256] := C_pre w [c0, c1, c2, c3, c4, c5, bits .and .u64 zz 127 % 256] [.int .u8 c7, .int .u8 c8, .int .u8 c9] 60 (by simp) _ rfl
        ((with_reducible refine (concat_two' (w.heap.size + 1) A0 (some ⟨w.heap.size, 0, none⟩) c0_ 10 7 l0 [c0, c1, c2, c3, c4, c5, bits .and .u64 zz 127 % 256] _ rfl (pair_cells w _ _ _ _).1 (pair_cells w _ _ _ _).2 (Kd.C_alloc (Kd.C_alloc HR0.out _) _) (Kd.C_alloc hC _) (by omega)).mono ?_); rintro e_ W1 ⟨v0, rfl, ho_, hb_⟩)
        clear hC
        have HO0 := Aside0.mk (Kd.R_lower ho_ (two_below w _ _).2); have HB := Aside0.mk (below_step (two_below w _ _).1 hb_)
        rw [hL] at HO0
        clear ho_ hb_ hL
        go_wp2
        simp only [Exit.jump]
        go_ret
        exact ⟨_, rfl, HO0.out, HB.out⟩
    · go_wp2_with fail
      · go_step3
        refine ⟨rfl, ⟨8, _, _, _, _, _, _, _, _, _, _, _, _, _, _, _, _, _, _, _, _, _, _, _, _, _, _, _, rfl, rfl, by omega, by omega, by omega, ?_⟩, ?_⟩
        · rw [venc_step zz hzz hlt (by assumption)] at hv
          exact hv
        · show (zz / 128).toNat < zz.toNat
          omega
      · have hL : [c0, c1, c2, c3, c4, c5, c6, bits .and .u64 zz 127 % 256] = venc z.toNat := by
          rw [venc_stop zz hzz hlt (by assumption)] at hv
          exact hv
        have hC : Kd.C (Kd.int .u8) (w.alloc (Obj.cells #[.int .u8 c0, .int .u8 c1, .int .u8 c2, .int .u8 c3, .int .u8 c4, .int .u8 c5, .int .u8 c6, .int .u8 (bits .and .u64 zz 127 % 256), .int .u8 c8, .int .u8 c9] 60)) (some ⟨w.heap.size, 0, none⟩) 8 [c0, c1, c2, c3, c4, c5, c6, bits .and .u64 zz 127 % 256] := C_pre w [c0, c1, c2, c3, c4, c5, c6, bits .and .u64 zz 127 % 256] [.int .u8 c8, .int .u8 c9] 60 (by simp) _ rfl
        ((with_reducible refine (concat_two' (w.heap.size + 1) A0 (some ⟨w.heap.size, 0, none⟩) c0_ 10 8 l0 [c0, c1, c2, c3, c4, c5, c6, bits .and .u64 zz 127 % 256] _ rfl (pair_cells w _ _ _ _).1 (pair_cells w _ _ _ _).2 (Kd.C_alloc (Kd.C_alloc HR0.out _) _) (Kd.C_alloc hC _) (by omega)).mono ?_); rintro e_ W1 ⟨v0, rfl, ho_, hb_⟩)
        clear hC
        have HO0 := Aside0.mk (Kd.R_lower ho_ (two_below w _ _).2); have HB := Aside0.mk (below_step (two_below w _ _).1 hb_)
        rw [hL] at HO0
        clear ho_ hb_ hL
        go_wp2
        simp only [Exit.jump]
        go_ret
        exact ⟨_, rfl, HO0.out, HB.out⟩
    · go_wp2_with fail
      · go_step3
        refine ⟨rfl, ⟨9, _, _, _, _, _, _, _, _, _, _, _, _, _, _, _, _, _, _, _, _, _, _, _, _, _, _, _, rfl, rfl, by omega, by omega, by omega, ?_⟩, ?_⟩
        · rw [venc_step zz hzz hlt (by assumption)] at hv
          exact hv
        · show (zz / 128).toNat < zz.toNat
          omega
      · have hL : [c0, c1, c2, c3, c4, c5, c6, c7, bits .and .u64 zz 127 % 256] = venc z.toNat := by
          rw [venc_stop zz hzz hlt (by assumption)] at hv
          exact hv
        have hC : Kd.C (Kd.int .u8) (w.alloc (Obj.cells #[.int .u8 c0, .int .u8 c1, .int .u8 c2, .int .u8 c3, .int .u8 c4, .int .u8 c5, .int .u8 c6, .int .u8 c7, .int .u8 (bits .and .u64 zz 127 % 256), .int .u8 c9] 60)) (some ⟨w.heap.size, 0, none⟩) 9 [c0, c1, c2, c3, c4, c5, c6, c7, bits .and .u64 zz 127 % 256] := C_pre w [c0, c1, c2, c3, c4, c5, c6, c7, bits .and .u64 zz 127 % 256] [.int .u8 c9] 60 (by simp) _ rfl
        ((with_reducible refine (concat_two' (w.heap.size + 1) A0 (some ⟨w.heap.size, 0, none⟩) c0_ 10 9 l0 [c0, c1, c2, c3, c4, c5, c6, c7, bits .and .u64 zz 127 % 256] _ rfl (pair_cells w _ _ _ _).1 (pair_cells w _ _ _ _).2 (Kd.C_alloc (Kd.C_alloc HR0.out _) _) (Kd.C_alloc hC _) (by omega)).mono ?_); rintro e_ W1 ⟨v0, rfl, ho_, hb_⟩)
        clear hC
        have HO0 := Aside0.mk (Kd.R_lower ho_ (two_below w _ _).2); have HB := Aside0.mk (below_step (two_below w _ _).1 hb_)
        rw [hL] at HO0
        clear ho_ hb_ hL
        go_wp2
        simp only [Exit.jump]
        go_ret
        exact ⟨_, rfl, HO0.out, HB.out⟩
    · go_wp2_with fail
      · exfalso
        rw [venc_step zz hzz hlt (by assumption)] at hv
        have h1 := congrArg List.length hv
        have h2 := venc_len64 hz1
        have h3 := venc_pos (zz / 128).toNat
        simp at h1
        omega
      · have hL : [c0, c1, c2, c3, c4, c5, c6, c7, c8, bits .and .u64 zz 127 % 256] = venc z.toNat := by
          rw [venc_stop zz hzz hlt (by assumption)] at hv
          exact hv
        have hC : Kd.C (Kd.int .u8) (w.alloc (Obj.cells #[.int .u8 c0, .int .u8 c1, .int .u8 c2, .int .u8 c3, .int .u8 c4, .int .u8 c5, .int .u8 c6, .int .u8 c7, .int .u8 c8, .int .u8 (bits .and .u64 zz 127 % 256)] 60)) (some ⟨w.heap.size, 0, none⟩) 10 [c0, c1, c2, c3, c4, c5, c6, c7, c8, bits .and .u64 zz 127 % 256] := C_pre w [c0, c1, c2, c3, c4, c5, c6, c7, c8, bits .and .u64 zz 127 % 256] [] 60 (by simp) _ rfl
        ((with_reducible refine (concat_two' (w.heap.size + 1) A0 (some ⟨w.heap.size, 0, none⟩) c0_ 10 10 l0 [c0, c1, c2, c3, c4, c5, c6, c7, c8, bits .and .u64 zz 127 % 256] _ rfl (pair_cells w _ _ _ _).1 (pair_cells w _ _ _ _).2 (Kd.C_alloc (Kd.C_alloc HR0.out _) _) (Kd.C_alloc hC _) (by omega)).mono ?_); rintro e_ W1 ⟨v0, rfl, ho_, hb_⟩)
        clear hC
        have HO0 := Aside0.mk (Kd.R_lower ho_ (two_below w _ _).2); have HB := Aside0.mk (below_step (two_below w _ _).1 hb_)
        rw [hL] at HO0
        clear ho_ hb_ hL
        go_wp2
        simp only [Exit.jump]
        go_ret
        exact ⟨_, rfl, HO0.out, HB.out⟩
end Go.Proofs.YtcgjaobbjeagoaaDoor
