/- wire.put. Printed by gen_c.py. -/
import Derived.Test.YtcnibfancjofhaaDoorFpB
import Derived.ScopeJumps
namespace Go.Proofs.YtcnibfancjofhaaDoor
open Go.RowKit Go.Proofs.YtcnibfancjofhaaDoorW.PrintWords Go.Proofs.YtcnibfancjofhaaDoorW.PrintLast Go.Proofs.YtcnibfancjofhaaDoorW.PrintMore
set_option linter.unusedVariables false
set_option linter.unusedSimpArgs false

/-- A number, seven bits a byte. -/
def venc (z : Nat) : List Int := if z < 128 then [(z : Int)] else ((z % 128 + 128 : Nat) : Int) :: venc (z / 128)
theorem venc_lt {z : Nat} (h : z < 128) : venc z = [(z : Int)] := by rw [venc, if_pos h]
theorem venc_ge {z : Nat} (h : ¬ z < 128) : venc z = ((z % 128 + 128 : Nat) : Int) :: venc (z / 128) := by rw [venc, if_neg h]
theorem venc_len : ∀ (k z : Nat), z < 128 ^ (k + 1) → (venc z).length ≤ k + 1
  | 0, z, h => by rw [venc_lt (by simpa using h)]; simp
  | k + 1, z, h => by
    by_cases hz : z < 128
    · rw [venc_lt hz]; simp
    · rw [venc_ge hz, List.length_cons]
      have := venc_len k (z / 128) (Nat.div_lt_of_lt_mul (by rw [Nat.pow_succ] at h; omega))
      omega
theorem venc_pos (z : Nat) : 0 < (venc z).length := by rw [venc]; split <;> simp
theorem venc_len64 {z : Int} (h : z < 18446744073709551616) : (venc z.toNat).length ≤ 10 := venc_len 9 _ (by omega)

theorem u64_and127 (z : Int) (h0 : 0 ≤ z) (h1 : z < 18446744073709551616) : bits .and .u64 z 127 = z % 128 := by go_bits2

/-- The cells at a place hold these bytes. -/
theorem C_of_cells {w : World} {g : Nat} {xs : List Int} (hl : xs.length ≤ 9223372036854775807)
    (h : ∀ (j : Nat) (x : Int), xs[j]? = some x → w.cell? ⟨g, j, none⟩ = some (.int .u8 x)) :
    Kd.C (Kd.int .u8) w (some ⟨g, 0, none⟩) xs.length xs := by
  refine ⟨rfl, hl, fun _ => ⟨_, rfl, fun j p hj => ⟨[.int .u8 p], rfl, rfl, fun i u hu => ?_⟩⟩⟩
  cases i with
  | zero =>
    simp only [List.getElem?_cons_zero, Option.some.injEq] at hu
    subst hu
    rw [add_plain]
    show w.cell? ⟨g, j * 1 + 0, none⟩ = _
    rw [Nat.mul_one, Nat.add_zero]
    exact h j p hj
  | succ i => simp at hu
theorem C_pre (w : World) (xs : List Int) (rest : List Value) (ty : TypeId) (hl : xs.length ≤ 9223372036854775807) (w1 : World) (hw : w1 = w.alloc (Obj.cells (xs.map (Value.int .u8) ++ rest).toArray ty)) :
    Kd.C (Kd.int .u8) w1 (some ⟨w.heap.size, 0, none⟩) xs.length xs := by
  subst hw
  refine C_of_cells hl (fun j x hx => ?_)
  have hj : j < xs.length := by
    have := List.getElem?_eq_some_iff.1 hx
    exact this.1
  have h1 : (xs.map (Value.int .u8) ++ rest)[j]? = some (.int .u8 x) := by rw [List.getElem?_append_left (by simpa using hj), List.getElem?_map, hx]; rfl
  unfold World.cell?
  rw [(MapKept.heap_alloc w _).1]
  simpa using h1

theorem pair_cells (w : World) (o1 : Obj) (a b : Value) (ty : TypeId) :
    ((w.alloc o1).alloc (Obj.cells #[a, b] ty)).cell? ⟨w.heap.size + 1, 0, none⟩ = some a ∧ ((w.alloc o1).alloc (Obj.cells #[a, b] ty)).cell? ⟨w.heap.size + 1, 1, none⟩ = some b := by
  have h := (MapKept.heap_alloc (w.alloc o1) (Obj.cells #[a, b] ty)).1
  have hs : (w.alloc o1).heap.size = w.heap.size + 1 := by show (w.heap.push o1).size = _; simp
  rw [hs] at h
  unfold World.cell?
  rw [h]
  exact ⟨rfl, rfl⟩
theorem two_below (w : World) (o1 o2 : Obj) : Below w.heap.size w ((w.alloc o1).alloc o2) ∧ w.heap.size ≤ ((w.alloc o1).alloc o2).heap.size := by
  have h : Below w.heap.size w ((w.alloc o1).alloc o2) := below_alloc (below_alloc (Below.refl _ _) _) _
  exact ⟨h, below_size h⟩
theorem low7 (zz : Int) (h0 : 0 ≤ zz) (h1 : zz < 18446744073709551616) : bits .and .u64 zz 127 % 256 = zz % 128 := by
  rw [u64_and127 zz h0 h1]; omega
theorem venc_step (zz : Int) (h0 : 0 ≤ zz) (h1 : zz < 18446744073709551616) (hp : 0 < zz / 128) :
    venc zz.toNat = bits .or .u8 (bits .and .u64 zz 127 % 256) 128 :: venc (zz / 128).toNat := by
  rw [low7 zz h0 h1, u8_or128_right _ (by omega) (by omega), venc_ge (by omega)]
  congr 1
  · omega
  · congr 1
    omega
theorem venc_stop (zz : Int) (h0 : 0 ≤ zz) (h1 : zz < 18446744073709551616) (hp : zz / 128 ≤ 0) :
    venc zz.toNat = [bits .and .u64 zz 127 % 256] := by
  rw [low7 zz h0 h1, venc_lt (by omega)]
  congr 1
  omega

end Go.Proofs.YtcnibfancjofhaaDoor
