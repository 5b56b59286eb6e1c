/- Merged: FpA FpB FpC FpN FpT -/
import Derived.Test.YtklkikndcieojaaDoorKit
import Derived.Test.YtklkikndcieojaaDoorWZeros
import Derived.Test.YtklkikndcieojaaDoorProg
import Derived.WalkSpells
import Derived.ScopeJumps
import Derived.Lib.AppendStr
/- slices.Grow of nil, by bytes. -/
namespace Go.Proofs.YtklkikndcieojaaDoor
open Go.RowKit Go.Proofs.YtklkikndcieojaaDoorW.PrintWords Go.Proofs.YtklkikndcieojaaDoorW.PrintLast Go.Proofs.YtklkikndcieojaaDoorW.PrintMore
set_option linter.unusedVariables false
set_option linter.unusedSimpArgs false

theorem infoB : (Tryd.prog.info? 5).map (fun i => (i.zero, i.size, i.bytes)) = some (some (.int .u8 0), 1, 1) := by kernel_rfl

end Go.Proofs.YtklkikndcieojaaDoor

/- slices.Concat of two rows of bytes. Printed by gen_b.py. -/
namespace Go.Proofs.YtklkikndcieojaaDoor
open Go.RowKit Go.Proofs.YtklkikndcieojaaDoorW.PrintWords Go.Proofs.YtklkikndcieojaaDoorW.PrintLast Go.Proofs.YtklkikndcieojaaDoorW.PrintMore
set_option linter.unusedVariables false
set_option linter.unusedSimpArgs false

def CRel (n0 n1 : Int) (vs vi : Value) : Prop := (vi = .int .i64 0 ∧ vs = .int .i64 0) ∨ (vi = .int .i64 1 ∧ vs = .int .i64 n0) ∨ (vi = .int .i64 2 ∧ vs = .int .i64 (n0 + n1))
def CRow (w : World) (l0 l1 : List Int) (wr : World) (v vi : Value) : Prop :=
  Below w.heap.size w wr ∧ ((vi = .int .i64 0 ∧ Kd.R (Kd.int .u8) 5 wr w.heap.size (fun _ => True) v []) ∨ (vi = .int .i64 1 ∧ Kd.R (Kd.int .u8) 5 wr w.heap.size (fun _ => True) v l0) ∨
    (vi = .int .i64 2 ∧ Kd.R (Kd.int .u8) 5 wr w.heap.size (fun _ => True) v (l0 ++ l1)))

end Go.Proofs.YtklkikndcieojaaDoor

/- wire.put. Printed by gen_c.py. -/
namespace Go.Proofs.YtklkikndcieojaaDoor
open Go.RowKit Go.Proofs.YtklkikndcieojaaDoorW.PrintWords Go.Proofs.YtklkikndcieojaaDoorW.PrintLast Go.Proofs.YtklkikndcieojaaDoorW.PrintMore
set_option linter.unusedVariables false
set_option linter.unusedSimpArgs false

/-- A number, seven bits a byte. -/
def venc (z : Nat) : List Int := if z < 128 then [(z : Int)] else ((z % 128 + 128 : Nat) : Int) :: venc (z / 128)
theorem venc_lt {z : Nat} (h : z < 128) : venc z = [(z : Int)] := by rw [venc, if_pos h]
theorem venc_ge {z : Nat} (h : ¬ z < 128) : venc z = ((z % 128 + 128 : Nat) : Int) :: venc (z / 128) := by rw [venc, if_neg h]
theorem venc_len : ∀ (k z : Nat), z < 128 ^ (k + 1) → (venc z).length ≤ k + 1
  | 0, z, h => by rw [venc_lt (by simpa using h)]; simp
  | k + 1, z, h => by
    by_cases hz : z < 128
    · rw [venc_lt hz]; simp
    · rw [venc_ge hz, List.length_cons]
      have := venc_len k (z / 128) (Nat.div_lt_of_lt_mul (by rw [Nat.pow_succ] at h; omega))
      omega
theorem venc_pos (z : Nat) : 0 < (venc z).length := by rw [venc]; split <;> simp
theorem venc_len64 {z : Int} (h : z < 18446744073709551616) : (venc z.toNat).length ≤ 10 := venc_len 9 _ (by omega)

theorem u64_and127 (z : Int) (h0 : 0 ≤ z) (h1 : z < 18446744073709551616) : bits .and .u64 z 127 = z % 128 := by go_bits2

/-- The cells at a place hold these bytes. -/
theorem C_of_cells {w : World} {g : Nat} {xs : List Int} (hl : xs.length ≤ 9223372036854775807)
    (h : ∀ (j : Nat) (x : Int), xs[j]? = some x → w.cell? ⟨g, j, none⟩ = some (.int .u8 x)) :
    Kd.C (Kd.int .u8) w (some ⟨g, 0, none⟩) xs.length xs := by
  refine ⟨rfl, hl, fun _ => ⟨_, rfl, fun j p hj => ⟨[.int .u8 p], rfl, rfl, fun i u hu => ?_⟩⟩⟩
  cases i with
  | zero =>
    simp only [List.getElem?_cons_zero, Option.some.injEq] at hu
    subst hu
    rw [add_plain]
    show w.cell? ⟨g, j * 1 + 0, none⟩ = _
    rw [Nat.mul_one, Nat.add_zero]
    exact h j p hj
  | succ i => simp at hu
theorem C_pre (w : World) (xs : List Int) (rest : List Value) (ty : TypeId) (hl : xs.length ≤ 9223372036854775807) (w1 : World) (hw : w1 = w.alloc (Obj.cells (xs.map (Value.int .u8) ++ rest).toArray ty)) :
    Kd.C (Kd.int .u8) w1 (some ⟨w.heap.size, 0, none⟩) xs.length xs := by
  subst hw
  refine C_of_cells hl (fun j x hx => ?_)
  have hj : j < xs.length := by
    have := List.getElem?_eq_some_iff.1 hx
    exact this.1
  have h1 : (xs.map (Value.int .u8) ++ rest)[j]? = some (.int .u8 x) := by rw [List.getElem?_append_left (by simpa using hj), List.getElem?_map, hx]; rfl
  unfold World.cell?
  rw [(MapKept.heap_alloc w _).1]
  simpa using h1

theorem pair_cells (w : World) (o1 : Obj) (a b : Value) (ty : TypeId) :
    ((w.alloc o1).alloc (Obj.cells #[a, b] ty)).cell? ⟨w.heap.size + 1, 0, none⟩ = some a ∧ ((w.alloc o1).alloc (Obj.cells #[a, b] ty)).cell? ⟨w.heap.size + 1, 1, none⟩ = some b := by
  have h := (MapKept.heap_alloc (w.alloc o1) (Obj.cells #[a, b] ty)).1
  have hs : (w.alloc o1).heap.size = w.heap.size + 1 := by show (w.heap.push o1).size = _; simp
  rw [hs] at h
  unfold World.cell?
  rw [h]
  exact ⟨rfl, rfl⟩
theorem two_below (w : World) (o1 o2 : Obj) : Below w.heap.size w ((w.alloc o1).alloc o2) ∧ w.heap.size ≤ ((w.alloc o1).alloc o2).heap.size := by
  have h : Below w.heap.size w ((w.alloc o1).alloc o2) := below_alloc (below_alloc (Below.refl _ _) _) _
  exact ⟨h, below_size h⟩
theorem low7 (zz : Int) (h0 : 0 ≤ zz) (h1 : zz < 18446744073709551616) : bits .and .u64 zz 127 % 256 = zz % 128 := by
  rw [u64_and127 zz h0 h1]; omega
theorem venc_step (zz : Int) (h0 : 0 ≤ zz) (h1 : zz < 18446744073709551616) (hp : 0 < zz / 128) :
    venc zz.toNat = bits .or .u8 (bits .and .u64 zz 127 % 256) 128 :: venc (zz / 128).toNat := by
  rw [low7 zz h0 h1, u8_or128_right _ (by omega) (by omega), venc_ge (by omega)]
  congr 1
  · omega
  · congr 1
    omega
theorem venc_stop (zz : Int) (h0 : 0 ≤ zz) (h1 : zz < 18446744073709551616) (hp : zz / 128 ≤ 0) :
    venc zz.toNat = [bits .and .u64 zz 127 % 256] := by
  rw [low7 zz h0 h1, venc_lt (by omega)]
  congr 1
  omega

end Go.Proofs.YtklkikndcieojaaDoor

/- The document's reading of a number: the plain laws. -/
namespace Go.Proofs.YtklkikndcieojaaDoor
open Go.RowKit Go.Proofs.YtklkikndcieojaaDoorW.PrintWords Go.Proofs.YtklkikndcieojaaDoorW.PrintLast Go.Proofs.YtklkikndcieojaaDoorW.PrintMore
set_option linter.unusedVariables false
set_option linter.unusedSimpArgs false

/-- Bytes as a number, the first one lowest. -/
def val : List Int → Int
  | [] => 0
  | c :: cs => c % 128 + 128 * val cs
theorem val_nonneg : ∀ l, 0 ≤ val l
  | [] => Int.le_refl 0
  | c :: cs => by have := val_nonneg cs; rw [val]; omega
theorem val_snoc (c : Int) : ∀ a : List Int, val (a ++ [c]) = val a + c % 128 * (128 ^ a.length : Nat)
  | [] => by simp [val]
  | x :: xs => by
    rw [List.cons_append, val, val_snoc c xs, val, List.length_cons, Nat.pow_succ, Int.natCast_mul, Int.mul_add, Int.add_assoc]
    congr 1
    congr 1
    rw [← Int.mul_assoc, ← Int.mul_assoc, Int.mul_comm 128 (c % 128), Int.mul_assoc, Int.mul_assoc, Int.mul_comm (128 : Int)]
    rfl
theorem rd_get {l : List Int} {i : Nat} (h : i < l.length) : rd l (i : Int) = l[i] := by
  simp [rd, List.getD_eq_getElem?_getD, List.getElem?_eq_getElem h]
theorem val_take (R : List Int) (n : Nat) (h : n < R.length) : val (R.take (n + 1)) = val (R.take n) + rd R (n : Int) % 128 * (128 ^ n : Nat) := by
  rw [List.take_succ_eq_append_getElem h, val_snoc, rd_get h, List.length_take, Nat.min_eq_left (by omega)]
theorem val_drop (L : List Int) (i : Nat) (h : i < L.length) : val (L.drop i) = rd L (i : Int) % 128 + 128 * val (L.drop (i + 1)) := by
  rw [List.drop_eq_getElem_cons h, val, rd_get h]
theorem val_drop_le (L : List Int) : ∀ i, val (L.drop i) ≤ val L
  | 0 => by simp
  | i + 1 => by
    have h1 := val_drop_le L i
    by_cases h : i < L.length
    · have h2 := val_drop L i h
      have h3 := val_nonneg (L.drop (i + 1))
      omega
    · rw [List.drop_eq_nil_of_le (by omega)]
      exact val_nonneg L

end Go.Proofs.YtklkikndcieojaaDoor

/- Own rows of bytes, with what stands in their spare room. -/
namespace Go.Proofs.YtklkikndcieojaaDoor
open Go.RowKit Go.Proofs.YtklkikndcieojaaDoorW.PrintWords Go.Proofs.YtklkikndcieojaaDoorW.PrintLast Go.Proofs.YtklkikndcieojaaDoorW.PrintMore
set_option linter.unusedVariables false
set_option linter.unusedSimpArgs false

/-- An own row of bytes xs, and sp in its spare room. -/
def RF (base : Nat) (w : World) (v : Value) (xs sp : List Int) : Prop :=
  (v = .slice none 0 0 ∧ xs = [] ∧ sp = []) ∨
  ∃ g, v = .slice (some ⟨g, 0, none⟩) xs.length (xs.length + sp.length) ∧ base ≤ g ∧ w.heap[g]? = some (.cells ((xs ++ sp).map (Value.int .u8)).toArray 5 (0, 0)) ∧
    xs.length + sp.length ≤ maxLen ∧ ∀ x ∈ sp, 0 ≤ x ∧ x < 256
theorem RF.nil (base : Nat) (w : World) : RF base w (.slice none 0 0) [] [] := .inl ⟨rfl, rfl, rfl⟩
theorem RF.lower {base base' : Nat} {w : World} {v : Value} {xs sp : List Int} (h : RF base w v xs sp) (hb : base' ≤ base) : RF base' w v xs sp := by
  rcases h with h | ⟨g, h1, h2, h3⟩
  · exact .inl h
  · exact .inr ⟨g, h1, Nat.le_trans hb h2, h3⟩
theorem RF.below {base : Nat} {w w1 : World} {v : Value} {xs sp : List Int} (h : RF base w v xs sp) (hb : Below w.heap.size w w1) : RF base w1 v xs sp := by
  rcases h with h | ⟨g, h1, h2, h3, h4⟩
  · exact .inl h
  · refine .inr ⟨g, h1, h2, ?_, h4⟩
    rw [hb.block g (Array.getElem?_eq_some_iff.1 h3).1]
    exact h3
theorem RF.R {base : Nat} {w : World} {v : Value} {xs sp : List Int} (h : RF base w v xs sp) : Kd.R (Kd.int .u8) 5 w base (fun _ => True) v xs := by
  refine Kd.R_of_own (h1 := fun _ => rfl) (ok := fun _ => True) ?_ (fun _ _ => trivial)
  rcases h with ⟨rfl, rfl, rfl⟩ | ⟨g, rfl, h2, h3, h4, h5⟩
  · exact World.ownsRow_nil _ _ _ _
  · refine ⟨by simp [encs], .inr ⟨g, _, _, rfl, h2, h3, by omega, h4, by simp, ?_⟩⟩
    have : ((xs ++ sp).map (Value.int .u8)).toArray.toList.take (xs.length * 1) = encs (Value.int .u8) xs := by
      rw [Nat.mul_one]
      show ((xs ++ sp).map (Value.int .u8)).take xs.length = _
      rw [List.map_append, List.take_left' (by simp)]
      rfl
    exact this
theorem zeros_one (n : Nat) : Builtin.zeroCells #[.int .u8 0] n = ((List.replicate n (0 : Int)).map (Value.int .u8)).toArray := by
  apply Array.ext
  · simp [Builtin.zeroCells]
  · intro i h1 h2
    simp [Builtin.zeroCells, Nat.mod_one]
theorem zeros_range (n : Nat) : ∀ x ∈ List.replicate n (0 : Int), 0 ≤ x ∧ x < 256 := by
  intro x hx
  obtain rfl := (List.mem_replicate.1 hx).2
  decide
theorem alloc_grown (w : World) (o : Obj) (row : Option Nat) : w.grownBy (w.drew.alloc o) row := ⟨rfl, rfl, rfl, by simp, fun k hk _ => heap_alloc_old w.drew _ hk⟩
theorem setRow_grown (w : World) (g : Nat) (cs : Array Value) : w.grownBy (w.setRow g cs) (some g) := ⟨rfl, rfl, rfl, by simp, fun k hk hne => setRow_other w g k _ (fun e => hne (by rw [e]))⟩
theorem rd_get' {l : List Int} {i : Nat} (h : i < l.length) : rd l (i : Int) = l[i] := by
  unfold rd
  rw [Int.toNat_natCast]
  simp [h]
theorem C_cells {w : World} {ad : Addr} {m : Nat} {ys : List Int} (hr : Kd.C (Kd.int .u8) w (some ad) m ys) (hm : m = ys.length) :
    ∀ j v, (ys.map (Value.int .u8))[j]? = some v → w.cell? (ad.add j) = some v := by
  intro j v hj
  obtain ⟨x, hx, rfl⟩ : ∃ x, ys[j]? = some x ∧ v = .int .u8 x := by
    rw [List.getElem?_map] at hj
    cases hg : ys[j]? with
    | none => rw [hg] at hj; simp at hj
    | some x => rw [hg] at hj; simp at hj; exact ⟨x, rfl, hj.symm⟩
  have hjl : j < ys.length := (List.getElem?_eq_some_iff.1 hx).1
  obtain ⟨ad2, e, hc⟩ := Kd.at_int hr (j : Int) (by omega) (by omega)
  cases e
  rw [Int.toNat_natCast, rd_get' hjl] at hc
  rw [hc, (List.getElem?_eq_some_iff.1 hx).2]
theorem C_none {w : World} {m : Nat} {ys : List Int} (hr : Kd.C (Kd.int .u8) w none m ys) : m = 0 := by
  rcases Nat.eq_zero_or_pos m with h0 | h0
  · exact h0
  · obtain ⟨ad, h, _⟩ := hr.2.2 h0
    cases h
/-- A new row. -/
theorem RF.laid {base : Nat} {w : World} (xs : List Int) (c : Nat) (hb : base ≤ w.heap.size) (hc : xs.length ≤ c) (hm : c ≤ maxLen) (cs : Array Value)
    (hcs : cs = (xs.map (Value.int .u8)).toArray ++ ((List.replicate (c - xs.length) (0 : Int)).map (Value.int .u8)).toArray) :
    RF base (w.drew.alloc (.cells cs 5)) (.slice (some ⟨w.heap.size, 0, none⟩) xs.length c) xs (List.replicate (c - xs.length) 0) := by
  subst hcs
  refine .inr ⟨w.heap.size, by simp; omega, hb, ?_, by simp; omega, zeros_range _⟩
  have he : ((xs ++ List.replicate (c - xs.length) 0).map (Value.int .u8)).toArray = (xs.map (Value.int .u8)).toArray ++ ((List.replicate (c - xs.length) (0 : Int)).map (Value.int .u8)).toArray := by simp
  rw [he]
  exact heap_alloc_new w.drew _
set_option maxRecDepth 100000 in
theorem rf_rows (base : Nat) (w : World) (ty : TypeId) (v : Value) (xs sp : List Int) (h : RF base w v xs sp) (A : Option Addr) (m c : Nat) (ys : List Int) (hr : Kd.C (Kd.int .u8) w A m ys) (hl : xs.length + m ≤ 140737488355328) (hb : base ≤ w.heap.size) :
    ∃ v1 w1 sp1, (Builtin.append_ #[54, 54] ty #[v, .slice A m c]).run Tryd.prog w = .ok v1 w1 ∧ RF base w1 v1 (xs ++ ys) sp1 ∧ w.grownBy w1 v.ownBlock := by
  obtain ⟨i0, hi0, hz0, hsz0, hby0⟩ := info_parts infoB
  have hu := Tryd.underlying54
  have hm : m = ys.length := hr.1.symm
  by_cases h0 : m = 0
  · subst h0
    obtain rfl : ys = [] := List.eq_nil_of_length_eq_zero hm.symm
    refine ⟨v, w, sp, ?_, by rw [List.append_nil]; exact h, World.grownBy.refl w _⟩
    rcases h with ⟨rfl, rfl, rfl⟩ | ⟨g, rfl, h2, h3, h4, h5⟩
    · cases A <;> simp [Builtin.append_, run_underlying hu, sizeOf, typeInfo, hi0, Builtin.lenOf, Builtin.firstCells, loadCells, loadCellsFrom]
    · cases A <;> simp [Builtin.append_, run_underlying hu, sizeOf, typeInfo, hi0, Builtin.lenOf, Builtin.firstCells, storeCells, loadCells, loadCellsFrom]
  · cases A with
    | none => exact absurd (C_none hr) h0
    | some ad =>
      have hnews := C_cells hr hm
      have hone : ∀ u ∈ ys.map (Value.int .u8), u.oneCell' = true := by
        intro u hu
        obtain ⟨x, _, rfl⟩ := List.mem_map.1 hu
        rfl
      have hnl : (ys.map (Value.int .u8)).length = m * i0.size := by rw [hsz0, Nat.mul_one, List.length_map, hm]
      rcases h with ⟨rfl, rfl, rfl⟩ | ⟨g, rfl, h2, h3, h4, h5⟩
      · have hrun := run_append_nil (P := Tryd.prog) w 54 ty 5 i0 (.int .u8 0) hu hi0 hz0 ad m c _ hnl hnews (by omega) (by simp at hl; omega) (by rw [hby0]; simp at hl; omega)
        have hge := grownCap_ge w m 0 5
        have hcm := grownCap_le_maxLen w m 0 5 (by simp only [maxLen]; simp at hl; omega)
        refine ⟨_, _, List.replicate (grownCap w m 0 5 - m) 0, hrun, ?_, alloc_grown w _ _⟩
        rw [List.nil_append]
        generalize grownCap w m 0 5 = cc at *
        subst hm
        exact RF.laid (w := w) ys cc hb hge hcm _ (by rw [← zeros_one]; rfl)
      · by_cases hroom : xs.length + m ≤ xs.length + sp.length
        · have hrun := run_append_room (P := Tryd.prog) w 54 ty 5 i0 hu hi0 g xs.length (xs.length + sp.length) _ h3 ad m c _ hnl hnews hone hroom (by rw [hsz0, hnl, hsz0]; simp; omega)
          refine ⟨_, _, sp.drop m, hrun, .inr ⟨g, ?_, h2, ?_, ?_, fun x hx => h5 x (List.mem_of_mem_drop hx)⟩, setRow_grown _ _ _⟩
          · simp only [List.length_append, List.length_drop, hm]
            congr 1
            omega
          · rw [setRow_heap w g _ _ 5 (0, 0) h3]
            congr 2
            rw [hsz0, Nat.mul_one, List.length_map, ← hm]
            apply Array.ext'
            simp [List.take_append, List.drop_append, List.map_append, List.map_drop, List.append_assoc]
          · simp only [List.length_append, List.length_drop]
            omega
        · have holds : ∀ j u, (xs.map (Value.int .u8))[j]? = some u → w.cell? ((⟨g, 0, none⟩ : Addr).add j) = some u := by
            intro j u hj
            rw [add_plain]
            rw [cell_of_row w g j _ _ _ h3]
            have hjl : j < (xs.map (Value.int .u8)).length := (List.getElem?_eq_some_iff.1 hj).1
            rw [← hj]
            simp only [List.getElem?_toArray, List.map_append]
            rw [List.getElem?_append_left hjl]
          have hlt : xs.length + sp.length < xs.length + m := by omega
          have hrun := run_append_grow (P := Tryd.prog) w 54 ty 5 i0 (.int .u8 0) hu hi0 hz0 ⟨g, 0, none⟩ xs.length (xs.length + sp.length) (xs.map (Value.int .u8)) (by rw [hsz0]; simp) holds ad m c _ hnl hnews hlt (by omega) (by rw [hby0]; exact growslice_fits hlt (by omega))
          have hge := grownCap_ge w (xs.length + m) (xs.length + sp.length) 5
          have hcm := grownCap_le_maxLen w (xs.length + m) (xs.length + sp.length) 5 (by simp only [maxLen]; omega)
          refine ⟨_, _, List.replicate (grownCap w (xs.length + m) (xs.length + sp.length) 5 - (xs.length + m)) 0, hrun, ?_, alloc_grown w _ _⟩
          generalize grownCap w (xs.length + m) (xs.length + sp.length) 5 = cc at *
          subst hm
          have := RF.laid (base := base) (w := w) (xs ++ ys) cc hb (by simp; omega) hcm ((xs.map (Value.int .u8)).toArray ++ (ys.map (Value.int .u8)).toArray ++ Builtin.zeroCells #[.int .u8 0] (cc - (xs.length + ys.length))) (by rw [zeros_one]; simp)
          rw [List.length_append] at this
          exact this
/-- A growing row of up to 2 * 10 ^ 14 bytes is within the machine's bound. -/
theorem next_fits {need old : Nat} (h : old < need) (hn : need ≤ 200000000000000) : Builtin.nextslicecap need old ≤ 281474976710656 := by
  unfold Builtin.nextslicecap
  split
  · omega
  · split
    · omega
    · rw [growBy_four]
      repeat' split
      all_goals omega
theorem strCells_eq (s : ByteArray) : Lib.strCells s = (bytesOf s).map (Value.int .u8) := by simp [bytesOf, Lib.strCells]
theorem bytesOf_len (s : ByteArray) : (bytesOf s).length = s.size := by simp [bytesOf]
set_option maxRecDepth 100000 in
theorem rf_str (base : Nat) (w : World) (ty : TypeId) (v : Value) (xs sp : List Int) (h : RF base w v xs sp) (s : ByteArray) (hl : xs.length + s.size ≤ 200000000000000) (hb : base ≤ w.heap.size) :
    ∃ v1 w1 sp1, (Builtin.append_ #[54, 9] ty #[v, .string s]).run Tryd.prog w = .ok v1 w1 ∧ RF base w1 v1 (xs ++ bytesOf s) sp1 ∧ w.grownBy w1 v.ownBlock := by
  obtain ⟨i0, hi0, hz0, hsz0, hby0⟩ := info_parts infoB
  have hu := Tryd.underlying54
  have hu2 := Tryd.underlying9
  have hbl := bytesOf_len s
  by_cases h0 : s.size = 0
  · have hnil : bytesOf s = [] := List.eq_nil_of_length_eq_zero (by rw [hbl, h0])
    have hf := Lib.run_firstCells_string (P := Tryd.prog) w i0.size s
    have hsc : Lib.strCells s = [] := by rw [strCells_eq, hnil]; rfl
    rw [h0, hsc] at hf
    refine ⟨v, w, sp, ?_, by rw [hnil, List.append_nil]; exact h, World.grownBy.refl w _⟩
    rcases h with ⟨rfl, rfl, rfl⟩ | ⟨g, rfl, h2, h3, h4, h5⟩
    · simp [Builtin.append_, run_underlying hu, run_underlying hu2, sizeOf, typeInfo, hi0, Builtin.lenOf, hf, h0]
    · simp [Builtin.append_, run_underlying hu, run_underlying hu2, sizeOf, typeInfo, hi0, Builtin.lenOf, hf, storeCells, h0]
  · have h63 : ((xs.length + s.size : Nat) : Int) ≤ 9223372036854775807 := by omega
    rcases h with ⟨rfl, rfl, rfl⟩ | ⟨g, rfl, h2, h3, h4, h5⟩
    · have hrun := run_append_nil_string (P := Tryd.prog) w 54 9 ty 5 i0 (.int .u8 0) hu hu2 hi0 hz0 s (by omega) (by omega) (by rw [hby0]; simp at hl; omega)
      have hge := grownCap_ge w s.size 0 5
      have hcm := grownCap_le_maxLen w s.size 0 5 (by simp only [maxLen]; simp at hl; omega)
      refine ⟨_, _, List.replicate (grownCap w s.size 0 5 - s.size) 0, hrun, ?_, alloc_grown w _ _⟩
      rw [List.nil_append]
      generalize grownCap w s.size 0 5 = cc at *
      have := RF.laid (base := base) (w := w) (bytesOf s) cc hb (by omega) hcm (s.data.map (fun b => Value.int .u8 b.toNat) ++ Builtin.zeroCells #[.int .u8 0] (cc - s.size)) (by
        rw [zeros_one, hbl]
        congr 1
        rw [← strCells_eq]
        apply Array.ext'
        simp [Lib.strCells])
      rw [hbl] at this
      exact this
    · by_cases hroom : xs.length + s.size ≤ xs.length + sp.length
      · have hrun := Lib.run_append_room_string (P := Tryd.prog) w 54 9 ty 5 i0 hu hu2 hi0 hsz0 g xs.length (xs.length + sp.length) _ h3 s hroom (by simp; omega)
        refine ⟨_, _, sp.drop s.size, hrun, .inr ⟨g, ?_, h2, ?_, ?_, fun x hx => h5 x (List.mem_of_mem_drop hx)⟩, setRow_grown _ _ _⟩
        · simp only [List.length_append, List.length_drop, hbl]
          congr 1
          omega
        · rw [setRow_heap w g _ _ 5 (0, 0) h3]
          congr 2
          rw [strCells_eq]
          apply Array.ext'
          simp [List.take_append, List.drop_append, List.map_append, List.map_drop, List.append_assoc]
        · simp only [List.length_append, List.length_drop]
          omega
      · have holds : ∀ j u, (xs.map (Value.int .u8))[j]? = some u → w.cell? ((⟨g, 0, none⟩ : Addr).add j) = some u := by
          intro j u hj
          rw [add_plain]
          rw [cell_of_row w g j _ _ _ h3]
          have hjl : j < (xs.map (Value.int .u8)).length := (List.getElem?_eq_some_iff.1 hj).1
          rw [← hj]
          simp only [List.getElem?_toArray, List.map_append]
          rw [List.getElem?_append_left hjl]
        have hlt : xs.length + sp.length < xs.length + s.size := by omega
        have hrun := Lib.run_append_grow_string (P := Tryd.prog) w 54 9 ty 5 i0 (.int .u8 0) hu hu2 hi0 hz0 ⟨g, 0, none⟩ xs.length (xs.length + sp.length) (xs.map (Value.int .u8)) (by rw [hsz0]; simp) holds s hlt h63 (by rw [hby0, Nat.mul_one]; exact next_fits hlt (by omega))
        have hge := grownCap_ge w (xs.length + s.size) (xs.length + sp.length) 5
        have hcm := grownCap_le_maxLen w (xs.length + s.size) (xs.length + sp.length) 5 (by simp only [maxLen]; omega)
        refine ⟨_, _, List.replicate (grownCap w (xs.length + s.size) (xs.length + sp.length) 5 - (xs.length + s.size)) 0, hrun, ?_, alloc_grown w _ _⟩
        generalize grownCap w (xs.length + s.size) (xs.length + sp.length) 5 = cc at *
        have := RF.laid (base := base) (w := w) (xs ++ bytesOf s) cc hb (by simp; omega) hcm ((xs.map (Value.int .u8)).toArray ++ (Lib.strCells s).toArray ++ Builtin.zeroCells #[.int .u8 0] (cc - (xs.length + s.size))) (by rw [zeros_one, strCells_eq]; simp [hbl])
        rw [List.length_append, hbl] at this
        exact this
theorem rf_zeros (base : Nat) (w : World) (ty : TypeId) (n : Int) (hn : 0 < n) (hl : n ≤ 140737488355328) (hb : base ≤ w.heap.size) :
    ∃ v1 w1 sp1, (Builtin.append_ #[54, 3] ty #[.slice none 0 0, .int .i64 n]).run Tryd.prog w = .ok v1 w1 ∧ RF base w1 v1 (List.replicate n.toNat 0) sp1 ∧ w.grownBy w1 none := by
  obtain ⟨i0, hi0, hz0, hsz0, hby0⟩ := info_parts infoB
  have hu := Tryd.underlying54
  have hu2 := Tryd.underlying3
  obtain ⟨m, rfl⟩ : ∃ m : Nat, n = (m : Int) := ⟨n.toNat, by omega⟩
  rw [Int.toNat_natCast]
  have hw : IntKind.i64.wrap (m : Int) = m := by rw [IntKind.wrap_i64]; omega
  have hneg : ¬ ((m : Int) < 0) := by omega
  have hbig : ¬ (281474976710656 < (m : Int) * (i0.bytes : Int)) := by rw [hby0]; omega
  have hmz : ¬ (m * i0.size = 0) := by rw [hsz0]; omega
  have hn : m ≠ 0 := by omega
  have h63' : ¬ (9223372036854775807 < (m : Int)) := by omega
  have h48' : ¬ (281474976710656 < Builtin.nextslicecap m 0 * i0.bytes) := by rw [nextslicecap_zero (by omega), hby0]; omega
  have hrun : (Builtin.append_ #[54, 3] ty #[.slice none 0 0, .int .i64 (m : Int)]).run Tryd.prog w =
      .ok (.slice (some ⟨w.heap.size, 0, none⟩) m (grownCap w m 0 5)) (w.drew.alloc (.cells (Builtin.zeroCells #[.int .u8 0] m ++ Builtin.zeroCells #[.int .u8 0] (grownCap w m 0 5 - m)) 5)) := by
    simp [Builtin.append_, run_underlying hu, run_underlying hu2, sizeOf, typeInfo, zeroValue, hi0, hz0, asInt, asIntOf, hw, hneg, hbig, hn, h63', h48', Question.forced, run_firstCells_none, newRow, grownCap, hmz]
    rfl
  have hge := grownCap_ge w m 0 5
  have hcm := grownCap_le_maxLen w m 0 5 (by simp only [maxLen]; omega)
  refine ⟨_, _, List.replicate (grownCap w m 0 5 - m) 0, hrun, ?_, alloc_grown w _ _⟩
  generalize grownCap w m 0 5 = cc at *
  have := RF.laid (base := base) (w := w) (List.replicate m 0) cc hb (by simpa using hge) hcm (Builtin.zeroCells #[.int .u8 0] m ++ Builtin.zeroCells #[.int .u8 0] (cc - m)) (by rw [zeros_one, zeros_one]; simp)
  rw [List.length_replicate] at this
  exact this
theorem RF.base {base : Nat} {w : World} {v : Value} {xs sp : List Int} (h : RF base w v xs sp) (k : Nat) (hk : v.ownBlock = some k) : base ≤ k := by
  rcases h with ⟨rfl, rfl, rfl⟩ | ⟨g, rfl, h2, h3, h4, h5⟩
  · simp [Value.ownBlock] at hk
  · simp [Value.ownBlock] at hk; omega
section
variable {ops : Array Oper} {rest : List Oper} {o : Oper} {a : Act} {Q : Exit → Act → World → Prop}
theorem wp_rf_rows {w0 W : World} (base : Nat) (hgd : o.guard = none) (s x : Operand)
    (ho : o.op = .call { callee := .builtin .append, args := #[s, x], argTypes := #[54, 54] })
    (v : Value) (xs sp ys : List Int) (A : Option Addr) (m c : Nat) (hs : a.eval s = v) (hx : a.eval x = .slice A m c)
    (HO : RF base W v xs sp) (HR : Kd.C (Kd.int .u8) W A m ys) (HB : Below base w0 W) (hbase : base ≤ W.heap.size) (hl : xs.length + m ≤ 140737488355328)
    (h : ∀ v1 w1 sp1, RF base w1 v1 (xs ++ ys) sp1 → Below base w0 w1 → W.grownBy w1 v.ownBlock → wpList Tryd.prog ops Q rest (a.put o.dst v1) w1) :
    wpList Tryd.prog ops Q (o :: rest) a W := by
  obtain ⟨v1, w1, sp1, hr1, h1, hg⟩ := rf_rows base W o.type v xs sp HO A m c ys HR hl hbase
  refine wpList_plain hgd fun K hK => ?_
  unfold Oper.wp execOp
  simp only [ho, resolve, invoke, builtin, Sem.run_bind, Sem.run_pure, Result.andThen_ok, List.map_toArray, List.map_cons, List.map_nil, hs, hx, hr1]
  exact hK _ _ (h v1 w1 sp1 h1 (HB.grown hg hbase HO.base) hg)
theorem wp_rf_str {w0 W : World} (base : Nat) (hgd : o.guard = none) (s x : Operand)
    (ho : o.op = .call { callee := .builtin .append, args := #[s, x], argTypes := #[54, 9] })
    (v : Value) (xs sp : List Int) (y : ByteArray) (hs : a.eval s = v) (hx : a.eval x = .string y)
    (HO : RF base W v xs sp) (HB : Below base w0 W) (hbase : base ≤ W.heap.size) (hl : xs.length + y.size ≤ 200000000000000)
    (h : ∀ v1 w1 sp1, RF base w1 v1 (xs ++ bytesOf y) sp1 → Below base w0 w1 → W.grownBy w1 v.ownBlock → wpList Tryd.prog ops Q rest (a.put o.dst v1) w1) :
    wpList Tryd.prog ops Q (o :: rest) a W := by
  obtain ⟨v1, w1, sp1, hr1, h1, hg⟩ := rf_str base W o.type v xs sp HO y hl hbase
  refine wpList_plain hgd fun K hK => ?_
  unfold Oper.wp execOp
  simp only [ho, resolve, invoke, builtin, Sem.run_bind, Sem.run_pure, Result.andThen_ok, List.map_toArray, List.map_cons, List.map_nil, hs, hx, hr1]
  exact hK _ _ (h v1 w1 sp1 h1 (HB.grown hg hbase HO.base) hg)
theorem wp_rf_zeros {w0 W : World} (base : Nat) (hgd : o.guard = none) (s x : Operand)
    (ho : o.op = .call { callee := .builtin .append, args := #[s, x], argTypes := #[54, 3] })
    (n : Int) (hs : a.eval s = .slice none 0 0) (hx : a.eval x = .int .i64 n) (hn : 0 < n)
    (HB : Below base w0 W) (hbase : base ≤ W.heap.size) (hl : n ≤ 140737488355328)
    (h : ∀ v1 w1 sp1, RF base w1 v1 (List.replicate n.toNat 0) sp1 → Below base w0 w1 → wpList Tryd.prog ops Q rest (a.put o.dst v1) w1) :
    wpList Tryd.prog ops Q (o :: rest) a W := by
  obtain ⟨v1, w1, sp1, hr1, h1, hg⟩ := rf_zeros base W o.type n hn hl hbase
  refine wpList_plain hgd fun K hK => ?_
  unfold Oper.wp execOp
  simp only [ho, resolve, invoke, builtin, Sem.run_bind, Sem.run_pure, Result.andThen_ok, List.map_toArray, List.map_cons, List.map_nil, hs, hx, hr1]
  exact hK _ _ (h v1 w1 sp1 h1 (HB.grown hg hbase (fun k hk => by cases hk)))
end
end Go.Proofs.YtklkikndcieojaaDoor
