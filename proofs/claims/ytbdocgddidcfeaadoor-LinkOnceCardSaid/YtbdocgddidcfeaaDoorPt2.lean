/- Merged: PtN PtQ PtR PtT PtU -/
import Derived.Test.YtbdocgddidcfeaaDoorPt1
import Derived.Laws.CopyRow
import Derived.Laws.IdiomCopy
import Derived.Laws.MakeOwn
import Derived.Deep.WholeRow
import Derived.Lib.AppendStr
/- The document's reading of a number: the plain laws. -/
namespace Go.Proofs.YtbdocgddidcfeaaDoor
open Go.RowKit Go.Proofs.YtbdocgddidcfeaaDoorW.PrintWords Go.Proofs.YtbdocgddidcfeaaDoorW.PrintLast Go.Proofs.YtbdocgddidcfeaaDoorW.PrintMore
set_option linter.unusedVariables false
set_option linter.unusedSimpArgs false

/-- Bytes as a number, the first one lowest. -/
def val : List Int → Int
  | [] => 0
  | c :: cs => c % 128 + 128 * val cs
theorem val_nonneg : ∀ l, 0 ≤ val l
  | [] => Int.le_refl 0
  | c :: cs => by have := val_nonneg cs; rw [val]; omega
theorem val_snoc (c : Int) : ∀ a : List Int, val (a ++ [c]) = val a + c % 128 * (128 ^ a.length : Nat)
  | [] => by simp [val]
  | x :: xs => by
    rw [List.cons_append, val, val_snoc c xs, val, List.length_cons, Nat.pow_succ, Int.natCast_mul, Int.mul_add, Int.add_assoc]
    congr 1
    congr 1
    rw [← Int.mul_assoc, ← Int.mul_assoc, Int.mul_comm 128 (c % 128), Int.mul_assoc, Int.mul_assoc, Int.mul_comm (128 : Int)]
    rfl
theorem rd_get {l : List Int} {i : Nat} (h : i < l.length) : rd l (i : Int) = l[i] := by
  simp [rd, List.getD_eq_getElem?_getD, List.getElem?_eq_getElem h]
theorem val_take (R : List Int) (n : Nat) (h : n < R.length) : val (R.take (n + 1)) = val (R.take n) + rd R (n : Int) % 128 * (128 ^ n : Nat) := by
  rw [List.take_succ_eq_append_getElem h, val_snoc, rd_get h, List.length_take, Nat.min_eq_left (by omega)]
theorem val_drop (L : List Int) (i : Nat) (h : i < L.length) : val (L.drop i) = rd L (i : Int) % 128 + 128 * val (L.drop (i + 1)) := by
  rw [List.drop_eq_getElem_cons h, val, rd_get h]
theorem val_drop_le (L : List Int) : ∀ i, val (L.drop i) ≤ val L
  | 0 => by simp
  | i + 1 => by
    have h1 := val_drop_le L i
    by_cases h : i < L.length
    · have h2 := val_drop L i h
      have h3 := val_nonneg (L.drop (i + 1))
      omega
    · rw [List.drop_eq_nil_of_le (by omega)]
      exact val_nonneg L

end Go.Proofs.YtbdocgddidcfeaaDoor

/- Lent. (under way) -/
namespace Go.Proofs.YtbdocgddidcfeaaDoor
open Go.RowKit Go.Proofs.YtbdocgddidcfeaaDoorW.PrintWords Go.Proofs.YtbdocgddidcfeaaDoorW.PrintLast Go.Proofs.YtbdocgddidcfeaaDoorW.PrintMore
set_option linter.unusedVariables false
set_option linter.unusedSimpArgs false

theorem made_one (z : Value) (n : Nat) : madeCells #[z] n = (List.replicate n z).toArray := by
  apply Array.ext
  · simp [madeCells]
  · intro i h1 h2
    simp [madeCells, Nat.mod_one]
theorem infoS : (Tryd.prog.info? 5).map (·.size) = some 1 := by kernel_rfl
theorem lent_copy (w : World) (A0 : Option Addr) (c0 : Nat) (l0 : List Int) (hr : Kd.C (Kd.int .u8) w A0 l0.length l0) :
    (Builtin.copy_ #[30, 30] 3 #[.slice (some ⟨w.heap.size, 0, none⟩) l0.length (l0.length + 3), .slice A0 l0.length c0]).run Tryd.prog (w.alloc (.cells (madeCells #[.int .u8 0] (l0.length + 3)) 5)) =
      .ok (goInt l0.length) (w.alloc (.cells (l0.map (Value.int .u8) ++ [Value.int .u8 0, Value.int .u8 0, Value.int .u8 0]).toArray 5)) := by
  rw [made_one]
  by_cases h0 : l0.length = 0
  · have hnil : l0 = [] := List.eq_nil_of_length_eq_zero h0
    subst hnil
    have h := run_copy_none (P := Tryd.prog) (w.alloc (.cells (List.replicate 3 (Value.int .u8 0)).toArray 5)) 30 30 3 5 (some ⟨w.heap.size, 0, none⟩) A0 0 3 0 c0 Tryd.underlying30 infoS (by simp)
    exact h
  · have hrd := Kd.C_alloc hr (.cells (List.replicate (l0.length + 3) (Value.int .u8 0)).toArray 5)
    obtain ⟨ad, hA, _⟩ := hr.2.2 (by omega)
    subst hA
    have hsrc : ∀ j v, (l0.map (Value.int .u8))[j]? = some v → (w.alloc (.cells (List.replicate (l0.length + 3) (Value.int .u8 0)).toArray 5)).cell? (ad.add j) = some v := by
      intro j v hj
      obtain ⟨x, hx, rfl⟩ : ∃ x, l0[j]? = some x ∧ v = .int .u8 x := by
        rw [List.getElem?_map] at hj
        cases hg : l0[j]? with
        | none => rw [hg] at hj; simp at hj
        | some x => rw [hg] at hj; simp at hj; exact ⟨x, rfl, hj.symm⟩
      have hjl : j < l0.length := (List.getElem?_eq_some_iff.1 hx).1
      obtain ⟨ad2, e, hc⟩ := Kd.at_int hrd (j : Int) (by omega) (by omega)
      cases e
      rw [Int.toNat_natCast, rd_get hjl] at hc
      rw [hc]
      have := (List.getElem?_eq_some_iff.1 hx).2
      rw [this]
    have h := run_copy_row (P := Tryd.prog) (w.alloc (.cells (List.replicate (l0.length + 3) (Value.int .u8 0)).toArray 5)) 30 30 3 5 w.heap.size 0 l0.length (l0.length + 3) ad l0.length c0 _ 5 (l0.map (Value.int .u8)) Tryd.underlying30 infoS (MapKept.heap_alloc w _).1 (by simp) hsrc (by simp) (by intro v hv; obtain ⟨x, _, rfl⟩ := List.mem_map.1 hv; rfl)
    rw [List.length_map] at h
    rw [h, World.setRow_alloc_new]
    congr 4
    simp
/-- Lent bytes with k marks in their spare room. -/
def spareC (l0 : List Int) (k : Nat) : Array Value := (l0.map (Value.int .u8) ++ (List.replicate k (Value.int .u8 77) ++ List.replicate (3 - k) (Value.int .u8 0))).toArray
theorem spare_at (l0 : List Int) (k : Nat) (hk : k < 3) : (spareC l0 k)[l0.length + k]? = some (.int .u8 0) ∧ (spareC l0 k).setIfInBounds (l0.length + k) (.int .u8 77) = spareC l0 (k + 1) := by
  have h3 : k = 0 ∨ k = 1 ∨ k = 2 := by omega
  constructor
  · rcases h3 with rfl | rfl | rfl <;> simp [spareC, List.getElem?_append_right]
  · have hl : (l0.map (Value.int .u8)).length = l0.length := by simp
    unfold spareC
    rw [List.setIfInBounds_toArray, List.set_append_right _ _ (by rw [hl]; omega), hl]
    congr 2
    rcases h3 with rfl | rfl | rfl <;> simp [List.replicate, List.set]
set_option maxHeartbeats 4000000 in
set_option maxRecDepth 100000 in
theorem Lent_calls (A0 : Option Addr) (c0 : Nat) (l0 : List Int) (w : World)
    (hr0 : Kd.C (Kd.int .u8) w A0 l0.length l0) (hl : l0.length ≤ 140737488355318) :
    Calls Tryd.prog 31 #[.slice A0 l0.length c0] w
      fun e w' => ∃ g, e = .returned (.slice (some ⟨g, 0, none⟩) l0.length (l0.length + 3)) ∧ w.heap.size ≤ g ∧ w'.heap[g]? = some (.cells (l0.map (Value.int .u8) ++ [Value.int .u8 77, Value.int .u8 77, Value.int .u8 77]).toArray 5 (0, 0)) ∧ Below w.heap.size w w' := by
  have HR := Aside0.mk hr0
  clear hr0
  obtain ⟨n, hn⟩ : ∃ n, n = l0.length := ⟨_, rfl⟩
  rw [← hn] at hl ⊢
  have HN := Aside0.mk hn; clear hn
  have hmk : ∀ W : World, (Instr.makeSlice 30 (.int .i64 (n : Int)) (.int .i64 ((n : Int) + 3))).run Tryd.prog W = .ok (.slice (some ⟨W.heap.size, 0, none⟩) n (n + 3)) (W.alloc (.cells (madeCells #[.int .u8 0] (n + 3)) 5)) := by
    intro W
    obtain ⟨i0, hi0, hz0, hsz0, hby⟩ := info_parts infoB
    have h := run_make (P := Tryd.prog) W 30 5 i0 (.int .u8 0) Tryd.underlying30 hi0 hz0 .i64 .i64 (n : Int) ((n : Int) + 3) (by omega) (by omega) (by rw [hby]; omega) (by omega)
    rw [hsz0, Nat.mul_one, show ((n : Int) + 3).toNat = n + 3 by omega, Int.toNat_natCast] at h
    exact h
  go_enter Tryd.func31, Tryd.ntmps31
  have hcp := lent_copy w A0 c0 l0 HR.out
  rw [← HN.out] at hcp
  go_wp2
  go_loopw [5] (fun v5 wr => ∃ i : Int, v5 = .int .i64 i ∧ (n : Int) ≤ i ∧ i ≤ (n : Int) + 3 ∧ Aside0 (wr.heap[w.heap.size]? = some (.cells (spareC l0 (i - (n : Int)).toNat) 5 (0, 0))) ∧ Aside0 (Below w.heap.size w wr)) (fun v5 _ => ((n : Int) + 3 - intOf v5).toNat)
  case atStart => exact ⟨_, rfl, by omega, by omega, ⟨by rw [show ((n : Int) - (n : Int)).toNat = 0 by omega]; exact (MapKept.heap_alloc w _).1⟩, ⟨below_alloc (Below.refl _ _) _⟩⟩
  case round =>
    obtain ⟨i, rfl, hi0, hi1, BK, HB⟩ := hrel
    by_cases hx : i < (n : Int) + 3
    · have dx : decide (i < (n : Int) + 3) = true := decide_eq_true hx
      obtain ⟨f1, f2⟩ := spare_at l0 (i - (n : Int)).toNat (by omega)
      rw [← HN.out, show n + (i - (n : Int)).toNat = i.toNat by omega] at f1 f2
      rw [show (i - (n : Int)).toNat + 1 = (i + 1 - (n : Int)).toNat by omega] at f2
      have hcl := (blk_cell BK.out i.toNat).trans f1
      have hfr := blk_frozen BK.out i.toNat
      have BK2 := Aside0.mk (blk_put BK.out i.toNat (.int .u8 77) f2)
      have HB2 := Aside0.mk (below_set HB.out (g := w.heap.size) (j := i.toNat) (v := .int .u8 77) (Nat.le_refl _))
      clear f1 f2
      go_wp2
      exact ⟨⟨i + 1, rfl, by omega, by omega, BK2, HB2⟩, by simp only [intOf]; omega⟩
    · have dx : decide (i < (n : Int) + 3) = false := decide_eq_false hx
      have hie : (i - (n : Int)).toNat = 3 := by omega
      rw [hie] at BK
      go_wp2
      go_ret
      exact ⟨_, rfl, Nat.le_refl _, by rw [BK.out]; rfl, HB.out⟩
end Go.Proofs.YtbdocgddidcfeaaDoor

/- Kept. -/
namespace Go.Proofs.YtbdocgddidcfeaaDoor
open Go.RowKit Go.Proofs.YtbdocgddidcfeaaDoorW.PrintWords Go.Proofs.YtbdocgddidcfeaaDoorW.PrintLast Go.Proofs.YtbdocgddidcfeaaDoorW.PrintMore
set_option linter.unusedVariables false
set_option linter.unusedSimpArgs false

theorem spare3_lo (l0 : List Int) (i : Nat) (h : i < l0.length) : (spareC l0 3)[i]? = some (.int .u8 (rd l0 (i : Int))) := by
  simp [spareC, List.getElem?_append_left, h, rd_get h]
theorem spare3_hi (l0 : List Int) (i : Nat) (h : l0.length ≤ i) (h2 : i < l0.length + 3) : (spareC l0 3)[i]? = some (.int .u8 77) := by
  have : i = l0.length + 0 ∨ i = l0.length + 1 ∨ i = l0.length + 2 := by omega
  rcases this with rfl | rfl | rfl <;> simp [spareC, List.getElem?_append_right, List.replicate]

set_option maxHeartbeats 4000000 in
set_option maxRecDepth 100000 in
theorem Kept_calls (g : Nat) (A1 : Option Addr) (c1 : Nat) (l0 : List Int) (w0 w : World) (hg : w0.heap.size ≤ g) (hB : Below w0.heap.size w0 w)
    (hbk : w.heap[g]? = some (.cells (spareC l0 3) 5 (0, 0))) (hr : Kd.C (Kd.int .u8) w0 A1 l0.length l0) (hl : l0.length ≤ 140737488355318) :
    Calls Tryd.prog 32 #[.slice (some ⟨g, 0, none⟩) l0.length (l0.length + 3), .slice A1 l0.length c1] w
      fun e w' => e = .returned (.bool true) ∧ Below w0.heap.size w0 w' := by
  have HR := Aside0.mk hr; have HB := Aside0.mk hB; have BK := Aside0.mk hbk; have HG := Aside0.mk hg
  clear hr hB hbk hg
  obtain ⟨n, hn⟩ : ∃ n, n = l0.length := ⟨_, rfl⟩
  rw [← hn] at hl ⊢
  have HN := Aside0.mk hn; clear hn
  have d1 : decide ((n : Int) + 3 ≤ ((n + 3 : Nat) : Int)) = true := decide_eq_true (by omega)
  go_enter Tryd.func32, Tryd.ntmps32
  go_wp2
  go_loopw [7] (fun v wr => ∃ i : Int, v = .int .i64 i ∧ 0 ≤ i ∧ i ≤ (n : Int) + 3 ∧ Aside0 (∃ cs, wr.heap[g]? = some (.cells cs 5 (0, 0)) ∧ ∀ j : Nat, i ≤ (j : Int) → cs[j]? = (spareC l0 3)[j]?) ∧ Aside0 (Below w0.heap.size w0 wr)) (fun v _ => ((n : Int) + 3 - intOf v).toNat)
  case atStart => exact ⟨0, rfl, by omega, by omega, ⟨_, BK.out, fun j _ => rfl⟩, HB⟩
  case round =>
    clear HB BK
    obtain ⟨i, rfl, hi0, hi1, BK, HB⟩ := hrel
    by_cases hx : i < (n : Int) + 3
    · have dx : decide (i < (n : Int) + 3) = true := decide_eq_true hx
      obtain ⟨cs, hcs, hrest⟩ := BK.out
      by_cases hin : i < (n : Int)
      · have dn : decide (i < (n : Int)) = true := decide_eq_true hin
        have dn2 : decide ((n : Int) ≤ i) = false := decide_eq_false (by omega)
        obtain ⟨x, hxx⟩ : ∃ x, x = rd l0 i := ⟨_, rfl⟩
        have hcl : wr.cell? ⟨g, i.toNat, none⟩ = some (.int .u8 x) := by
          rw [blk_cell hcs, hrest _ (by omega), spare3_lo l0 i.toNat (by have := HN.out; omega), Int.toNat_of_nonneg hi0, hxx]
        have hfr := blk_frozen hcs i.toNat
        have hrc := Kd.C_below HR.out HB.out
        rw [← HN.out] at hrc
        obtain ⟨ad, e, hcell⟩ := Kd.at_int hrc i hi0 hin
        cases e
        rw [← hxx] at hcell
        have hcs2 := Aside0.mk hcs; have hrest2 := Aside0.mk hrest
        clear hcs hrest BK hrc hxx
        go_wp2
        go_quiet (fail)
        go_wp2
        exact ⟨⟨i + 1, rfl, by omega, by omega, ⟨_, blk_put (w := wr.drewN nq) hcs2.out i.toNat _ rfl, fun j hj => by rw [Array.getElem?_setIfInBounds_ne (by omega)]; exact hrest2.out j (by omega)⟩, ⟨Below.setCell (pw_below_drewN HB.out nq) HG.out _⟩⟩, by simp only [intOf]; omega⟩
      · have dn : decide (i < (n : Int)) = false := decide_eq_false hin
        have dn2 : decide ((n : Int) ≤ i) = true := decide_eq_true (by omega)
        have hcl : wr.cell? ⟨g, i.toNat, none⟩ = some (.int .u8 77) := by
          rw [blk_cell hcs, hrest _ (by omega), spare3_hi l0 i.toNat (by have := HN.out; omega) (by have := HN.out; omega)]
        have hfr := blk_frozen hcs i.toNat
        have hcs2 := Aside0.mk hcs; have hrest2 := Aside0.mk hrest
        clear hcs hrest BK
        go_wp2
        go_quiet (fail)
        go_wp2
        exact ⟨⟨i + 1, rfl, by omega, by omega, ⟨_, blk_put (w := wr.drewN nq) hcs2.out i.toNat _ rfl, fun j hj => by rw [Array.getElem?_setIfInBounds_ne (by omega)]; exact hrest2.out j (by omega)⟩, ⟨Below.setCell (pw_below_drewN HB.out nq) HG.out _⟩⟩, by simp only [intOf]; omega⟩
    · have dx : decide (i < (n : Int) + 3) = false := decide_eq_false hx
      go_wp2
      go_ret
      exact ⟨rfl, HB.out⟩
end Go.Proofs.YtbdocgddidcfeaaDoor

/- Own rows of bytes, with what stands in their spare room. -/
namespace Go.Proofs.YtbdocgddidcfeaaDoor
open Go.RowKit Go.Proofs.YtbdocgddidcfeaaDoorW.PrintWords Go.Proofs.YtbdocgddidcfeaaDoorW.PrintLast Go.Proofs.YtbdocgddidcfeaaDoorW.PrintMore
set_option linter.unusedVariables false
set_option linter.unusedSimpArgs false

/-- An own row of bytes xs, and sp in its spare room. -/
def RF (base : Nat) (w : World) (v : Value) (xs sp : List Int) : Prop :=
  (v = .slice none 0 0 ∧ xs = [] ∧ sp = []) ∨
  ∃ g, v = .slice (some ⟨g, 0, none⟩) xs.length (xs.length + sp.length) ∧ base ≤ g ∧ w.heap[g]? = some (.cells ((xs ++ sp).map (Value.int .u8)).toArray 5 (0, 0)) ∧
    xs.length + sp.length ≤ maxLen ∧ ∀ x ∈ sp, 0 ≤ x ∧ x < 256
theorem RF.nil (base : Nat) (w : World) : RF base w (.slice none 0 0) [] [] := .inl ⟨rfl, rfl, rfl⟩
theorem RF.lower {base base' : Nat} {w : World} {v : Value} {xs sp : List Int} (h : RF base w v xs sp) (hb : base' ≤ base) : RF base' w v xs sp := by
  rcases h with h | ⟨g, h1, h2, h3⟩
  · exact .inl h
  · exact .inr ⟨g, h1, Nat.le_trans hb h2, h3⟩
theorem RF.below {base : Nat} {w w1 : World} {v : Value} {xs sp : List Int} (h : RF base w v xs sp) (hb : Below w.heap.size w w1) : RF base w1 v xs sp := by
  rcases h with h | ⟨g, h1, h2, h3, h4⟩
  · exact .inl h
  · refine .inr ⟨g, h1, h2, ?_, h4⟩
    rw [hb.block g (Array.getElem?_eq_some_iff.1 h3).1]
    exact h3
theorem RF.R {base : Nat} {w : World} {v : Value} {xs sp : List Int} (h : RF base w v xs sp) : Kd.R (Kd.int .u8) 5 w base (fun _ => True) v xs := by
  refine Kd.R_of_own (h1 := fun _ => rfl) (ok := fun _ => True) ?_ (fun _ _ => trivial)
  rcases h with ⟨rfl, rfl, rfl⟩ | ⟨g, rfl, h2, h3, h4, h5⟩
  · exact World.ownsRow_nil _ _ _ _
  · refine ⟨by simp [encs], .inr ⟨g, _, _, rfl, h2, h3, by omega, h4, by simp, ?_⟩⟩
    have : ((xs ++ sp).map (Value.int .u8)).toArray.toList.take (xs.length * 1) = encs (Value.int .u8) xs := by
      rw [Nat.mul_one]
      show ((xs ++ sp).map (Value.int .u8)).take xs.length = _
      rw [List.map_append, List.take_left' (by simp)]
      rfl
    exact this
theorem zeros_one (n : Nat) : Builtin.zeroCells #[.int .u8 0] n = ((List.replicate n (0 : Int)).map (Value.int .u8)).toArray := by
  apply Array.ext
  · simp [Builtin.zeroCells]
  · intro i h1 h2
    simp [Builtin.zeroCells, Nat.mod_one]
theorem zeros_range (n : Nat) : ∀ x ∈ List.replicate n (0 : Int), 0 ≤ x ∧ x < 256 := by
  intro x hx
  obtain rfl := (List.mem_replicate.1 hx).2
  decide
theorem alloc_grown (w : World) (o : Obj) (row : Option Nat) : w.grownBy (w.drew.alloc o) row := ⟨rfl, rfl, rfl, by simp, fun k hk _ => heap_alloc_old w.drew _ hk⟩
theorem setRow_grown (w : World) (g : Nat) (cs : Array Value) : w.grownBy (w.setRow g cs) (some g) := ⟨rfl, rfl, rfl, by simp, fun k hk hne => setRow_other w g k _ (fun e => hne (by rw [e]))⟩
theorem rd_get' {l : List Int} {i : Nat} (h : i < l.length) : rd l (i : Int) = l[i] := by
  unfold rd
  rw [Int.toNat_natCast]
  simp [h]
theorem C_cells {w : World} {ad : Addr} {m : Nat} {ys : List Int} (hr : Kd.C (Kd.int .u8) w (some ad) m ys) (hm : m = ys.length) :
    ∀ j v, (ys.map (Value.int .u8))[j]? = some v → w.cell? (ad.add j) = some v := by
  intro j v hj
  obtain ⟨x, hx, rfl⟩ : ∃ x, ys[j]? = some x ∧ v = .int .u8 x := by
    rw [List.getElem?_map] at hj
    cases hg : ys[j]? with
    | none => rw [hg] at hj; simp at hj
    | some x => rw [hg] at hj; simp at hj; exact ⟨x, rfl, hj.symm⟩
  have hjl : j < ys.length := (List.getElem?_eq_some_iff.1 hx).1
  obtain ⟨ad2, e, hc⟩ := Kd.at_int hr (j : Int) (by omega) (by omega)
  cases e
  rw [Int.toNat_natCast, rd_get' hjl] at hc
  rw [hc, (List.getElem?_eq_some_iff.1 hx).2]
theorem C_none {w : World} {m : Nat} {ys : List Int} (hr : Kd.C (Kd.int .u8) w none m ys) : m = 0 := by
  rcases Nat.eq_zero_or_pos m with h0 | h0
  · exact h0
  · obtain ⟨ad, h, _⟩ := hr.2.2 h0
    cases h
/-- A new row. -/
theorem RF.laid {base : Nat} {w : World} (xs : List Int) (c : Nat) (hb : base ≤ w.heap.size) (hc : xs.length ≤ c) (hm : c ≤ maxLen) (cs : Array Value)
    (hcs : cs = (xs.map (Value.int .u8)).toArray ++ ((List.replicate (c - xs.length) (0 : Int)).map (Value.int .u8)).toArray) :
    RF base (w.drew.alloc (.cells cs 5)) (.slice (some ⟨w.heap.size, 0, none⟩) xs.length c) xs (List.replicate (c - xs.length) 0) := by
  subst hcs
  refine .inr ⟨w.heap.size, by simp; omega, hb, ?_, by simp; omega, zeros_range _⟩
  have he : ((xs ++ List.replicate (c - xs.length) 0).map (Value.int .u8)).toArray = (xs.map (Value.int .u8)).toArray ++ ((List.replicate (c - xs.length) (0 : Int)).map (Value.int .u8)).toArray := by simp
  rw [he]
  exact heap_alloc_new w.drew _
theorem rf_rows (base : Nat) (w : World) (ty : TypeId) (v : Value) (xs sp : List Int) (h : RF base w v xs sp) (A : Option Addr) (m c : Nat) (ys : List Int) (hr : Kd.C (Kd.int .u8) w A m ys) (hl : xs.length + m ≤ 140737488355328) (hb : base ≤ w.heap.size) :
    ∃ v1 w1 sp1, (Builtin.append_ #[30, 30] ty #[v, .slice A m c]).run Tryd.prog w = .ok v1 w1 ∧ RF base w1 v1 (xs ++ ys) sp1 ∧ w.grownBy w1 v.ownBlock := by
  obtain ⟨i0, hi0, hz0, hsz0, hby0⟩ := info_parts infoB
  have hu := Tryd.underlying30
  have hm : m = ys.length := hr.1.symm
  by_cases h0 : m = 0
  · subst h0
    obtain rfl : ys = [] := List.eq_nil_of_length_eq_zero hm.symm
    refine ⟨v, w, sp, ?_, by rw [List.append_nil]; exact h, World.grownBy.refl w _⟩
    rcases h with ⟨rfl, rfl, rfl⟩ | ⟨g, rfl, h2, h3, h4, h5⟩
    · cases A <;> simp [Builtin.append_, run_underlying hu, sizeOf, typeInfo, hi0, Builtin.lenOf, Builtin.firstCells, loadCells, loadCellsFrom]
    · cases A <;> simp [Builtin.append_, run_underlying hu, sizeOf, typeInfo, hi0, Builtin.lenOf, Builtin.firstCells, storeCells, loadCells, loadCellsFrom]
  · cases A with
    | none => exact absurd (C_none hr) h0
    | some ad =>
      have hnews := C_cells hr hm
      have hone : ∀ u ∈ ys.map (Value.int .u8), u.oneCell' = true := by
        intro u hu
        obtain ⟨x, _, rfl⟩ := List.mem_map.1 hu
        rfl
      have hnl : (ys.map (Value.int .u8)).length = m * i0.size := by rw [hsz0, Nat.mul_one, List.length_map, hm]
      rcases h with ⟨rfl, rfl, rfl⟩ | ⟨g, rfl, h2, h3, h4, h5⟩
      · have hrun := run_append_nil (P := Tryd.prog) w 30 ty 5 i0 (.int .u8 0) hu hi0 hz0 ad m c _ hnl hnews (by omega) (by simp at hl; omega) (by rw [hby0]; simp at hl; omega)
        have hge := grownCap_ge w m 0 5
        have hcm := grownCap_le_maxLen w m 0 5 (by simp only [maxLen]; simp at hl; omega)
        refine ⟨_, _, List.replicate (grownCap w m 0 5 - m) 0, hrun, ?_, alloc_grown w _ _⟩
        rw [List.nil_append]
        generalize grownCap w m 0 5 = cc at *
        subst hm
        exact RF.laid (w := w) ys cc hb hge hcm _ (by rw [← zeros_one]; rfl)
      · by_cases hroom : xs.length + m ≤ xs.length + sp.length
        · have hrun := run_append_room (P := Tryd.prog) w 30 ty 5 i0 hu hi0 g xs.length (xs.length + sp.length) _ h3 ad m c _ hnl hnews hone hroom (by rw [hsz0, hnl, hsz0]; simp; omega)
          refine ⟨_, _, sp.drop m, hrun, .inr ⟨g, ?_, h2, ?_, ?_, fun x hx => h5 x (List.mem_of_mem_drop hx)⟩, setRow_grown _ _ _⟩
          · simp only [List.length_append, List.length_drop, hm]
            congr 1
            omega
          · rw [setRow_heap w g _ _ 5 (0, 0) h3]
            congr 2
            rw [hsz0, Nat.mul_one, List.length_map, ← hm]
            apply Array.ext'
            simp [List.take_append, List.drop_append, List.map_append, List.map_drop, List.append_assoc]
          · simp only [List.length_append, List.length_drop]
            omega
        · have holds : ∀ j u, (xs.map (Value.int .u8))[j]? = some u → w.cell? ((⟨g, 0, none⟩ : Addr).add j) = some u := by
            intro j u hj
            rw [add_plain]
            rw [cell_of_row w g j _ _ _ h3]
            have hjl : j < (xs.map (Value.int .u8)).length := (List.getElem?_eq_some_iff.1 hj).1
            rw [← hj]
            simp only [List.getElem?_toArray, List.map_append]
            rw [List.getElem?_append_left hjl]
          have hlt : xs.length + sp.length < xs.length + m := by omega
          have hrun := run_append_grow (P := Tryd.prog) w 30 ty 5 i0 (.int .u8 0) hu hi0 hz0 ⟨g, 0, none⟩ xs.length (xs.length + sp.length) (xs.map (Value.int .u8)) (by rw [hsz0]; simp) holds ad m c _ hnl hnews hlt (by omega) (by rw [hby0]; exact growslice_fits hlt (by omega))
          have hge := grownCap_ge w (xs.length + m) (xs.length + sp.length) 5
          have hcm := grownCap_le_maxLen w (xs.length + m) (xs.length + sp.length) 5 (by simp only [maxLen]; omega)
          refine ⟨_, _, List.replicate (grownCap w (xs.length + m) (xs.length + sp.length) 5 - (xs.length + m)) 0, hrun, ?_, alloc_grown w _ _⟩
          generalize grownCap w (xs.length + m) (xs.length + sp.length) 5 = cc at *
          subst hm
          have := RF.laid (base := base) (w := w) (xs ++ ys) cc hb (by simp; omega) hcm ((xs.map (Value.int .u8)).toArray ++ (ys.map (Value.int .u8)).toArray ++ Builtin.zeroCells #[.int .u8 0] (cc - (xs.length + ys.length))) (by rw [zeros_one]; simp)
          rw [List.length_append] at this
          exact this
/-- A growing row of up to 2 * 10 ^ 14 bytes is within the machine's bound. -/
theorem next_fits {need old : Nat} (h : old < need) (hn : need ≤ 200000000000000) : Builtin.nextslicecap need old ≤ 281474976710656 := by
  unfold Builtin.nextslicecap
  split
  · omega
  · split
    · omega
    · rw [growBy_four]
      repeat' split
      all_goals omega
theorem strCells_eq (s : ByteArray) : Lib.strCells s = (bytesOf s).map (Value.int .u8) := by simp [bytesOf, Lib.strCells]
theorem bytesOf_len (s : ByteArray) : (bytesOf s).length = s.size := by simp [bytesOf]
theorem rf_str (base : Nat) (w : World) (ty : TypeId) (v : Value) (xs sp : List Int) (h : RF base w v xs sp) (s : ByteArray) (hl : xs.length + s.size ≤ 200000000000000) (hb : base ≤ w.heap.size) :
    ∃ v1 w1 sp1, (Builtin.append_ #[30, 9] ty #[v, .string s]).run Tryd.prog w = .ok v1 w1 ∧ RF base w1 v1 (xs ++ bytesOf s) sp1 ∧ w.grownBy w1 v.ownBlock := by
  obtain ⟨i0, hi0, hz0, hsz0, hby0⟩ := info_parts infoB
  have hu := Tryd.underlying30
  have hu2 := Tryd.underlying9
  have hbl := bytesOf_len s
  by_cases h0 : s.size = 0
  · have hnil : bytesOf s = [] := List.eq_nil_of_length_eq_zero (by rw [hbl, h0])
    have hf := Lib.run_firstCells_string (P := Tryd.prog) w i0.size s
    have hsc : Lib.strCells s = [] := by rw [strCells_eq, hnil]; rfl
    rw [h0, hsc] at hf
    refine ⟨v, w, sp, ?_, by rw [hnil, List.append_nil]; exact h, World.grownBy.refl w _⟩
    rcases h with ⟨rfl, rfl, rfl⟩ | ⟨g, rfl, h2, h3, h4, h5⟩
    · simp [Builtin.append_, run_underlying hu, run_underlying hu2, sizeOf, typeInfo, hi0, Builtin.lenOf, hf, h0]
    · simp [Builtin.append_, run_underlying hu, run_underlying hu2, sizeOf, typeInfo, hi0, Builtin.lenOf, hf, storeCells, h0]
  · have h63 : ((xs.length + s.size : Nat) : Int) ≤ 9223372036854775807 := by omega
    rcases h with ⟨rfl, rfl, rfl⟩ | ⟨g, rfl, h2, h3, h4, h5⟩
    · have hrun := run_append_nil_string (P := Tryd.prog) w 30 9 ty 5 i0 (.int .u8 0) hu hu2 hi0 hz0 s (by omega) (by omega) (by rw [hby0]; simp at hl; omega)
      have hge := grownCap_ge w s.size 0 5
      have hcm := grownCap_le_maxLen w s.size 0 5 (by simp only [maxLen]; simp at hl; omega)
      refine ⟨_, _, List.replicate (grownCap w s.size 0 5 - s.size) 0, hrun, ?_, alloc_grown w _ _⟩
      rw [List.nil_append]
      generalize grownCap w s.size 0 5 = cc at *
      have := RF.laid (base := base) (w := w) (bytesOf s) cc hb (by omega) hcm (s.data.map (fun b => Value.int .u8 b.toNat) ++ Builtin.zeroCells #[.int .u8 0] (cc - s.size)) (by
        rw [zeros_one, hbl]
        congr 1
        rw [← strCells_eq]
        apply Array.ext'
        simp [Lib.strCells])
      rw [hbl] at this
      exact this
    · by_cases hroom : xs.length + s.size ≤ xs.length + sp.length
      · have hrun := Lib.run_append_room_string (P := Tryd.prog) w 30 9 ty 5 i0 hu hu2 hi0 hsz0 g xs.length (xs.length + sp.length) _ h3 s hroom (by simp; omega)
        refine ⟨_, _, sp.drop s.size, hrun, .inr ⟨g, ?_, h2, ?_, ?_, fun x hx => h5 x (List.mem_of_mem_drop hx)⟩, setRow_grown _ _ _⟩
        · simp only [List.length_append, List.length_drop, hbl]
          congr 1
          omega
        · rw [setRow_heap w g _ _ 5 (0, 0) h3]
          congr 2
          rw [strCells_eq]
          apply Array.ext'
          simp [List.take_append, List.drop_append, List.map_append, List.map_drop, List.append_assoc]
        · simp only [List.length_append, List.length_drop]
          omega
      · have holds : ∀ j u, (xs.map (Value.int .u8))[j]? = some u → w.cell? ((⟨g, 0, none⟩ : Addr).add j) = some u := by
          intro j u hj
          rw [add_plain]
          rw [cell_of_row w g j _ _ _ h3]
          have hjl : j < (xs.map (Value.int .u8)).length := (List.getElem?_eq_some_iff.1 hj).1
          rw [← hj]
          simp only [List.getElem?_toArray, List.map_append]
          rw [List.getElem?_append_left hjl]
        have hlt : xs.length + sp.length < xs.length + s.size := by omega
        have hrun := Lib.run_append_grow_string (P := Tryd.prog) w 30 9 ty 5 i0 (.int .u8 0) hu hu2 hi0 hz0 ⟨g, 0, none⟩ xs.length (xs.length + sp.length) (xs.map (Value.int .u8)) (by rw [hsz0]; simp) holds s hlt h63 (by rw [hby0, Nat.mul_one]; exact next_fits hlt (by omega))
        have hge := grownCap_ge w (xs.length + s.size) (xs.length + sp.length) 5
        have hcm := grownCap_le_maxLen w (xs.length + s.size) (xs.length + sp.length) 5 (by simp only [maxLen]; omega)
        refine ⟨_, _, List.replicate (grownCap w (xs.length + s.size) (xs.length + sp.length) 5 - (xs.length + s.size)) 0, hrun, ?_, alloc_grown w _ _⟩
        generalize grownCap w (xs.length + s.size) (xs.length + sp.length) 5 = cc at *
        have := RF.laid (base := base) (w := w) (xs ++ bytesOf s) cc hb (by simp; omega) hcm ((xs.map (Value.int .u8)).toArray ++ (Lib.strCells s).toArray ++ Builtin.zeroCells #[.int .u8 0] (cc - (xs.length + s.size))) (by rw [zeros_one, strCells_eq]; simp [hbl])
        rw [List.length_append, hbl] at this
        exact this
theorem rf_zeros (base : Nat) (w : World) (ty : TypeId) (n : Int) (hn : 0 < n) (hl : n ≤ 140737488355328) (hb : base ≤ w.heap.size) :
    ∃ v1 w1 sp1, (Builtin.append_ #[30, 3] ty #[.slice none 0 0, .int .i64 n]).run Tryd.prog w = .ok v1 w1 ∧ RF base w1 v1 (List.replicate n.toNat 0) sp1 ∧ w.grownBy w1 none := by
  obtain ⟨i0, hi0, hz0, hsz0, hby0⟩ := info_parts infoB
  have hu := Tryd.underlying30
  have hu2 := Tryd.underlying3
  obtain ⟨m, rfl⟩ : ∃ m : Nat, n = (m : Int) := ⟨n.toNat, by omega⟩
  rw [Int.toNat_natCast]
  have hw : IntKind.i64.wrap (m : Int) = m := by rw [IntKind.wrap_i64]; omega
  have hneg : ¬ ((m : Int) < 0) := by omega
  have hbig : ¬ (281474976710656 < (m : Int) * (i0.bytes : Int)) := by rw [hby0]; omega
  have hmz : ¬ (m * i0.size = 0) := by rw [hsz0]; omega
  have hn : m ≠ 0 := by omega
  have h63' : ¬ (9223372036854775807 < (m : Int)) := by omega
  have h48' : ¬ (281474976710656 < Builtin.nextslicecap m 0 * i0.bytes) := by rw [nextslicecap_zero (by omega), hby0]; omega
  have hrun : (Builtin.append_ #[30, 3] ty #[.slice none 0 0, .int .i64 (m : Int)]).run Tryd.prog w =
      .ok (.slice (some ⟨w.heap.size, 0, none⟩) m (grownCap w m 0 5)) (w.drew.alloc (.cells (Builtin.zeroCells #[.int .u8 0] m ++ Builtin.zeroCells #[.int .u8 0] (grownCap w m 0 5 - m)) 5)) := by
    simp [Builtin.append_, run_underlying hu, run_underlying hu2, sizeOf, typeInfo, zeroValue, hi0, hz0, asInt, asIntOf, hw, hneg, hbig, hn, h63', h48', Question.forced, run_firstCells_none, newRow, grownCap, hmz]
    rfl
  have hge := grownCap_ge w m 0 5
  have hcm := grownCap_le_maxLen w m 0 5 (by simp only [maxLen]; omega)
  refine ⟨_, _, List.replicate (grownCap w m 0 5 - m) 0, hrun, ?_, alloc_grown w _ _⟩
  generalize grownCap w m 0 5 = cc at *
  have := RF.laid (base := base) (w := w) (List.replicate m 0) cc hb (by simpa using hge) hcm (Builtin.zeroCells #[.int .u8 0] m ++ Builtin.zeroCells #[.int .u8 0] (cc - m)) (by rw [zeros_one, zeros_one]; simp)
  rw [List.length_replicate] at this
  exact this
theorem RF.base {base : Nat} {w : World} {v : Value} {xs sp : List Int} (h : RF base w v xs sp) (k : Nat) (hk : v.ownBlock = some k) : base ≤ k := by
  rcases h with ⟨rfl, rfl, rfl⟩ | ⟨g, rfl, h2, h3, h4, h5⟩
  · simp [Value.ownBlock] at hk
  · simp [Value.ownBlock] at hk; omega
section
variable {ops : Array Oper} {rest : List Oper} {o : Oper} {a : Act} {Q : Exit → Act → World → Prop}
theorem wp_rf_rows {w0 W : World} (base : Nat) (hgd : o.guard = none) (s x : Operand)
    (ho : o.op = .call { callee := .builtin .append, args := #[s, x], argTypes := #[30, 30] })
    (v : Value) (xs sp ys : List Int) (A : Option Addr) (m c : Nat) (hs : a.eval s = v) (hx : a.eval x = .slice A m c)
    (HO : RF base W v xs sp) (HR : Kd.C (Kd.int .u8) W A m ys) (HB : Below base w0 W) (hbase : base ≤ W.heap.size) (hl : xs.length + m ≤ 140737488355328)
    (h : ∀ v1 w1 sp1, RF base w1 v1 (xs ++ ys) sp1 → Below base w0 w1 → W.grownBy w1 v.ownBlock → wpList Tryd.prog ops Q rest (a.put o.dst v1) w1) :
    wpList Tryd.prog ops Q (o :: rest) a W := by
  obtain ⟨v1, w1, sp1, hr1, h1, hg⟩ := rf_rows base W o.type v xs sp HO A m c ys HR hl hbase
  refine wpList_plain hgd fun K hK => ?_
  unfold Oper.wp execOp
  simp only [ho, resolve, invoke, builtin, Sem.run_bind, Sem.run_pure, Result.andThen_ok, List.map_toArray, List.map_cons, List.map_nil, hs, hx, hr1]
  exact hK _ _ (h v1 w1 sp1 h1 (HB.grown hg hbase HO.base) hg)
theorem wp_rf_str {w0 W : World} (base : Nat) (hgd : o.guard = none) (s x : Operand)
    (ho : o.op = .call { callee := .builtin .append, args := #[s, x], argTypes := #[30, 9] })
    (v : Value) (xs sp : List Int) (y : ByteArray) (hs : a.eval s = v) (hx : a.eval x = .string y)
    (HO : RF base W v xs sp) (HB : Below base w0 W) (hbase : base ≤ W.heap.size) (hl : xs.length + y.size ≤ 200000000000000)
    (h : ∀ v1 w1 sp1, RF base w1 v1 (xs ++ bytesOf y) sp1 → Below base w0 w1 → W.grownBy w1 v.ownBlock → wpList Tryd.prog ops Q rest (a.put o.dst v1) w1) :
    wpList Tryd.prog ops Q (o :: rest) a W := by
  obtain ⟨v1, w1, sp1, hr1, h1, hg⟩ := rf_str base W o.type v xs sp HO y hl hbase
  refine wpList_plain hgd fun K hK => ?_
  unfold Oper.wp execOp
  simp only [ho, resolve, invoke, builtin, Sem.run_bind, Sem.run_pure, Result.andThen_ok, List.map_toArray, List.map_cons, List.map_nil, hs, hx, hr1]
  exact hK _ _ (h v1 w1 sp1 h1 (HB.grown hg hbase HO.base) hg)
theorem wp_rf_zeros {w0 W : World} (base : Nat) (hgd : o.guard = none) (s x : Operand)
    (ho : o.op = .call { callee := .builtin .append, args := #[s, x], argTypes := #[30, 3] })
    (n : Int) (hs : a.eval s = .slice none 0 0) (hx : a.eval x = .int .i64 n) (hn : 0 < n)
    (HB : Below base w0 W) (hbase : base ≤ W.heap.size) (hl : n ≤ 140737488355328)
    (h : ∀ v1 w1 sp1, RF base w1 v1 (List.replicate n.toNat 0) sp1 → Below base w0 w1 → wpList Tryd.prog ops Q rest (a.put o.dst v1) w1) :
    wpList Tryd.prog ops Q (o :: rest) a W := by
  obtain ⟨v1, w1, sp1, hr1, h1, hg⟩ := rf_zeros base W o.type n hn hl hbase
  refine wpList_plain hgd fun K hK => ?_
  unfold Oper.wp execOp
  simp only [ho, resolve, invoke, builtin, Sem.run_bind, Sem.run_pure, Result.andThen_ok, List.map_toArray, List.map_cons, List.map_nil, hs, hx, hr1]
  exact hK _ _ (h v1 w1 sp1 h1 (HB.grown hg hbase (fun k hk => by cases hk)))
end
end Go.Proofs.YtbdocgddidcfeaaDoor

/- The walks of Grow, Concat, put, Num, Int, Text, Frame once more, with the rows' spare room. Printed by gen_u.py. -/
namespace Go.Proofs.YtbdocgddidcfeaaDoor
open Go.RowKit Go.Proofs.YtbdocgddidcfeaaDoorW.PrintWords Go.Proofs.YtbdocgddidcfeaaDoorW.PrintLast Go.Proofs.YtbdocgddidcfeaaDoorW.PrintMore
set_option linter.unusedVariables false
set_option linter.unusedSimpArgs false

def RS (base : Nat) (w : World) (v : Value) (xs : List Int) : Prop := ∃ sp, RF base w v xs sp
theorem RS.nil (base : Nat) (w : World) : RS base w (.slice none 0 0) [] := ⟨[], RF.nil _ _⟩
theorem RS.lower {base base' : Nat} {w : World} {v : Value} {xs : List Int} (h : RS base w v xs) (hb : base' ≤ base) : RS base' w v xs := by
  obtain ⟨sp, h⟩ := h
  exact ⟨sp, h.lower hb⟩
theorem RS.below {base : Nat} {w w1 : World} {v : Value} {xs : List Int} (h : RS base w v xs) (hb : Below w.heap.size w w1) : RS base w1 v xs := by
  obtain ⟨sp, h⟩ := h
  exact ⟨sp, h.below hb⟩
theorem RF.take0 {base : Nat} {w : World} {A : Option Addr} {c : Nat} {xs sp : List Int} (h : RF base w (.slice A xs.length c) xs sp) (hx : ∀ x ∈ xs, 0 ≤ x ∧ x < 256) : RS base w (.slice A 0 c) [] := by
  refine ⟨xs ++ sp, ?_⟩
  rcases h with ⟨h1, rfl, rfl⟩ | ⟨g, h1, h2, h3, h4, h5⟩
  · cases h1
    exact RF.nil _ _
  · cases h1
    refine .inr ⟨g, by simp, h2, by simpa using h3, by simpa using h4, fun x hm => ?_⟩
    rcases List.mem_append.1 hm with hm | hm
    · exact hx x hm
    · exact h5 x hm

set_option maxHeartbeats 2000000 in
set_option maxRecDepth 100000 in
theorem grow_nilF (n : Int) (w : World) (h0 : 0 ≤ n) (hn : n ≤ 140737488355328) :
    Calls Tryd.prog 44 #[.slice none 0 0, .int .i64 n] w
      fun e w' => ∃ v, e = .returned v ∧ RS w.heap.size w' v [] ∧ Below w.heap.size w w' := by
  have HB := Aside0.mk (Below.refl w.heap.size w)
  by_cases hz : n = 0
  · subst hz
    go_enter Tryd.func44, Tryd.ntmps44
    go_wp2
    go_ret
    exact ⟨_, rfl, RS.nil _ _, HB.out⟩
  · have hp : 0 < n := by omega
    go_enter Tryd.func44, Tryd.ntmps44
    go_wp2_with (first | ((with_reducible refine gate_builtin (b := .append) (xs := #[.tmp 20, .tmp 21]) rfl ?_); at_builtin; refine wp_rf_zeros (w0 := w) w.heap.size rfl (.tmp 20) (.tmp 21) rfl n rfl rfl hp HB.out (Nat.le_refl _) hn ?_; intro v1 w1 sp1 ho hb; have HO := Aside0.mk ho; clear HB; have HB := Aside0.mk hb; clear ho hb; obtain ⟨A1, c1, hv⟩ := Kd.R_slice HO.out.R; subst hv; obtain ⟨i0, hi0, _, hsz0, _⟩ := info_parts infoB; obtain ⟨hcut, hA⟩ := print_take_int (P := Tryd.prog) (k := .i64) 30 5 Tryd.underlying30 hi0 hsz0 A1 c1 (List.replicate n.toNat 0) 0 (by omega) (by omega) (by have := (Kd.R_reads' HO.out.R).2.1; simpa using this)))
    go_ret
    exact ⟨_, rfl, HO.out.take0 (zeros_range _), HB.out⟩

def CRowF (w : World) (l0 l1 : List Int) (wr : World) (v vi : Value) : Prop :=
  Below w.heap.size w wr ∧ ((vi = .int .i64 0 ∧ RS w.heap.size wr v []) ∨ (vi = .int .i64 1 ∧ RS w.heap.size wr v l0) ∨
    (vi = .int .i64 2 ∧ RS w.heap.size wr v (l0 ++ l1)))

set_option maxHeartbeats 4000000 in
set_option maxRecDepth 100000 in
theorem concat_twoF (g : Nat) (A0 A1 : Option Addr) (c0 c1 : Nat) (l0 l1 : List Int) (w : World)
    (hg0 : w.cell? ⟨g, 0, none⟩ = some (.slice A0 l0.length c0)) (hg1 : w.cell? ⟨g, 1, none⟩ = some (.slice A1 l1.length c1))
    (hr0 : Kd.C (Kd.int .u8) w A0 l0.length l0) (hr1 : Kd.C (Kd.int .u8) w A1 l1.length l1) (hl : l0.length + l1.length ≤ 140737488355328) :
    Calls Tryd.prog 37 #[.slice (some ⟨g, 0, none⟩) 2 2] w
      fun e w' => ∃ v, e = .returned v ∧ RS w.heap.size w' v (l0 ++ l1) ∧ Below w.heap.size w w' := by
  have HB := Aside0.mk (Below.refl w.heap.size w)
  have HR0 := Aside0.mk hr0
  have HR1 := Aside0.mk hr1
  have hlt := World.block_lt_of_cell? w _ hg0
  have HLT : Aside0 (g < w.heap.size) := ⟨hlt⟩
  have HL := Aside0.mk hl
  clear hr0 hr1 hlt
  obtain ⟨n0, hn0⟩ : ∃ n : Nat, n = l0.length := ⟨_, rfl⟩
  obtain ⟨n1, hn1⟩ : ∃ n : Nat, n = l1.length := ⟨_, rfl⟩
  rw [← hn0] at hg0; rw [← hn1] at hg1; rw [← hn0, ← hn1] at hl
  have HN0 := Aside0.mk hn0; have HN1 := Aside0.mk hn1
  clear hn0 hn1
  go_enter Tryd.func37, Tryd.ntmps37
  go_wp2
  go_loop [3, 11] (fun vs vi => CRel n0 n1 vs vi) (fun _ vi => (2 - intOf vi).toNat)
  case atStart => exact .inl ⟨rfl, rfl⟩
  case round =>
    rcases hrel with ⟨rfl, rfl⟩ | ⟨rfl, rfl⟩ | ⟨rfl, rfl⟩
    · go_wp2
      exact ⟨.inr (.inl ⟨rfl, rfl⟩), by simp [intOf]⟩
    · go_wp2
      exact ⟨.inr (.inr ⟨rfl, rfl⟩), by simp [intOf]⟩
    · go_wp2_with fail
      ((with_reducible refine (grow_nilF _ _ (by omega) (by omega)).mono ?_); rintro e_ W1 ⟨v0, rfl, ho_, hb_⟩)
      have HO0 := Aside0.mk ho_
      clear HB; have HB := Aside0.mk hb_; clear ho_ hb_
      have hg0w := (HB.out.cell (p := ⟨g, 0, none⟩) HLT.out).trans hg0
      have hg1w := (HB.out.cell (p := ⟨g, 1, none⟩) HLT.out).trans hg1
      have HG0 := Aside0.mk hg0; have HG1 := Aside0.mk hg1
      clear hg0 hg1
      have HR0' : Aside0 (Kd.C (Kd.int .u8) w A0 n0 l0) := ⟨by rw [HN0.out]; exact HR0.out⟩
      have HR1' : Aside0 (Kd.C (Kd.int .u8) w A1 n1 l1) := ⟨by rw [HN1.out]; exact HR1.out⟩
      clear hg0w hg1w
      go_wp2
      go_loopw [6, 27] (fun v vi wr => CRowF w l0 l1 wr v vi) (fun _ vi _ => (2 - intOf vi).toNat)
      case atStart => exact ⟨HB.out, .inl ⟨rfl, HO0.out⟩⟩
      case round =>
        clear HB HO0
        obtain ⟨hb_, hcase⟩ := hrel
        have HB := Aside0.mk hb_; clear hb_
        have hg0 := (HB.out.cell (p := ⟨g, 0, none⟩) HLT.out).trans HG0.out
        have hg1 := (HB.out.cell (p := ⟨g, 1, none⟩) HLT.out).trans HG1.out
        rcases hcase with ⟨rfl, ho_⟩ | ⟨rfl, ho_⟩ | ⟨rfl, ho_⟩
        · have HO0 := Aside0.mk ho_; clear ho_
          go_wp2_with (first | ((with_reducible refine gate_builtin (b := .append) (xs := #[.tmp 31, .tmp 32]) rfl ?_); at_builtin; obtain ⟨sp0, ho_⟩ := HO0.out; refine wp_rf_rows (w0 := w) w.heap.size rfl (.tmp 31) (.tmp 32) rfl _ [] sp0 l0 _ _ _ rfl rfl ho_ (Kd.C_below HR0'.out HB.out) HB.out (below_size HB.out) (by have := HL.out; have := HN0.out; have := HN1.out; simp; omega) ?_; intro v1 w1 sp1 ho hb hg; have HO1 : Aside0 (RS w.heap.size w1 v1 _) := Aside0.mk ⟨sp1, ho⟩; clear HB; have HB := Aside0.mk hb; clear ho_ ho hb hg))
          refine ⟨⟨HB.out, .inr (.inl ⟨rfl, HO1.out⟩)⟩, by simp [intOf]⟩
        · have HO0 := Aside0.mk ho_; clear ho_
          go_wp2_with (first | ((with_reducible refine gate_builtin (b := .append) (xs := #[.tmp 31, .tmp 32]) rfl ?_); at_builtin; obtain ⟨sp0, ho_⟩ := HO0.out; refine wp_rf_rows (w0 := w) w.heap.size rfl (.tmp 31) (.tmp 32) rfl _ l0 sp0 l1 _ _ _ rfl rfl ho_ (Kd.C_below HR1'.out HB.out) HB.out (below_size HB.out) (by have := HL.out; have := HN0.out; have := HN1.out; omega) ?_; intro v1 w1 sp1 ho hb hg; have HO1 : Aside0 (RS w.heap.size w1 v1 _) := Aside0.mk ⟨sp1, ho⟩; clear HB; have HB := Aside0.mk hb; clear ho_ ho hb hg))
          exact ⟨⟨HB.out, .inr (.inr ⟨rfl, HO1.out⟩)⟩, by simp [intOf]⟩
        · have HO0 := Aside0.mk ho_; clear ho_
          go_wp2
          go_ret
          exact ⟨_, rfl, HO0.out, HB.out⟩

set_option maxHeartbeats 4000000 in
set_option maxRecDepth 100000 in
theorem concat_twoF' (g : Nat) (A0 A1 : Option Addr) (c0 c1 n1 : Nat) (l0 l1 : List Int) (w : World) (hn : l1.length = n1)
    (hg0 : w.cell? ⟨g, 0, none⟩ = some (.slice A0 l0.length c0)) (hg1 : w.cell? ⟨g, 1, none⟩ = some (.slice A1 n1 c1))
    (hr0 : Kd.C (Kd.int .u8) w A0 l0.length l0) (hr1 : Kd.C (Kd.int .u8) w A1 n1 l1) (hl : l0.length + n1 ≤ 140737488355328) :
    Calls Tryd.prog 37 #[.slice (some ⟨g, 0, none⟩) 2 2] w
      fun e w' => ∃ v, e = .returned v ∧ RS w.heap.size w' v (l0 ++ l1) ∧ Below w.heap.size w w' := by
  subst hn
  exact concat_twoF g A0 A1 c0 c1 l0 l1 w hg0 hg1 hr0 hr1 hl

set_option maxHeartbeats 4000000 in
set_option maxRecDepth 100000 in
theorem Frame_callsF (A0 : Option Addr) (c0 : Nat) (l0 : List Int) (w : World)
    (hr0 : Kd.C (Kd.int .u8) w A0 l0.length l0) (hl : l0.length ≤ 140737488355318) (hT : Tab w) :
    Calls Tryd.prog 25 #[.slice A0 l0.length c0] w
      fun e w' => ∃ v, e = .returned v ∧ RS w.heap.size w' v (frameF l0) ∧ Below w.heap.size w w' := by
  have HR := Aside0.mk hr0
  have HT := Aside0.mk hT
  have hs := sumF_range l0
  have hff : frameF l0 = l0 ++ [sumF l0 % 256, sumF l0 / 256 % 256, sumF l0 / 65536 % 256, sumF l0 / 16777216] := rfl
  rw [hff]
  have hc := Sum_calls A0 c0 l0 w hr0 (by omega) hT
  clear hr0 hT hff
  generalize sumF l0 = s at hs hc ⊢
  go_enter Tryd.func25, Tryd.ntmps25
  go_wp2_with fail
  ((with_reducible refine hc.mono ?_); rintro e_ W1 ⟨rfl, rfl⟩)
  clear hc
  go_wp2_with fail
  have hC : Kd.C (Kd.int .u8) (W1.alloc (Obj.cells #[.int .u8 (s % 256), .int .u8 (s / 256 % 256), .int .u8 (s / 65536 % 256), .int .u8 (s / 16777216)] 5)) (some ⟨W1.heap.size, 0, none⟩) 4 [s % 256, s / 256 % 256, s / 65536 % 256, s / 16777216] := C_pre W1 [s % 256, s / 256 % 256, s / 65536 % 256, s / 16777216] [] 5 (by simp) _ rfl
  ((with_reducible refine (concat_twoF' (W1.heap.size + 1) A0 (some ⟨W1.heap.size, 0, none⟩) c0 4 4 l0 [s % 256, s / 256 % 256, s / 65536 % 256, s / 16777216] _ rfl (pair_cells W1 _ _ _ _).1 (pair_cells W1 _ _ _ _).2 (Kd.C_alloc (Kd.C_alloc HR.out _) _) (Kd.C_alloc hC _) (by omega)).mono ?_); rintro e_ W2 ⟨v0, rfl, ho_, hb_⟩)
  clear hC
  have HO0 := Aside0.mk (RS.lower ho_ (two_below W1 _ _).2); have HB := Aside0.mk (below_step (two_below W1 _ _).1 hb_)
  clear ho_ hb_
  go_wp2
  go_ret
  exact ⟨_, rfl, HO0.out, HB.out⟩

end Go.Proofs.YtbdocgddidcfeaaDoor
