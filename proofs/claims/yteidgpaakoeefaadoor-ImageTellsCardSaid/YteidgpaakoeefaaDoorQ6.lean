/- Taken together by a program of mine: what the proof names, out of the texts of this seat (its words as the print wrote them), part 6. -/
import Derived.Test.YteidgpaakoeefaaDoorQ5
import Derived.SizedLaws
import Derived.Deep.Slices
import Derived.WalkKit
import Derived.ProofKit
import Derived.OpenShut
import Derived.ShutString
import Derived.ChangeOld
import Derived.ChangeSlices
namespace Go.Proofs.YteidgpaakoeefaaDoor
open Go.RowKit Go.Proofs.YteidgpaakoeefaaDoorW.PrintWords Go.Proofs.YteidgpaakoeefaaDoorW.PrintLast Go.Proofs.YteidgpaakoeefaaDoorW.PrintMore
set_option linter.unusedVariables false
set_option linter.unusedSimpArgs false
open PIm
attribute [local go_sem high] eqA48 eqA50
def Evt {α : Type} (f : Nat → Option α) (v : α) : Prop := ∃ k0, ∀ k, k0 ≤ k → f k = some v
theorem Evt.step {α : Type} {f g : Nat → Option α} {v : α} (h : Evt g v) (e : ∃ k0, ∀ k, k0 ≤ k → f (k + 1) = g k) : Evt f v := by
  obtain ⟨a, ha⟩ := h; obtain ⟨b, hb⟩ := e
  refine ⟨max a b + 1, fun k hk => ?_⟩
  obtain ⟨k, rfl⟩ : ∃ m, k = m + 1 := ⟨k - 1, by omega⟩
  rw [hb k (by omega), ha k (by omega)]
theorem Evt.and {α β : Type} {f : Nat → Option α} {v : α} {g : Nat → Option β} {u : β} (h1 : Evt f v) (h2 : Evt g u) : ∃ k0, ∀ k, k0 ≤ k → f k = some v ∧ g k = some u := by
  obtain ⟨a, ha⟩ := h1; obtain ⟨b, hb⟩ := h2
  exact ⟨max a b, fun k hk => ⟨ha k (by omega), hb k (by omega)⟩⟩
theorem wrap_succ {i n : Nat} (h : i < n) (hn : n ≤ 140737488355328) : wrap64 ((i : Int) + 1) = ((i + 1 : Nat) : Int) := by simp only [wrap64]; omega
theorem row_refl_l (x : List Int) (hx : x.length ≤ 140737488355318) : ∀ (d i : Nat), x.length ≤ i + d → i ≤ x.length → Evt (fun k => tiltyardref14_row.l0 k x x (i : Int)) true
  | 0, i, h, h2 => ⟨1, fun k hk => by
      obtain ⟨k, rfl⟩ : ∃ m, k = m + 1 := ⟨k - 1, by omega⟩
      show tiltyardref14_row.l0 (k + 1) x x (i : Int) = some true
      unfold tiltyardref14_row.l0
      rw [if_neg (by omega)]⟩
  | d + 1, i, h, h2 => by
    by_cases hi : i < x.length
    · refine (row_refl_l x hx d (i + 1) (by omega) (by omega)).step ⟨0, fun k _ => ?_⟩
      show tiltyardref14_row.l0 (k + 1) x x (i : Int) = _
      conv => lhs; unfold tiltyardref14_row.l0
      rw [if_pos (by omega), if_pos (by omega), if_pos (by omega), if_pos rfl, wrap_succ hi (by omega)]
    · refine ⟨1, fun k hk => ?_⟩
      obtain ⟨k, rfl⟩ : ∃ m, k = m + 1 := ⟨k - 1, by omega⟩
      show tiltyardref14_row.l0 (k + 1) x x (i : Int) = some true
      unfold tiltyardref14_row.l0
      rw [if_neg (by omega)]
theorem row_refl (x : List Int) (hx : x.length ≤ 140737488355318) : Evt (fun k => tiltyardref14_row.f k x x) true := by
  obtain ⟨a, ha⟩ := row_refl_l x hx x.length 0 (by omega) (by omega)
  refine ⟨a, fun k hk => ?_⟩
  show tiltyardref14_row.f k x x = some true
  unfold tiltyardref14_row.f
  rw [if_pos rfl]
  exact ha k hk
theorem row_same (A0 : Option Addr) (c0 : Nat) (A1 : Option Addr) (c1 : Nat) (l : List Int) (w : World) (hr0 : Kd.C (Kd.int .i64) w A0 l.length l) (hc0 : l.length ≤ c0) (hr1 : Kd.C (Kd.int .i64) w A1 l.length l) (hc1 : l.length ≤ c1) (hl : l.length ≤ 140737488355318) :
    Calls Tryd.prog 33 #[.slice A0 l.length c0, .slice A1 l.length c1] w fun e w' => e = .returned (.bool true) ∧ Below w.heap.size w w' := by
  obtain ⟨a, ha⟩ := row_refl l hl
  refine (tiltyardref14_row.calls a A0 c0 l A1 c1 l true w hr0 hc0 hr1 hc1 (ha a (by omega))).mono fun e w' h => ⟨h.1, ?_⟩
  obtain ⟨n, rfl⟩ := h.2.out
  exact pw_below_drewN (Below.refl _ _) n
def sameA (gs : List S48) (fs : List S54) : Prop := gs.length ≤ 140737488355318 ∧ fs.length ≤ 140737488355318 ∧ (∀ f ∈ fs, fnIn f) ∧ True
instance (gs : List S48) (fs : List S54) : Decidable (sameA gs fs) := by unfold sameA; infer_instance
instance : DecidableEq S48 := fun a b => decidable_of_iff (a.f0 = b.f0 ∧ a.f1 = b.f1 ∧ a.f2 = b.f2) (by cases a; cases b; simp)
instance : DecidableEq S50 := fun a b => decidable_of_iff (a.f0 = b.f0 ∧ a.f1 = b.f1 ∧ a.f2 = b.f2) (by cases a; cases b; simp)
instance : DecidableEq S54 := fun a b => decidable_of_iff (a.f0 = b.f0 ∧ a.f1 = b.f1 ∧ a.f2 = b.f2 ∧ a.f3 = b.f3 ∧ a.f4 = b.f4) (by cases a; cases b; simp)
theorem ne3 (a b c : Int) : (!(a == a) || (!(b == b) || !(c == c))) = false := by simp
theorem and3 (a b c : Int) : ((a == a) && ((b == b) && (c == c))) = true := by simp
set_option maxHeartbeats 8000000 in
set_option maxRecDepth 100000 in
theorem same_calls (A0 : Option Addr) (c0 : Nat) (A1 : Option Addr) (c1 : Nat) (B0 : Option Addr) (d0 : Nat) (B1 : Option Addr) (d1 : Nat) (gs : List S48) (fs : List S54) (w : World) (hr0 : Kd.C k48 w A0 gs.length gs) (hr1 : Kd.C k54 w A1 fs.length fs) (hs0 : Kd.C k48 w B0 gs.length gs) (hs1 : Kd.C k54 w B1 fs.length fs) (hA : sameA gs fs) :
    Calls Tryd.prog 12 #[.agg #[.slice A0 gs.length c0, .slice A1 fs.length c1], .agg #[.slice B0 gs.length d0, .slice B1 fs.length d1]] w
      fun e w' => e = .returned (.bool true) ∧ Below w.heap.size w w' := by
  have HB := Aside0.mk (Below.refl w.heap.size w)
  have hu25 := Tryd.underlying25; have hu54 := Tryd.underlying54
  have HR0 := Aside0.mk hr0; have HR1 := Aside0.mk hr1; have HS0 := Aside0.mk hs0; have HS1 := Aside0.mk hs1; have HA := Aside0.mk hA
  clear hr0 hr1 hs0 hs1 hA
  go_enter Tryd.func12, Tryd.ntmps12
  go_wp2_with (first | ((with_reducible refine gate_dst (N := 2) rfl ?_); refine box_event ?hg (N := 2) ?hd (cs := #[.slice A0 gs.length c0, .slice A1 fs.length c1]) (t := 25) ?hr ?_; (case hd => rfl); (case hg => rfl); (case hr => first | (go_simp; done) | (go_simp; rfl)); intro ga hg_ W1 hbox_ hb_; have GEga := Aside0.mk ((by rw [hg_]; exact (below_size HB.out)) : w.heap.size ≤ ga); clear hg_; have n_ := Aside0.mk (below_step HB.out hb_); clear HB; have HB := n_; clear n_; have BKga := Aside0.mk hbox_; clear hbox_ hb_; have hcga_0 : W1.cell? ⟨ga, 0, none⟩ = some (.slice A0 gs.length c0) := (blk_cell BKga.out 0).trans rfl; have hfga_0 := blk_frozen BKga.out 0; have hcga_1 : W1.cell? ⟨ga, 1, none⟩ = some (.slice A1 fs.length c1) := (blk_cell BKga.out 1).trans rfl; have hfga_1 := blk_frozen BKga.out 1) | ((with_reducible refine gate_dst (N := 3) rfl ?_); refine box_event ?hg (N := 3) ?hd (cs := #[.slice B0 gs.length d0, .slice B1 fs.length d1]) (t := 25) ?hr ?_; (case hd => rfl); (case hg => rfl); (case hr => first | (go_simp; done) | (go_simp; rfl)); intro gb hg_ W2 hbox_ hb_; have GEgb := Aside0.mk ((by rw [hg_]; exact (below_size HB.out)) : w.heap.size ≤ gb); have NBga_gb : ga ≠ gb := (by rw [hg_]; exact Nat.ne_of_lt (blk_lt BKga.out)); have NBgb_ga : gb ≠ ga := Ne.symm NBga_gb; clear hg_; have n_ := Aside0.mk (blk_below BKga.out hb_); clear BKga; have BKga := n_; clear n_; clear hcga_0 hfga_0; clear hcga_1 hfga_1; have n_ := Aside0.mk (below_step HB.out hb_); clear HB; have HB := n_; clear n_; have BKgb := Aside0.mk hbox_; clear hbox_ hb_; have hcga_0 : W2.cell? ⟨ga, 0, none⟩ = some (.slice A0 gs.length c0) := (blk_cell BKga.out 0).trans rfl; have hfga_0 := blk_frozen BKga.out 0; have hcga_1 : W2.cell? ⟨ga, 1, none⟩ = some (.slice A1 fs.length c1) := (blk_cell BKga.out 1).trans rfl; have hfga_1 := blk_frozen BKga.out 1; have hcgb_0 : W2.cell? ⟨gb, 0, none⟩ = some (.slice B0 gs.length d0) := (blk_cell BKgb.out 0).trans rfl; have hfgb_0 := blk_frozen BKgb.out 0; have hcgb_1 : W2.cell? ⟨gb, 1, none⟩ = some (.slice B1 fs.length d1) := (blk_cell BKgb.out 1).trans rfl; have hfgb_1 := blk_frozen BKgb.out 1))
  clear hcga_0 hfga_0
  clear hcga_1 hfga_1
  clear hcgb_0 hfgb_0
  clear hcgb_1 hfgb_1
  go_loopw [5] (fun vi wr => ∃ i : Nat, vi = .int .i64 i ∧ Aside0 (i ≤ gs.length) ∧ Aside0 (wr.heap[ga]? = some (.cells #[.slice A0 gs.length c0, .slice A1 fs.length c1] 25 (0, 0))) ∧ Aside0 (wr.heap[gb]? = some (.cells #[.slice B0 gs.length d0, .slice B1 fs.length d1] 25 (0, 0))) ∧ Aside0 (Below w.heap.size w wr)) (fun vi _ => gs.length - (intOf vi).toNat)
  case atStart => exact ⟨0, rfl, ⟨Nat.zero_le _⟩, BKga, BKgb, HB⟩
  case round =>
    clear BKga BKgb HB
    obtain ⟨i, rfl, HN, BKga, BKgb, HB⟩ := hrel
    have hcga_0 : wr.cell? ⟨ga, 0, none⟩ = some (.slice A0 gs.length c0) := (blk_cell BKga.out 0).trans rfl
    have hfga_0 := blk_frozen BKga.out 0
    have hcga_1 : wr.cell? ⟨ga, 1, none⟩ = some (.slice A1 fs.length c1) := (blk_cell BKga.out 1).trans rfl
    have hfga_1 := blk_frozen BKga.out 1
    have hcgb_0 : wr.cell? ⟨gb, 0, none⟩ = some (.slice B0 gs.length d0) := (blk_cell BKgb.out 0).trans rfl
    have hfgb_0 := blk_frozen BKgb.out 0
    have hcgb_1 : wr.cell? ⟨gb, 1, none⟩ = some (.slice B1 fs.length d1) := (blk_cell BKgb.out 1).trans rfl
    have hfgb_1 := blk_frozen BKgb.out 1
    by_cases hi : i < gs.length
    · have z1 : decide ((i : Int) < (gs.length : Int)) = true := decide_eq_true (by omega)
      have hlen := HA.out.1
      have q1 : (0 ≤ (i : Int)) = True := eq_true (by omega)
      have q2 : ((i : Int) < (gs.length : Int)) = True := eq_true (by omega)
      obtain ⟨ada, ea, x0, x1, x2⟩ := at_T48 HR0.out (i : Int) (by omega) (by omega)
      obtain ⟨adb, eb, y0, y1, y2⟩ := at_T48 HS0.out (i : Int) (by omega) (by omega)
      cases ea; cases eb
      replace x0 := (HB.out.cell (World.block_lt_of_cell? w _ x0)).trans x0
      replace x1 := (HB.out.cell (World.block_lt_of_cell? w _ x1)).trans x1
      replace x2 := (HB.out.cell (World.block_lt_of_cell? w _ x2)).trans x2
      replace y0 := (HB.out.cell (World.block_lt_of_cell? w _ y0)).trans y0
      replace y1 := (HB.out.cell (World.block_lt_of_cell? w _ y1)).trans y1
      replace y2 := (HB.out.cell (World.block_lt_of_cell? w _ y2)).trans y2
      generalize rd_T48 gs (i : Int) = g at x0 x1 x2 y0 y1 y2
      simp only [Int.toNat_natCast] at x0 x1 x2 y0 y1 y2
      have n3 := ne3 g.f0 g.f1 g.f2; have a3 := and3 g.f0 g.f1 g.f2
      have HWS := Aside0.mk (wrap_succ hi (by omega))
      have HI := Aside0.mk hi
      clear hi hlen
      go_wp2
      go_quiet (fail)
      go_wp2
      rw [HWS.out]
      exact ⟨⟨i + 1, rfl, ⟨HI.out⟩, ⟨blk_drewN BKga.out _⟩, ⟨blk_drewN BKgb.out _⟩, ⟨pw_below_drewN HB.out _⟩⟩, by have := HI.out; simp only [intOf, Int.toNat_natCast]; omega⟩
    · have z1 : decide ((i : Int) < (gs.length : Int)) = false := decide_eq_false (by omega)
      have z2 : decide (i < gs.length) = false := decide_eq_false hi
      clear hi HN
      go_wp2_with fail
      clear hcga_0 hfga_0
      clear hcga_1 hfga_1
      clear hcgb_0 hfgb_0
      clear hcgb_1 hfgb_1
      go_loopw [6] (fun vi wr => ∃ i : Nat, vi = .int .i64 i ∧ Aside0 (i ≤ fs.length) ∧ Aside0 (wr.heap[ga]? = some (.cells #[.slice A0 gs.length c0, .slice A1 fs.length c1] 25 (0, 0))) ∧ Aside0 (wr.heap[gb]? = some (.cells #[.slice B0 gs.length d0, .slice B1 fs.length d1] 25 (0, 0))) ∧ Aside0 (Below w.heap.size w wr)) (fun vi _ => fs.length - (intOf vi).toNat)
      case atStart => exact ⟨0, rfl, ⟨Nat.zero_le _⟩, BKga, BKgb, HB⟩
      case round =>
        clear BKga BKgb HB
        obtain ⟨i, rfl, HN, BKga, BKgb, HB⟩ := hrel
        have hcga_0 : wr.cell? ⟨ga, 0, none⟩ = some (.slice A0 gs.length c0) := (blk_cell BKga.out 0).trans rfl
        have hfga_0 := blk_frozen BKga.out 0
        have hcga_1 : wr.cell? ⟨ga, 1, none⟩ = some (.slice A1 fs.length c1) := (blk_cell BKga.out 1).trans rfl
        have hfga_1 := blk_frozen BKga.out 1
        have hcgb_0 : wr.cell? ⟨gb, 0, none⟩ = some (.slice B0 gs.length d0) := (blk_cell BKgb.out 0).trans rfl
        have hfgb_0 := blk_frozen BKgb.out 0
        have hcgb_1 : wr.cell? ⟨gb, 1, none⟩ = some (.slice B1 fs.length d1) := (blk_cell BKgb.out 1).trans rfl
        have hfgb_1 := blk_frozen BKgb.out 1
        by_cases hi : i < fs.length
        · have z1 : decide ((i : Int) < (fs.length : Int)) = true := decide_eq_true (by omega)
          have hlen := HA.out.2.1
          have q1 : (0 ≤ (i : Int)) = True := eq_true (by omega)
          have q2 : ((i : Int) < (fs.length : Int)) = True := eq_true (by omega)
          have HFI := Aside0.mk (HA.out.2.2.1 _ (show rd_T54 fs (i : Int) ∈ fs by unfold rd_T54; rw [Int.toNat_natCast, List.getD_eq_getElem?_getD, List.getElem?_eq_getElem hi]; exact List.getElem_mem hi))
          obtain ⟨adx, Ax1, bx1, Ax3, bx3, Ax4, bx4, ex, x0, x1, x2, x3, x4, lx1, gx1, lx3, gx3, lx4, gx4⟩ := at_T54 HR1.out (i : Int) (by omega) (by omega)
          cases ex
          replace x0 := (HB.out.cell (World.block_lt_of_cell? w _ x0)).trans x0
          replace x1 := (HB.out.cell (World.block_lt_of_cell? w _ x1)).trans x1
          replace x2 := (HB.out.cell (World.block_lt_of_cell? w _ x2)).trans x2
          replace x3 := (HB.out.cell (World.block_lt_of_cell? w _ x3)).trans x3
          replace x4 := (HB.out.cell (World.block_lt_of_cell? w _ x4)).trans x4
          have Gx1 := Aside0.mk gx1; have Lx1 := Aside0.mk lx1; clear gx1 lx1
          have Gx3 := Aside0.mk gx3; have Lx3 := Aside0.mk lx3; clear gx3 lx3
          have Gx4 := Aside0.mk gx4; have Lx4 := Aside0.mk lx4; clear gx4 lx4
          obtain ⟨ady, Ay1, by1, Ay3, by3, Ay4, by4, ey, y0, y1, y2, y3, y4, ly1, gy1, ly3, gy3, ly4, gy4⟩ := at_T54 HS1.out (i : Int) (by omega) (by omega)
          cases ey
          replace y0 := (HB.out.cell (World.block_lt_of_cell? w _ y0)).trans y0
          replace y1 := (HB.out.cell (World.block_lt_of_cell? w _ y1)).trans y1
          replace y2 := (HB.out.cell (World.block_lt_of_cell? w _ y2)).trans y2
          replace y3 := (HB.out.cell (World.block_lt_of_cell? w _ y3)).trans y3
          replace y4 := (HB.out.cell (World.block_lt_of_cell? w _ y4)).trans y4
          have Gy1 := Aside0.mk gy1; have Ly1 := Aside0.mk ly1; clear gy1 ly1
          have Gy3 := Aside0.mk gy3; have Ly3 := Aside0.mk ly3; clear gy3 ly3
          have Gy4 := Aside0.mk gy4; have Ly4 := Aside0.mk ly4; clear gy4 ly4
          simp only [Int.toNat_natCast] at x0 x1 x2 x3 x4 y0 y1 y2 y3 y4
          have HWS := Aside0.mk (wrap_succ hi (by omega))
          have HI := Aside0.mk hi
          clear hi hlen
          generalize rd_T54 fs (i : Int) = f at *
          have HL1 := Aside0.mk HFI.out.2.1; have HL3 := Aside0.mk HFI.out.2.2.1
          have s1 : (f.f0.toList == f.f0.toList) = true := by simp
          have s2 : (f.f2 == f.f2) = true := by simp
          have s2b : (f.f2 != f.f2) = false := by simp
          have s3 : ((f.f4.length : Int) != (f.f4.length : Int)) = false := by simp
          have s3b : (f.f4.length != f.f4.length) = false := by simp
          have fgb : ∀ o, (wr.alloc o).cell? ⟨gb, 1, none⟩ = some (.slice (some ady) fs.length d1) := fun o => ((below_alloc (Below.refl wr.heap.size wr) o).cell (World.block_lt_of_cell? wr _ hcgb_1)).trans hcgb_1
          have fy0 := fun o => ((below_alloc (Below.refl wr.heap.size wr) o).cell (World.block_lt_of_cell? wr _ y0)).trans y0
          have fy1 := fun o => ((below_alloc (Below.refl wr.heap.size wr) o).cell (World.block_lt_of_cell? wr _ y1)).trans y1
          have fy2 := fun o => ((below_alloc (Below.refl wr.heap.size wr) o).cell (World.block_lt_of_cell? wr _ y2)).trans y2
          have fy3 := fun o => ((below_alloc (Below.refl wr.heap.size wr) o).cell (World.block_lt_of_cell? wr _ y3)).trans y3
          have fy4 := fun o => ((below_alloc (Below.refl wr.heap.size wr) o).cell (World.block_lt_of_cell? wr _ y4)).trans y4
          go_wp2_with fail
          have kx : Aside0 (((wr.alloc (.cells #[.string f.f0, .slice Ax1 f.f1.length bx1, .int .i64 f.f2, .slice Ax3 f.f3.length bx3, .slice Ax4 f.f4.length bx4] 54 (0, 0))).alloc (.cells #[.string f.f0, .slice Ay1 f.f1.length by1, .int .i64 f.f2, .slice Ay3 f.f3.length by3, .slice Ay4 f.f4.length by4] 54 (0, 0))).heap[wr.heap.size]? = some (.cells #[.string f.f0, .slice Ax1 f.f1.length bx1, .int .i64 f.f2, .slice Ax3 f.f3.length bx3, .slice Ax4 f.f4.length bx4] 54 (0, 0))) := ⟨blk_alloc (blk_new wr _) _⟩
          have ky : Aside0 (((wr.alloc (.cells #[.string f.f0, .slice Ax1 f.f1.length bx1, .int .i64 f.f2, .slice Ax3 f.f3.length bx3, .slice Ax4 f.f4.length bx4] 54 (0, 0))).alloc (.cells #[.string f.f0, .slice Ay1 f.f1.length by1, .int .i64 f.f2, .slice Ay3 f.f3.length by3, .slice Ay4 f.f4.length by4] 54 (0, 0))).heap[wr.heap.size + 1]? = some (.cells #[.string f.f0, .slice Ay1 f.f1.length by1, .int .i64 f.f2, .slice Ay3 f.f3.length by3, .slice Ay4 f.f4.length by4] 54 (0, 0))) := ⟨by have := blk_new (wr.alloc (.cells #[.string f.f0, .slice Ax1 f.f1.length bx1, .int .i64 f.f2, .slice Ax3 f.f3.length bx3, .slice Ax4 f.f4.length bx4] 54 (0, 0))) (.cells #[.string f.f0, .slice Ay1 f.f1.length by1, .int .i64 f.f2, .slice Ay3 f.f3.length by3, .slice Ay4 f.f4.length by4] 54 (0, 0)); simpa using this⟩
          have ka : Aside0 (((wr.alloc (.cells #[.string f.f0, .slice Ax1 f.f1.length bx1, .int .i64 f.f2, .slice Ax3 f.f3.length bx3, .slice Ax4 f.f4.length bx4] 54 (0, 0))).alloc (.cells #[.string f.f0, .slice Ay1 f.f1.length by1, .int .i64 f.f2, .slice Ay3 f.f3.length by3, .slice Ay4 f.f4.length by4] 54 (0, 0))).heap[ga]? = some (.cells #[.slice A0 gs.length c0, .slice (some adx) fs.length c1] 25 (0, 0))) := ⟨blk_alloc (blk_alloc BKga.out _) _⟩
          have kb : Aside0 (((wr.alloc (.cells #[.string f.f0, .slice Ax1 f.f1.length bx1, .int .i64 f.f2, .slice Ax3 f.f3.length bx3, .slice Ax4 f.f4.length bx4] 54 (0, 0))).alloc (.cells #[.string f.f0, .slice Ay1 f.f1.length by1, .int .i64 f.f2, .slice Ay3 f.f3.length by3, .slice Ay4 f.f4.length by4] 54 (0, 0))).heap[gb]? = some (.cells #[.slice B0 gs.length d0, .slice (some ady) fs.length d1] 25 (0, 0))) := ⟨blk_alloc (blk_alloc BKgb.out _) _⟩
          have kk : Aside0 (Below w.heap.size w ((wr.alloc (.cells #[.string f.f0, .slice Ax1 f.f1.length bx1, .int .i64 f.f2, .slice Ax3 f.f3.length bx3, .slice Ax4 f.f4.length bx4] 54 (0, 0))).alloc (.cells #[.string f.f0, .slice Ay1 f.f1.length by1, .int .i64 f.f2, .slice Ay3 f.f3.length by3, .slice Ay4 f.f4.length by4] 54 (0, 0)))) := ⟨below_alloc (below_alloc HB.out _) _⟩
          clear x0 x1 x2 x3 x4 y0 y1 y2 y3 y4 fgb fy0 fy1 fy2 fy3 fy4 BKga BKgb HB
          clear hcga_0 hfga_0
          clear hcga_1 hfga_1
          clear hcgb_0 hfgb_0
          clear hcgb_1 hfgb_1
          have BKga := ka; have BKgb := kb; have BKgx := kx; have BKgy := ky; have HB := kk; clear ka kb kx ky kk
          generalize ((wr.alloc (.cells #[.string f.f0, .slice Ax1 f.f1.length bx1, .int .i64 f.f2, .slice Ax3 f.f3.length bx3, .slice Ax4 f.f4.length bx4] 54 (0, 0))).alloc (.cells #[.string f.f0, .slice Ay1 f.f1.length by1, .int .i64 f.f2, .slice Ay3 f.f3.length by3, .slice Ay4 f.f4.length by4] 54 (0, 0))) = W3 at *
          generalize wr.heap.size + 1 = gy at *
          generalize wr.heap.size = gx at *
          have hcga_0 : W3.cell? ⟨ga, 0, none⟩ = some (.slice A0 gs.length c0) := (blk_cell BKga.out 0).trans rfl
          have hfga_0 := blk_frozen BKga.out 0
          have hcga_1 : W3.cell? ⟨ga, 1, none⟩ = some (.slice (some adx) fs.length c1) := (blk_cell BKga.out 1).trans rfl
          have hfga_1 := blk_frozen BKga.out 1
          have hcgb_0 : W3.cell? ⟨gb, 0, none⟩ = some (.slice B0 gs.length d0) := (blk_cell BKgb.out 0).trans rfl
          have hfgb_0 := blk_frozen BKgb.out 0
          have hcgb_1 : W3.cell? ⟨gb, 1, none⟩ = some (.slice (some ady) fs.length d1) := (blk_cell BKgb.out 1).trans rfl
          have hfgb_1 := blk_frozen BKgb.out 1
          have hcgx_0 : W3.cell? ⟨gx, 0, none⟩ = some (.string f.f0) := (blk_cell BKgx.out 0).trans rfl
          have hfgx_0 := blk_frozen BKgx.out 0
          have hcgx_1 : W3.cell? ⟨gx, 1, none⟩ = some (.slice Ax1 f.f1.length bx1) := (blk_cell BKgx.out 1).trans rfl
          have hfgx_1 := blk_frozen BKgx.out 1
          have hcgx_2 : W3.cell? ⟨gx, 2, none⟩ = some (.int .i64 f.f2) := (blk_cell BKgx.out 2).trans rfl
          have hfgx_2 := blk_frozen BKgx.out 2
          have hcgx_3 : W3.cell? ⟨gx, 3, none⟩ = some (.slice Ax3 f.f3.length bx3) := (blk_cell BKgx.out 3).trans rfl
          have hfgx_3 := blk_frozen BKgx.out 3
          have hcgx_4 : W3.cell? ⟨gx, 4, none⟩ = some (.slice Ax4 f.f4.length bx4) := (blk_cell BKgx.out 4).trans rfl
          have hfgx_4 := blk_frozen BKgx.out 4
          have hcgy_0 : W3.cell? ⟨gy, 0, none⟩ = some (.string f.f0) := (blk_cell BKgy.out 0).trans rfl
          have hfgy_0 := blk_frozen BKgy.out 0
          have hcgy_1 : W3.cell? ⟨gy, 1, none⟩ = some (.slice Ay1 f.f1.length by1) := (blk_cell BKgy.out 1).trans rfl
          have hfgy_1 := blk_frozen BKgy.out 1
          have hcgy_2 : W3.cell? ⟨gy, 2, none⟩ = some (.int .i64 f.f2) := (blk_cell BKgy.out 2).trans rfl
          have hfgy_2 := blk_frozen BKgy.out 2
          have hcgy_3 : W3.cell? ⟨gy, 3, none⟩ = some (.slice Ay3 f.f3.length by3) := (blk_cell BKgy.out 3).trans rfl
          have hfgy_3 := blk_frozen BKgy.out 3
          have hcgy_4 : W3.cell? ⟨gy, 4, none⟩ = some (.slice Ay4 f.f4.length by4) := (blk_cell BKgy.out 4).trans rfl
          have hfgy_4 := blk_frozen BKgy.out 4
          ((with_reducible refine (row_same Ax1 bx1 Ay1 by1 f.f1 _ (Kd.C_below Gx1.out HB.out) Lx1.out (Kd.C_below Gy1.out HB.out) Ly1.out HL1.out).mono ?_); rintro e_ W4 ⟨rfl, hb_⟩)
          have n_ := Aside0.mk (blk_below BKga.out hb_); clear BKga; have BKga := n_; clear n_
          clear hcga_0 hfga_0
          clear hcga_1 hfga_1
          have n_ := Aside0.mk (blk_below BKgb.out hb_); clear BKgb; have BKgb := n_; clear n_
          clear hcgb_0 hfgb_0
          clear hcgb_1 hfgb_1
          have n_ := Aside0.mk (blk_below BKgx.out hb_); clear BKgx; have BKgx := n_; clear n_
          clear hcgx_0 hfgx_0
          clear hcgx_1 hfgx_1
          clear hcgx_2 hfgx_2
          clear hcgx_3 hfgx_3
          clear hcgx_4 hfgx_4
          have n_ := Aside0.mk (blk_below BKgy.out hb_); clear BKgy; have BKgy := n_; clear n_
          clear hcgy_0 hfgy_0
          clear hcgy_1 hfgy_1
          clear hcgy_2 hfgy_2
          clear hcgy_3 hfgy_3
          clear hcgy_4 hfgy_4
          have n_ := Aside0.mk (below_step HB.out hb_); clear HB; have HB := n_; clear n_
          clear hb_
          have hcga_0 : W4.cell? ⟨ga, 0, none⟩ = some (.slice A0 gs.length c0) := (blk_cell BKga.out 0).trans rfl
          have hfga_0 := blk_frozen BKga.out 0
          have hcga_1 : W4.cell? ⟨ga, 1, none⟩ = some (.slice (some adx) fs.length c1) := (blk_cell BKga.out 1).trans rfl
          have hfga_1 := blk_frozen BKga.out 1
          have hcgb_0 : W4.cell? ⟨gb, 0, none⟩ = some (.slice B0 gs.length d0) := (blk_cell BKgb.out 0).trans rfl
          have hfgb_0 := blk_frozen BKgb.out 0
          have hcgb_1 : W4.cell? ⟨gb, 1, none⟩ = some (.slice (some ady) fs.length d1) := (blk_cell BKgb.out 1).trans rfl
          have hfgb_1 := blk_frozen BKgb.out 1
          have hcgx_0 : W4.cell? ⟨gx, 0, none⟩ = some (.string f.f0) := (blk_cell BKgx.out 0).trans rfl
          have hfgx_0 := blk_frozen BKgx.out 0
          have hcgx_1 : W4.cell? ⟨gx, 1, none⟩ = some (.slice Ax1 f.f1.length bx1) := (blk_cell BKgx.out 1).trans rfl
          have hfgx_1 := blk_frozen BKgx.out 1
          have hcgx_2 : W4.cell? ⟨gx, 2, none⟩ = some (.int .i64 f.f2) := (blk_cell BKgx.out 2).trans rfl
          have hfgx_2 := blk_frozen BKgx.out 2
          have hcgx_3 : W4.cell? ⟨gx, 3, none⟩ = some (.slice Ax3 f.f3.length bx3) := (blk_cell BKgx.out 3).trans rfl
          have hfgx_3 := blk_frozen BKgx.out 3
          have hcgx_4 : W4.cell? ⟨gx, 4, none⟩ = some (.slice Ax4 f.f4.length bx4) := (blk_cell BKgx.out 4).trans rfl
          have hfgx_4 := blk_frozen BKgx.out 4
          have hcgy_0 : W4.cell? ⟨gy, 0, none⟩ = some (.string f.f0) := (blk_cell BKgy.out 0).trans rfl
          have hfgy_0 := blk_frozen BKgy.out 0
          have hcgy_1 : W4.cell? ⟨gy, 1, none⟩ = some (.slice Ay1 f.f1.length by1) := (blk_cell BKgy.out 1).trans rfl
          have hfgy_1 := blk_frozen BKgy.out 1
          have hcgy_2 : W4.cell? ⟨gy, 2, none⟩ = some (.int .i64 f.f2) := (blk_cell BKgy.out 2).trans rfl
          have hfgy_2 := blk_frozen BKgy.out 2
          have hcgy_3 : W4.cell? ⟨gy, 3, none⟩ = some (.slice Ay3 f.f3.length by3) := (blk_cell BKgy.out 3).trans rfl
          have hfgy_3 := blk_frozen BKgy.out 3
          have hcgy_4 : W4.cell? ⟨gy, 4, none⟩ = some (.slice Ay4 f.f4.length by4) := (blk_cell BKgy.out 4).trans rfl
          have hfgy_4 := blk_frozen BKgy.out 4
          go_wp2_with fail
          ((with_reducible refine (row_same Ax3 bx3 Ay3 by3 f.f3 _ (Kd.C_below Gx3.out HB.out) Lx3.out (Kd.C_below Gy3.out HB.out) Ly3.out HL3.out).mono ?_); rintro e_ W5 ⟨rfl, hb_⟩)
          have n_ := Aside0.mk (blk_below BKga.out hb_); clear BKga; have BKga := n_; clear n_
          clear hcga_0 hfga_0
          clear hcga_1 hfga_1
          have n_ := Aside0.mk (blk_below BKgb.out hb_); clear BKgb; have BKgb := n_; clear n_
          clear hcgb_0 hfgb_0
          clear hcgb_1 hfgb_1
          have n_ := Aside0.mk (blk_below BKgx.out hb_); clear BKgx; have BKgx := n_; clear n_
          clear hcgx_0 hfgx_0
          clear hcgx_1 hfgx_1
          clear hcgx_2 hfgx_2
          clear hcgx_3 hfgx_3
          clear hcgx_4 hfgx_4
          have n_ := Aside0.mk (blk_below BKgy.out hb_); clear BKgy; have BKgy := n_; clear n_
          clear hcgy_0 hfgy_0
          clear hcgy_1 hfgy_1
          clear hcgy_2 hfgy_2
          clear hcgy_3 hfgy_3
          clear hcgy_4 hfgy_4
          have n_ := Aside0.mk (below_step HB.out hb_); clear HB; have HB := n_; clear n_
          clear hb_
          have hcga_0 : W5.cell? ⟨ga, 0, none⟩ = some (.slice A0 gs.length c0) := (blk_cell BKga.out 0).trans rfl
          have hfga_0 := blk_frozen BKga.out 0
          have hcga_1 : W5.cell? ⟨ga, 1, none⟩ = some (.slice (some adx) fs.length c1) := (blk_cell BKga.out 1).trans rfl
          have hfga_1 := blk_frozen BKga.out 1
          have hcgb_0 : W5.cell? ⟨gb, 0, none⟩ = some (.slice B0 gs.length d0) := (blk_cell BKgb.out 0).trans rfl
          have hfgb_0 := blk_frozen BKgb.out 0
          have hcgb_1 : W5.cell? ⟨gb, 1, none⟩ = some (.slice (some ady) fs.length d1) := (blk_cell BKgb.out 1).trans rfl
          have hfgb_1 := blk_frozen BKgb.out 1
          have hcgx_0 : W5.cell? ⟨gx, 0, none⟩ = some (.string f.f0) := (blk_cell BKgx.out 0).trans rfl
          have hfgx_0 := blk_frozen BKgx.out 0
          have hcgx_1 : W5.cell? ⟨gx, 1, none⟩ = some (.slice Ax1 f.f1.length bx1) := (blk_cell BKgx.out 1).trans rfl
          have hfgx_1 := blk_frozen BKgx.out 1
          have hcgx_2 : W5.cell? ⟨gx, 2, none⟩ = some (.int .i64 f.f2) := (blk_cell BKgx.out 2).trans rfl
          have hfgx_2 := blk_frozen BKgx.out 2
          have hcgx_3 : W5.cell? ⟨gx, 3, none⟩ = some (.slice Ax3 f.f3.length bx3) := (blk_cell BKgx.out 3).trans rfl
          have hfgx_3 := blk_frozen BKgx.out 3
          have hcgx_4 : W5.cell? ⟨gx, 4, none⟩ = some (.slice Ax4 f.f4.length bx4) := (blk_cell BKgx.out 4).trans rfl
          have hfgx_4 := blk_frozen BKgx.out 4
          have hcgy_0 : W5.cell? ⟨gy, 0, none⟩ = some (.string f.f0) := (blk_cell BKgy.out 0).trans rfl
          have hfgy_0 := blk_frozen BKgy.out 0
          have hcgy_1 : W5.cell? ⟨gy, 1, none⟩ = some (.slice Ay1 f.f1.length by1) := (blk_cell BKgy.out 1).trans rfl
          have hfgy_1 := blk_frozen BKgy.out 1
          have hcgy_2 : W5.cell? ⟨gy, 2, none⟩ = some (.int .i64 f.f2) := (blk_cell BKgy.out 2).trans rfl
          have hfgy_2 := blk_frozen BKgy.out 2
          have hcgy_3 : W5.cell? ⟨gy, 3, none⟩ = some (.slice Ay3 f.f3.length by3) := (blk_cell BKgy.out 3).trans rfl
          have hfgy_3 := blk_frozen BKgy.out 3
          have hcgy_4 : W5.cell? ⟨gy, 4, none⟩ = some (.slice Ay4 f.f4.length by4) := (blk_cell BKgy.out 4).trans rfl
          have hfgy_4 := blk_frozen BKgy.out 4
          go_wp2_with fail
          clear hcga_0 hfga_0
          clear hcga_1 hfga_1
          clear hcgb_0 hfgb_0
          clear hcgb_1 hfgb_1
          clear hcgx_0 hfgx_0
          clear hcgx_1 hfgx_1
          clear hcgx_2 hfgx_2
          clear hcgx_3 hfgx_3
          clear hcgx_4 hfgx_4
          clear hcgy_0 hfgy_0
          clear hcgy_1 hfgy_1
          clear hcgy_2 hfgy_2
          clear hcgy_3 hfgy_3
          clear hcgy_4 hfgy_4
          go_loopw [11] (fun vi wr => ∃ j : Nat, vi = .int .i64 j ∧ Aside0 (j ≤ f.f4.length) ∧ Aside0 (wr.heap[ga]? = some (.cells #[.slice A0 gs.length c0, .slice (some adx) fs.length c1] 25 (0, 0))) ∧ Aside0 (wr.heap[gb]? = some (.cells #[.slice B0 gs.length d0, .slice (some ady) fs.length d1] 25 (0, 0))) ∧ Aside0 (wr.heap[gx]? = some (.cells #[.string f.f0, .slice Ax1 f.f1.length bx1, .int .i64 f.f2, .slice Ax3 f.f3.length bx3, .slice Ax4 f.f4.length bx4] 54 (0, 0))) ∧ Aside0 (wr.heap[gy]? = some (.cells #[.string f.f0, .slice Ay1 f.f1.length by1, .int .i64 f.f2, .slice Ay3 f.f3.length by3, .slice Ay4 f.f4.length by4] 54 (0, 0))) ∧ Aside0 (Below w.heap.size w wr)) (fun vi _ => f.f4.length - (intOf vi).toNat)
          case atStart => exact ⟨0, rfl, ⟨Nat.zero_le _⟩, BKga, BKgb, BKgx, BKgy, HB⟩
          case round =>
            clear BKga BKgb BKgx BKgy HB
            obtain ⟨j, rfl, HNj, BKga, BKgb, BKgx, BKgy, HB⟩ := hrel
            have hcga_0 : wr.cell? ⟨ga, 0, none⟩ = some (.slice A0 gs.length c0) := (blk_cell BKga.out 0).trans rfl
            have hfga_0 := blk_frozen BKga.out 0
            have hcga_1 : wr.cell? ⟨ga, 1, none⟩ = some (.slice (some adx) fs.length c1) := (blk_cell BKga.out 1).trans rfl
            have hfga_1 := blk_frozen BKga.out 1
            have hcgb_0 : wr.cell? ⟨gb, 0, none⟩ = some (.slice B0 gs.length d0) := (blk_cell BKgb.out 0).trans rfl
            have hfgb_0 := blk_frozen BKgb.out 0
            have hcgb_1 : wr.cell? ⟨gb, 1, none⟩ = some (.slice (some ady) fs.length d1) := (blk_cell BKgb.out 1).trans rfl
            have hfgb_1 := blk_frozen BKgb.out 1
            have hcgx_0 : wr.cell? ⟨gx, 0, none⟩ = some (.string f.f0) := (blk_cell BKgx.out 0).trans rfl
            have hfgx_0 := blk_frozen BKgx.out 0
            have hcgx_1 : wr.cell? ⟨gx, 1, none⟩ = some (.slice Ax1 f.f1.length bx1) := (blk_cell BKgx.out 1).trans rfl
            have hfgx_1 := blk_frozen BKgx.out 1
            have hcgx_2 : wr.cell? ⟨gx, 2, none⟩ = some (.int .i64 f.f2) := (blk_cell BKgx.out 2).trans rfl
            have hfgx_2 := blk_frozen BKgx.out 2
            have hcgx_3 : wr.cell? ⟨gx, 3, none⟩ = some (.slice Ax3 f.f3.length bx3) := (blk_cell BKgx.out 3).trans rfl
            have hfgx_3 := blk_frozen BKgx.out 3
            have hcgx_4 : wr.cell? ⟨gx, 4, none⟩ = some (.slice Ax4 f.f4.length bx4) := (blk_cell BKgx.out 4).trans rfl
            have hfgx_4 := blk_frozen BKgx.out 4
            have hcgy_0 : wr.cell? ⟨gy, 0, none⟩ = some (.string f.f0) := (blk_cell BKgy.out 0).trans rfl
            have hfgy_0 := blk_frozen BKgy.out 0
            have hcgy_1 : wr.cell? ⟨gy, 1, none⟩ = some (.slice Ay1 f.f1.length by1) := (blk_cell BKgy.out 1).trans rfl
            have hfgy_1 := blk_frozen BKgy.out 1
            have hcgy_2 : wr.cell? ⟨gy, 2, none⟩ = some (.int .i64 f.f2) := (blk_cell BKgy.out 2).trans rfl
            have hfgy_2 := blk_frozen BKgy.out 2
            have hcgy_3 : wr.cell? ⟨gy, 3, none⟩ = some (.slice Ay3 f.f3.length by3) := (blk_cell BKgy.out 3).trans rfl
            have hfgy_3 := blk_frozen BKgy.out 3
            have hcgy_4 : wr.cell? ⟨gy, 4, none⟩ = some (.slice Ay4 f.f4.length by4) := (blk_cell BKgy.out 4).trans rfl
            have hfgy_4 := blk_frozen BKgy.out 4
            by_cases hj : j < f.f4.length
            · have z1 : decide ((j : Int) < (f.f4.length : Int)) = true := decide_eq_true (by omega)
              have q1 : (0 ≤ (j : Int)) = True := eq_true (by omega)
              have q2 : ((j : Int) < (f.f4.length : Int)) = True := eq_true (by omega)
              obtain ⟨adp, ep, p0, p1, p2⟩ := at_T50 Gx4.out (j : Int) (by omega) (by omega)
              obtain ⟨adr, er, r0, r1, r2⟩ := at_T50 Gy4.out (j : Int) (by omega) (by omega)
              cases ep; cases er
              replace p0 := (HB.out.cell (World.block_lt_of_cell? w _ p0)).trans p0
              replace p1 := (HB.out.cell (World.block_lt_of_cell? w _ p1)).trans p1
              replace p2 := (HB.out.cell (World.block_lt_of_cell? w _ p2)).trans p2
              replace r0 := (HB.out.cell (World.block_lt_of_cell? w _ r0)).trans r0
              replace r1 := (HB.out.cell (World.block_lt_of_cell? w _ r1)).trans r1
              replace r2 := (HB.out.cell (World.block_lt_of_cell? w _ r2)).trans r2
              generalize rd_T50 f.f4 (j : Int) = g at p0 p1 p2 r0 r1 r2
              simp only [Int.toNat_natCast] at p0 p1 p2 r0 r1 r2
              have n3 := ne3 g.f0 g.f1 g.f2; have a3 := and3 g.f0 g.f1 g.f2
              have HWJ := Aside0.mk (wrap_succ hj (by obtain ⟨h0_, h1_, h3_, h4_⟩ := HFI.out; omega))
              have HJ := Aside0.mk hj
              clear hj
              go_wp2
              go_quiet (fail)
              go_wp2
              rw [HWJ.out]
              exact ⟨⟨j + 1, rfl, ⟨HJ.out⟩, ⟨blk_drewN BKga.out _⟩, ⟨blk_drewN BKgb.out _⟩, ⟨blk_drewN BKgx.out _⟩, ⟨blk_drewN BKgy.out _⟩, ⟨pw_below_drewN HB.out _⟩⟩, by have := HJ.out; simp only [intOf, Int.toNat_natCast]; omega⟩
            · have z1 : decide ((j : Int) < (f.f4.length : Int)) = false := decide_eq_false (by omega)
              have z2 : decide (j < f.f4.length) = false := decide_eq_false hj
              clear hj
              go_wp2
              rw [HWS.out]
              exact ⟨⟨i + 1, rfl, ⟨HI.out⟩, BKga, BKgb, HB⟩, by have := HI.out; simp only [intOf, Int.toNat_natCast]; omega⟩
        · have z1 : decide ((i : Int) < (fs.length : Int)) = false := decide_eq_false (by omega)
          have z2 : decide (i < fs.length) = false := decide_eq_false hi
          clear hi
          go_wp2
          go_ret
          exact ⟨rfl, HB.out⟩
def PIm.tiltyardref14_Same.f (k : Nat) (g : List S48) (f : List S54) (g2 : List S48) (f2 : List S54) : Option Bool := if g = g2 ∧ f = f2 ∧ sameA g f then some true else none
theorem PIm.tiltyardref14_Same.mono : ∀ a0 a1 a2 a3 k, LeO (tiltyardref14_Same.f k a0 a1 a2 a3) (tiltyardref14_Same.f (k + 1) a0 a1 a2 a3) := fun _ _ _ _ _ _ h => h
theorem same_refl {gs : List S48} {fs : List S54} (h : argA gs fs) : Evt (fun k => tiltyardref14_Same.f k gs fs gs fs) true := ⟨0, fun k _ => by
  show tiltyardref14_Same.f k gs fs gs fs = some true
  unfold tiltyardref14_Same.f
  rw [if_pos ⟨rfl, rfl, h.1, h.2.1, h.2.2.1, trivial⟩]⟩
theorem PIm.tiltyardref14_Same.calls (k : Nat) (A0_0 : Option Addr) (c0_0 : Nat) (l0_0 : List S48) (A0_1 : Option Addr) (c0_1 : Nat) (l0_1 : List S54) (A1_0 : Option Addr) (c1_0 : Nat) (l1_0 : List S48) (A1_1 : Option Addr) (c1_1 : Nat) (l1_1 : List S54) (r : Bool) (w : World)
    (hr0_0 : Kd.C k48 w A0_0 l0_0.length l0_0) (hc0_0 : l0_0.length ≤ c0_0) (hr0_1 : Kd.C k54 w A0_1 l0_1.length l0_1) (hc0_1 : l0_1.length ≤ c0_1) (hr1_0 : Kd.C k48 w A1_0 l1_0.length l1_0) (hc1_0 : l1_0.length ≤ c1_0) (hr1_1 : Kd.C k54 w A1_1 l1_1.length l1_1) (hc1_1 : l1_1.length ≤ c1_1) (h : tiltyardref14_Same.f k l0_0 l0_1 l1_0 l1_1 = some r) :
    Calls Tryd.prog 12 #[.agg #[.slice A0_0 l0_0.length c0_0, .slice A0_1 l0_1.length c0_1], .agg #[.slice A1_0 l1_0.length c1_0, .slice A1_1 l1_1.length c1_1]] w fun e w' => e = .returned (.bool r) ∧ Below w.heap.size w w' := by
  unfold tiltyardref14_Same.f at h
  split at h
  · next hc =>
    obtain ⟨rfl, rfl, hA⟩ := hc
    obtain rfl := Option.some.inj h
    exact same_calls A0_0 c0_0 A0_1 c0_1 A1_0 c1_0 A1_1 c1_1 l0_0 l0_1 w hr0_0 hr0_1 hr1_0 hr1_1 hA
  · cases h
end Go.Proofs.YteidgpaakoeefaaDoor
namespace Go.Proofs.YteidgpaakoeefaaDoor.PIm
open Go.RowKit Go.Proofs.YteidgpaakoeefaaDoorW.PrintWords Go.Proofs.YteidgpaakoeefaaDoorW.PrintLast Go.Proofs.YteidgpaakoeefaaDoorW.PrintMore
attribute [local go_sem] max2_int min2_int max_two min_two max_three min_three max_four min_four   -- for this text's walks alone
set_option linter.unusedVariables false
set_option linter.unusedSimpArgs false
def tiltyardlaw15_awake.f (k : Nat)  : Option (Bool) := (some (([(⟨1, 0, (-3)⟩ : S48)] : List (S48)) : List (S48))).bind fun y203 => ((some (([(⟨(⟨#[102]⟩ : ByteArray), ([] : List Int), 0, ([] : List Int), (([(⟨32, 0, 0⟩ : S50)] : List (S50)))⟩ : S54)] : List (S54)) : List (S54))).bind fun y209 => ((image_Encode.f y203 y209).bind fun bt213 => ((image_Decode.f bt213.1).bind fun bt217 => ((tiltyardref14_Same.f k y203 y209 bt217.1 bt217.2.1).bind fun t225 => ((wire_Open.f bt213.1).bind fun bt226 => ((image_Decode.f (([84, 73, 76, 84] : List Int))).bind fun bt233 => (if bt213.2 = 0 then (if bt226.2 = true then (if (strOfNums bt226.1).toList = ([84, 73, 76, 84, 1, 1, 0, 5, 1, 1, 102, 0, 0, 0, 1, 32, 0, 0] : List UInt8) then (if bt217.2.2 = 0 then (if t225 = true then (if bt233.2.2 = 150 then ((image_Right.f ([] : List (S48)) (([(⟨(⟨#[]⟩ : ByteArray), ([] : List Int), 0, ([] : List Int), ([] : List (S50))⟩ : S54)] : List (S54)))).bind fun t244 => (some (t244 == 150))) else (some false)) else (some false)) else (some false)) else (some false)) else (some false)) else (some false))))))))
theorem tiltyardlaw15_awake.mono : ∀ k, LeO (tiltyardlaw15_awake.f k ) (tiltyardlaw15_awake.f (k + 1) ) := by
  intro  k
  unfold tiltyardlaw15_awake.f
  repeat' first
      | (with_reducible exact tiltyardref14_Same.mono _ _ _ _ _)
      | (with_reducible exact LeO.refl _)
      | (with_reducible exact LeO.none _)
      | (with_reducible refine LeO.ite ?_ ?_)
      | (with_reducible refine LeO.bind ?_ (fun _ => ?_))
      | exact tiltyardref14_Same.mono _ _ _ _ _
      | exact LeO.none _
      | refine LeO.ite ?_ ?_
      | refine LeO.bind ?_ (fun _ => ?_)
set_option maxHeartbeats 8000000 in
set_option maxRecDepth 100000 in
theorem tiltyardlaw15_awake.calls_true (k : Nat) (w : World) (h : tiltyardlaw15_awake.f k  = some true) (hW : Tab w) :
    Calls Tryd.prog 8 #[] w fun e w' => e = .returned (.bool true) ∧ Below w.heap.size w w' := by
  have hu48 := Tryd.underlying48
  have hu50 := Tryd.underlying50
  have hu54 := Tryd.underlying54
  have hu25 := Tryd.underlying25
  have HB := Aside0.mk (Below.refl w.heap.size w)
  have HWX := Aside0.mk hW
  clear hW
  have H : ((some (([(⟨1, 0, (-3)⟩ : S48)] : List (S48)) : List (S48))).bind fun y203 => ((some (([(⟨(⟨#[102]⟩ : ByteArray), ([] : List Int), 0, ([] : List Int), (([(⟨32, 0, 0⟩ : S50)] : List (S50)))⟩ : S54)] : List (S54)) : List (S54))).bind fun y209 => ((image_Encode.f y203 y209).bind fun bt213 => ((image_Decode.f bt213.1).bind fun bt217 => ((tiltyardref14_Same.f k y203 y209 bt217.1 bt217.2.1).bind fun t225 => ((wire_Open.f bt213.1).bind fun bt226 => ((image_Decode.f (([84, 73, 76, 84] : List Int))).bind fun bt233 => (if bt213.2 = 0 then (if bt226.2 = true then (if (strOfNums bt226.1).toList = ([84, 73, 76, 84, 1, 1, 0, 5, 1, 1, 102, 0, 0, 0, 1, 32, 0, 0] : List UInt8) then (if bt217.2.2 = 0 then (if t225 = true then (if bt233.2.2 = 150 then ((image_Right.f ([] : List (S48)) (([(⟨(⟨#[]⟩ : ByteArray), ([] : List Int), 0, ([] : List Int), ([] : List (S50))⟩ : S54)] : List (S54)))).bind fun t244 => (some (t244 == 150))) else (some false)) else (some false)) else (some false)) else (some false)) else (some false)) else (some false))))))))) = some true := h
  clear h
  obtain ⟨y203, hy203⟩ : ∃ y_ : List (S48), y_ = (([(⟨1, 0, (-3)⟩ : S48)] : List (S48))) := ⟨_, rfl⟩
  replace H : ((some (([(⟨(⟨#[102]⟩ : ByteArray), ([] : List Int), 0, ([] : List Int), (([(⟨32, 0, 0⟩ : S50)] : List (S50)))⟩ : S54)] : List (S54)) : List (S54))).bind fun y209 => ((image_Encode.f y203 y209).bind fun bt213 => ((image_Decode.f bt213.1).bind fun bt217 => ((tiltyardref14_Same.f k y203 y209 bt217.1 bt217.2.1).bind fun t225 => ((wire_Open.f bt213.1).bind fun bt226 => ((image_Decode.f (([84, 73, 76, 84] : List Int))).bind fun bt233 => (if bt213.2 = 0 then (if bt226.2 = true then (if (strOfNums bt226.1).toList = ([84, 73, 76, 84, 1, 1, 0, 5, 1, 1, 102, 0, 0, 0, 1, 32, 0, 0] : List UInt8) then (if bt217.2.2 = 0 then (if t225 = true then (if bt233.2.2 = 150 then ((image_Right.f ([] : List (S48)) (([(⟨(⟨#[]⟩ : ByteArray), ([] : List Int), 0, ([] : List Int), ([] : List (S50))⟩ : S54)] : List (S54)))).bind fun t244 => (some (t244 == 150))) else (some false)) else (some false)) else (some false)) else (some false)) else (some false)) else (some false)))))))) = some true := by first | (rw [hy203]; with_reducible exact H) | (have H2_ := (Option.bind_some _ _).symm.trans H; rw [hy203]; with_reducible exact H2_) | (have H2_ := (Option.bind_some _ _).symm.trans H; with_reducible exact H2_) | with_reducible exact H | (rw [hy203]; exact H) | exact H
  have Ny203 := Aside0.mk hy203
  clear hy203
  obtain ⟨y206, hy206⟩ : ∃ y_ : List (S50), y_ = (([(⟨32, 0, 0⟩ : S50)] : List (S50))) := ⟨_, rfl⟩
  replace H : ((some (([(⟨(⟨#[102]⟩ : ByteArray), ([] : List Int), 0, ([] : List Int), y206⟩ : S54)] : List (S54)) : List (S54))).bind fun y209 => ((image_Encode.f y203 y209).bind fun bt213 => ((image_Decode.f bt213.1).bind fun bt217 => ((tiltyardref14_Same.f k y203 y209 bt217.1 bt217.2.1).bind fun t225 => ((wire_Open.f bt213.1).bind fun bt226 => ((image_Decode.f (([84, 73, 76, 84] : List Int))).bind fun bt233 => (if bt213.2 = 0 then (if bt226.2 = true then (if (strOfNums bt226.1).toList = ([84, 73, 76, 84, 1, 1, 0, 5, 1, 1, 102, 0, 0, 0, 1, 32, 0, 0] : List UInt8) then (if bt217.2.2 = 0 then (if t225 = true then (if bt233.2.2 = 150 then ((image_Right.f ([] : List (S48)) (([(⟨(⟨#[]⟩ : ByteArray), ([] : List Int), 0, ([] : List Int), ([] : List (S50))⟩ : S54)] : List (S54)))).bind fun t244 => (some (t244 == 150))) else (some false)) else (some false)) else (some false)) else (some false)) else (some false)) else (some false)))))))) = some true := by first | (rw [hy206]; with_reducible exact H) | (have H2_ := (Option.bind_some _ _).symm.trans H; rw [hy206]; with_reducible exact H2_) | (have H2_ := (Option.bind_some _ _).symm.trans H; with_reducible exact H2_) | with_reducible exact H | (rw [hy206]; exact H) | exact H
  have Ny206 := Aside0.mk hy206
  clear hy206
  obtain ⟨y209, hy209⟩ : ∃ y_ : List (S54), y_ = (([(⟨(⟨#[102]⟩ : ByteArray), ([] : List Int), 0, ([] : List Int), y206⟩ : S54)] : List (S54))) := ⟨_, rfl⟩
  replace H : ((image_Encode.f y203 y209).bind fun bt213 => ((image_Decode.f bt213.1).bind fun bt217 => ((tiltyardref14_Same.f k y203 y209 bt217.1 bt217.2.1).bind fun t225 => ((wire_Open.f bt213.1).bind fun bt226 => ((image_Decode.f (([84, 73, 76, 84] : List Int))).bind fun bt233 => (if bt213.2 = 0 then (if bt226.2 = true then (if (strOfNums bt226.1).toList = ([84, 73, 76, 84, 1, 1, 0, 5, 1, 1, 102, 0, 0, 0, 1, 32, 0, 0] : List UInt8) then (if bt217.2.2 = 0 then (if t225 = true then (if bt233.2.2 = 150 then ((image_Right.f ([] : List (S48)) (([(⟨(⟨#[]⟩ : ByteArray), ([] : List Int), 0, ([] : List Int), ([] : List (S50))⟩ : S54)] : List (S54)))).bind fun t244 => (some (t244 == 150))) else (some false)) else (some false)) else (some false)) else (some false)) else (some false)) else (some false))))))) = some true := by first | (rw [hy209]; with_reducible exact H) | (have H2_ := (Option.bind_some _ _).symm.trans H; rw [hy209]; with_reducible exact H2_) | (have H2_ := (Option.bind_some _ _).symm.trans H; with_reducible exact H2_) | with_reducible exact H | (rw [hy209]; exact H) | exact H
  have Ny209 := Aside0.mk hy209
  clear hy209
  replace H := Option.bind_eq_some_iff.mp H
  obtain ⟨⟨t213, t216⟩, A10, H⟩ := H
  replace H : ((image_Decode.f t213).bind fun bt217 => ((tiltyardref14_Same.f k y203 y209 bt217.1 bt217.2.1).bind fun t225 => ((wire_Open.f t213).bind fun bt226 => ((image_Decode.f (([84, 73, 76, 84] : List Int))).bind fun bt233 => (if t216 = 0 then (if bt226.2 = true then (if (strOfNums bt226.1).toList = ([84, 73, 76, 84, 1, 1, 0, 5, 1, 1, 102, 0, 0, 0, 1, 32, 0, 0] : List UInt8) then (if bt217.2.2 = 0 then (if t225 = true then (if bt233.2.2 = 150 then ((image_Right.f ([] : List (S48)) (([(⟨(⟨#[]⟩ : ByteArray), ([] : List Int), 0, ([] : List Int), ([] : List (S50))⟩ : S54)] : List (S54)))).bind fun t244 => (some (t244 == 150))) else (some false)) else (some false)) else (some false)) else (some false)) else (some false)) else (some false)))))) = some true := H
  have A1 := Aside0.mk A10
  clear A10
  replace H := Option.bind_eq_some_iff.mp H
  obtain ⟨⟨t217, t220, t223⟩, A20, H⟩ := H
  replace H : ((tiltyardref14_Same.f k y203 y209 t217 t220).bind fun t225 => ((wire_Open.f t213).bind fun bt226 => ((image_Decode.f (([84, 73, 76, 84] : List Int))).bind fun bt233 => (if t216 = 0 then (if bt226.2 = true then (if (strOfNums bt226.1).toList = ([84, 73, 76, 84, 1, 1, 0, 5, 1, 1, 102, 0, 0, 0, 1, 32, 0, 0] : List UInt8) then (if t223 = 0 then (if t225 = true then (if bt233.2.2 = 150 then ((image_Right.f ([] : List (S48)) (([(⟨(⟨#[]⟩ : ByteArray), ([] : List Int), 0, ([] : List Int), ([] : List (S50))⟩ : S54)] : List (S54)))).bind fun t244 => (some (t244 == 150))) else (some false)) else (some false)) else (some false)) else (some false)) else (some false)) else (some false))))) = some true := H
  have A2 := Aside0.mk A20
  clear A20
  replace H := Option.bind_eq_some_iff.mp H
  obtain ⟨t225, A30, H⟩ := H
  replace H : ((wire_Open.f t213).bind fun bt226 => ((image_Decode.f (([84, 73, 76, 84] : List Int))).bind fun bt233 => (if t216 = 0 then (if bt226.2 = true then (if (strOfNums bt226.1).toList = ([84, 73, 76, 84, 1, 1, 0, 5, 1, 1, 102, 0, 0, 0, 1, 32, 0, 0] : List UInt8) then (if t223 = 0 then (if t225 = true then (if bt233.2.2 = 150 then ((image_Right.f ([] : List (S48)) (([(⟨(⟨#[]⟩ : ByteArray), ([] : List Int), 0, ([] : List Int), ([] : List (S50))⟩ : S54)] : List (S54)))).bind fun t244 => (some (t244 == 150))) else (some false)) else (some false)) else (some false)) else (some false)) else (some false)) else (some false)))) = some true := H
  have A3 := Aside0.mk A30
  clear A30
  replace H := Option.bind_eq_some_iff.mp H
  obtain ⟨⟨t226, t227⟩, A40, H⟩ := H
  replace H : ((image_Decode.f (([84, 73, 76, 84] : List Int))).bind fun bt233 => (if t216 = 0 then (if t227 = true then (if (strOfNums t226).toList = ([84, 73, 76, 84, 1, 1, 0, 5, 1, 1, 102, 0, 0, 0, 1, 32, 0, 0] : List UInt8) then (if t223 = 0 then (if t225 = true then (if bt233.2.2 = 150 then ((image_Right.f ([] : List (S48)) (([(⟨(⟨#[]⟩ : ByteArray), ([] : List Int), 0, ([] : List Int), ([] : List (S50))⟩ : S54)] : List (S54)))).bind fun t244 => (some (t244 == 150))) else (some false)) else (some false)) else (some false)) else (some false)) else (some false)) else (some false))) = some true := H
  have A4 := Aside0.mk A40
  clear A40
  obtain ⟨y230, hy230⟩ : ∃ y_ : List Int, y_ = (([84, 73, 76, 84] : List Int)) := ⟨_, rfl⟩
  replace H : ((image_Decode.f y230).bind fun bt233 => (if t216 = 0 then (if t227 = true then (if (strOfNums t226).toList = ([84, 73, 76, 84, 1, 1, 0, 5, 1, 1, 102, 0, 0, 0, 1, 32, 0, 0] : List UInt8) then (if t223 = 0 then (if t225 = true then (if bt233.2.2 = 150 then ((image_Right.f ([] : List (S48)) (([(⟨(⟨#[]⟩ : ByteArray), ([] : List Int), 0, ([] : List Int), ([] : List (S50))⟩ : S54)] : List (S54)))).bind fun t244 => (some (t244 == 150))) else (some false)) else (some false)) else (some false)) else (some false)) else (some false)) else (some false))) = some true := by first | (rw [hy230]; with_reducible exact H) | (have H2_ := (Option.bind_some _ _).symm.trans H; rw [hy230]; with_reducible exact H2_) | (have H2_ := (Option.bind_some _ _).symm.trans H; with_reducible exact H2_) | with_reducible exact H | (rw [hy230]; exact H) | exact H
  have Ny230 := Aside0.mk hy230
  clear hy230
  replace H := Option.bind_eq_some_iff.mp H
  obtain ⟨⟨t233, t236, t239⟩, A50, H⟩ := H
  replace H : (if t216 = 0 then (if t227 = true then (if (strOfNums t226).toList = ([84, 73, 76, 84, 1, 1, 0, 5, 1, 1, 102, 0, 0, 0, 1, 32, 0, 0] : List UInt8) then (if t223 = 0 then (if t225 = true then (if t239 = 150 then ((image_Right.f ([] : List (S48)) (([(⟨(⟨#[]⟩ : ByteArray), ([] : List Int), 0, ([] : List Int), ([] : List (S50))⟩ : S54)] : List (S54)))).bind fun t244 => (some (t244 == 150))) else (some false)) else (some false)) else (some false)) else (some false)) else (some false)) else (some false)) = some true := H
  have A5 := Aside0.mk A50
  clear A50
  by_cases c6 : t216 = 0
  · rw [if_pos c6] at H
    have c6b0 : (t216 == 0) = true := beq_iff_eq.mpr c6
    have c6b1 : (t216 != 0) = false := bne_eq_false_iff_eq.mpr c6
    clear c6
    by_cases c7 : t227 = true
    · subst c7
      have H1 : (if (strOfNums t226).toList = ([84, 73, 76, 84, 1, 1, 0, 5, 1, 1, 102, 0, 0, 0, 1, 32, 0, 0] : List UInt8) then (if t223 = 0 then (if t225 = true then (if t239 = 150 then ((image_Right.f ([] : List (S48)) (([(⟨(⟨#[]⟩ : ByteArray), ([] : List Int), 0, ([] : List Int), ([] : List (S50))⟩ : S54)] : List (S54)))).bind fun t244 => (some (t244 == 150))) else (some false)) else (some false)) else (some false)) else (some false)) = some true := by rw [if_pos rfl] at H; exact H
      clear H
      have H := H1
      clear H1
      by_cases c8 : (strOfNums t226).toList = ([84, 73, 76, 84, 1, 1, 0, 5, 1, 1, 102, 0, 0, 0, 1, 32, 0, 0] : List UInt8)
      · rw [if_pos c8] at H
        have c8b0 : ((strOfNums t226).toList == ([84, 73, 76, 84, 1, 1, 0, 5, 1, 1, 102, 0, 0, 0, 1, 32, 0, 0] : List UInt8)) = true := beq_iff_eq.mpr c8
        have c8b1 : ((strOfNums t226).toList != ([84, 73, 76, 84, 1, 1, 0, 5, 1, 1, 102, 0, 0, 0, 1, 32, 0, 0] : List UInt8)) = false := bne_eq_false_iff_eq.mpr c8
        clear c8
        by_cases c9 : t223 = 0
        · rw [if_pos c9] at H
          have c9b0 : (t223 == 0) = true := beq_iff_eq.mpr c9
          have c9b1 : (t223 != 0) = false := bne_eq_false_iff_eq.mpr c9
          clear c9
          by_cases c10 : t225 = true
          · subst c10
            have H1 : (if t239 = 150 then ((image_Right.f ([] : List (S48)) (([(⟨(⟨#[]⟩ : ByteArray), ([] : List Int), 0, ([] : List Int), ([] : List (S50))⟩ : S54)] : List (S54)))).bind fun t244 => (some (t244 == 150))) else (some false)) = some true := by rw [if_pos rfl] at H; exact H
            clear H
            have H := H1
            clear H1
            by_cases c11 : t239 = 150
            · rw [if_pos c11] at H
              have c11b0 : (t239 == 150) = true := beq_iff_eq.mpr c11
              have c11b1 : (t239 != 150) = false := bne_eq_false_iff_eq.mpr c11
              clear c11
              obtain ⟨y241, hy241⟩ : ∃ y_ : List (S54), y_ = (([(⟨(⟨#[]⟩ : ByteArray), ([] : List Int), 0, ([] : List Int), ([] : List (S50))⟩ : S54)] : List (S54))) := ⟨_, rfl⟩
              replace H : ((image_Right.f ([] : List (S48)) y241).bind fun t244 => (some (t244 == 150))) = some true := by first | (rw [hy241]; with_reducible exact H) | (have H2_ := (Option.bind_some _ _).symm.trans H; rw [hy241]; with_reducible exact H2_) | (have H2_ := (Option.bind_some _ _).symm.trans H; with_reducible exact H2_) | with_reducible exact H | (rw [hy241]; exact H) | exact H
              have Ny241 := Aside0.mk hy241
              clear hy241
              replace H := Option.bind_eq_some_iff.mp H
              obtain ⟨t244, A120, H⟩ := H
              replace H : (some (t244 == 150)) = some true := H
              have A12 := Aside0.mk A120
              clear A120
              have h150 := Option.some.inj H
              have hcm := fun W => conv_mark W #[.int .u8 84, .int .u8 73, .int .u8 76, .int .u8 84] 4
              go_enter Tryd.func8, Tryd.ntmps8
              go_wp2_with (first | ((with_reducible refine gate_dst (N := 12) rfl ?_); (try (refine gate_guard (by rfl) ?_; dsimp only)); refine Kd.R_lit k48 _ 48 ?hg (N := 12) ?hd (xs := ([(⟨1, 0, (-3)⟩ : S48)] : List (S48))) (inner := [.int .i64 1, .int .i64 0, .int .i64 (-3)]) (ok := fun _ => True) (okp := fun _ => True) ?hr ?hp (fun _ hk => hk) trivial (Below.refl _ _) (Nat.le_refl _) (by simp) ?_; (case hd => rfl); (case hg => rfl); (case hr => first | (go_simp; done) | (go_simp; rfl)); (case hp => exact (Reps.c3 (show Kd.M k48 _ _ _ (⟨1, 0, (-3)⟩ : S48) [.int .i64 1, .int .i64 0, .int .i64 (-3)] from (k48_mkM _ _ _ (⟨1, 0, (-3)⟩ : S48) )) (Reps.none _ _))); intro v204 w13 ho14 hb hg_ hnew_; clear hg_ hnew_; (first | rw [← Ny203.out] at ho14 | (simp only [Int.reduceToNat] at ho14; rw [← Ny203.out] at ho14)); have n0_ := Aside0.mk (Kd.R_lower ho14 (below_size (by repeat (first | (with_reducible first | exact HB.out | apply below_alloc | apply pw_below_drewN | apply below_drew1) | exact HB.out)))); have n1_ := Aside0.mk (below_step (by repeat (first | (with_reducible first | exact HB.out | apply below_alloc | apply pw_below_drewN | apply below_drew1) | exact HB.out)) hb); clear HB; have HO205 := n0_; have HB := n1_; clear n0_ n1_; clear hb ho14) | ((with_reducible refine gate_dst (N := 14) rfl ?_); (try (refine gate_guard (by rfl) ?_; dsimp only)); refine Kd.R_lit k50 _ 50 ?hg (N := 14) ?hd (xs := ([(⟨32, 0, 0⟩ : S50)] : List (S50))) (inner := [.int .i64 32, .int .i64 0, .int .i64 0]) (ok := fun _ => True) (okp := fun _ => True) ?hr ?hp (fun _ hk => hk) trivial (Below.refl _ _) (Nat.le_refl _) (by simp) ?_; (case hd => rfl); (case hg => rfl); (case hr => first | (go_simp; done) | (go_simp; rfl)); (case hp => exact (Reps.c3 (show Kd.M k50 _ _ _ (⟨32, 0, 0⟩ : S50) [.int .i64 32, .int .i64 0, .int .i64 0] from (k50_mkM _ _ _ (⟨32, 0, 0⟩ : S50) )) (Reps.none _ _))); intro v207 w15 ho16 hb hg_ hnew_; clear hg_ hnew_; (first | rw [← Ny206.out] at ho16 | (simp only [Int.reduceToNat] at ho16; rw [← Ny206.out] at ho16)); have n0_ := Aside0.mk (Kd.R_below (by (with_reducible repeat (first | apply Kd.R_alloc | apply Kd.R_drewN | apply Kd.R_drew)); exact HO205.out) hb); have n1_ := Aside0.mk (Kd.R_lower ho16 (below_size (by repeat (first | (with_reducible first | exact HB.out | apply below_alloc | apply pw_below_drewN | apply below_drew1) | exact HB.out)))); have n2_ := Aside0.mk (below_step (by repeat (first | (with_reducible first | exact HB.out | apply below_alloc | apply pw_below_drewN | apply below_drew1) | exact HB.out)) hb); clear HO205; clear HB; have HO205 := n0_; have HO208 := n1_; have HB := n2_; clear n0_ n1_ n2_; clear hb ho16; obtain ⟨Ao17, co17, eo17⟩ := Kd.R_slice HO208.out; subst eo17) | ((with_reducible refine gate_dst (N := 16) rfl ?_); (try (refine gate_guard (by rfl) ?_; dsimp only)); refine Kd.N_lit k54 _ 54 ?hg (N' := 16) ?hd (xs := ([(⟨(⟨#[102]⟩ : ByteArray), ([] : List Int), 0, ([] : List Int), y206⟩ : S54)] : List (S54))) (inner := [.string (⟨#[102]⟩ : ByteArray), .slice none 0 0, .int .i64 0, .slice none 0 0, .slice Ao17 y206.length co17]) (ok := (fun k_ => some k_ ≠ (v204 : Value).ownBlock)) (okp := (fun k_ => some k_ ≠ (v204 : Value).ownBlock)) ?hr ?hp (fun _ hk => hk) ((show ∀ k_, w15.heap.size ≤ k_ → (fun k_ => some k_ ≠ (v204 : Value).ownBlock) k_ from fun k_ hk => Kd.fresh' (Kd.R_lt (by (with_reducible repeat (first | apply Kd.R_alloc | apply Kd.R_drewN | apply Kd.R_drew)); exact HO205.out)) k_ hk) _ (Nat.le_refl _)) (Below.refl _ _) (Nat.le_refl _) (by simp) ?_; (case hd => rfl); (case hg => rfl); (case hr => first | (go_simp; done) | (go_simp; rfl)); (case hp => exact (Reps.c5 (show Kd.FK k54 _ _ (⟨(⟨#[102]⟩ : ByteArray), ([] : List Int), 0, ([] : List Int), y206⟩ : S54) [.string (⟨#[102]⟩ : ByteArray), .slice none 0 0, .int .i64 0, .slice none 0 0, .slice Ao17 y206.length co17] from (k54_mkF _ _ (⟨(⟨#[102]⟩ : ByteArray), ([] : List Int), 0, ([] : List Int), y206⟩ : S54) (Nat.le_refl _) (Kd.F_nil _ _ _) (Nat.le_refl _) (Kd.F_nil _ _ _) (Kd.R_reads' (Kd.R_mono (ok' := (fun k_ => some k_ ≠ (v204 : Value).ownBlock)) (Kd.R_apart' (HO208.out) (Kd.R_typed HO205.out) (by decide)) (fun k_ hk => hk.2))).2.1 (Kd.R_F (Kd.R_mono (ok' := (fun k_ => some k_ ≠ (v204 : Value).ownBlock)) (Kd.R_apart' (HO208.out) (Kd.R_typed HO205.out) (by decide)) (fun k_ hk => hk.2))))) (Reps.none _ _))); intro v210 w18 ho19 hb hg_ hnew_; clear hg_ hnew_; (first | rw [← Ny209.out] at ho19 | (simp only [Int.reduceToNat] at ho19; rw [← Ny209.out] at ho19)); have n0_ := Aside0.mk (Kd.R_below (by (with_reducible repeat (first | apply Kd.R_alloc | apply Kd.R_drewN | apply Kd.R_drew)); exact HO205.out) hb); have n1_ := Aside0.mk (Kd.N_lower ho19 (below_size (by repeat (first | (with_reducible first | exact HB.out | apply below_alloc | apply pw_below_drewN | apply below_drew1) | exact HB.out)))); have n2_ := Aside0.mk (below_step (by repeat (first | (with_reducible first | exact HB.out | apply below_alloc | apply pw_below_drewN | apply below_drew1) | exact HB.out)) hb); clear HO205; clear HB; clear HO208; have HO205 := n0_; have HO211 := n1_; have HB := n2_; clear n0_ n1_ n2_; clear hb ho19; obtain ⟨Ao20, co20, eo20⟩ := Kd.N_slice HO211.out; subst eo20; obtain ⟨Ao21, co21, eo21⟩ := Kd.R_slice HO205.out; subst eo21) | ((with_reducible refine gate_dst (N := 1) rfl ?_); (try (refine gate_guard (by rfl) ?_; dsimp only)); refine box_event ?hg (N := 1) ?hd (cs := #[.slice none 0 0, .slice none 0 0]) (t := 25) ?hr ?_; (case hd => rfl); (case hg => rfl); (case hr => first | (go_simp; done) | (go_simp; rfl)); intro gb212 hg w22 hbox hb; have n0_ := Aside0.mk (Kd.R_below (by (with_reducible repeat (first | apply Kd.R_alloc | apply Kd.R_drewN | apply Kd.R_drew)); exact HO205.out) hb); have n1_ := Aside0.mk (Kd.N_below (Kd.N_elderB (by (with_reducible repeat (first | apply Kd.N_alloc | apply Kd.N_drewN | apply Kd.N_drew)); exact HO211.out) gb212 (Nat.le_of_eq hg.symm)) hb); have n2_ := Aside0.mk (below_step (by repeat (first | (with_reducible first | exact HB.out | apply below_alloc | apply pw_below_drewN | apply below_drew1) | exact HB.out)) hb); have n3_ := Aside0.mk (hbox); have n4_ := Aside0.mk ((by rw [hg]; exact (below_size (by repeat (first | (with_reducible first | exact HB.out | apply below_alloc | apply pw_below_drewN | apply below_drew1) | exact HB.out))) : w.heap.size ≤ gb212)); have n5_ := Aside0.mk ((by rw [hg]; exact (below_size (by repeat (first | (with_reducible first | exact HB.out | apply below_alloc | apply pw_below_drewN | apply below_drew1) | exact HB.out))) : w.heap.size ≤ gb212)); clear HO205; clear HO211; clear HB; have HO205 := n0_; have HO211 := n1_; have HB := n2_; have BK212 := n3_; have GW212 := n4_; have GE212 := n5_; clear n0_ n1_ n2_ n3_ n4_ n5_; clear hb hbox hg; have hcz23_0 : w22.cell? ⟨gb212, 0, none⟩ = some (.slice none 0 0) := (blk_cell BK212.out 0).trans rfl; have hcz23_1 : w22.cell? ⟨gb212, 1, none⟩ = some (.slice none 0 0) := (blk_cell BK212.out 1).trans rfl; have hfz23_0 := blk_frozen BK212.out 0; have hfz23_1 := blk_frozen BK212.out 1) | ((with_reducible refine gate_callee (f := 11) rfl ?_); refine goesL_ (some 20) rfl rfl Tryd.func11 (by kernel_rfl) rfl #[.agg #[.slice Ao21 y203.length co21, .slice Ao20 y209.length co20]] rfl (by (try simp only [List.map_toArray, List.map_cons, List.map_nil]); first | done | rfl | (simp only [List.length_drop, List.length_take]; rfl)) ?_; (with_reducible refine (image_Encode.calls _ _ y203 _ _ y209 t213 t216 _ ?side1 ?side2 ?side3 ?side4 A1.out (HWX.out.below (by repeat (first | (with_reducible first | exact HB.out | apply below_alloc | apply pw_below_drewN | apply below_drew1 | refine below_set ?_ GE212.out) | exact HB.out)))).mono ?_); (case side1 => refine (Kd.R_reads' (e := 48) (base := w.heap.size) (ok := fun k_ => True) (n := y203.length) (c := co21) ?_).2.2; exact (by (with_reducible repeat (first | apply Kd.R_alloc | apply Kd.R_drewN | apply Kd.R_drew)); exact (Kd.R_mono (Kd.R_far (p := ⟨gb212, 1, none⟩) (Kd.R_far (p := ⟨gb212, 0, none⟩) (Kd.R_types HO205.out BK212.out (by decide)) (fun _ hk => hk.2) (.slice Ao21 y203.length co21)) (fun _ hk => hk.2) (.slice Ao20 y209.length co20)) (fun _ h_ => h_.1)))); (case side2 => exact (Kd.R_reads' HO205.out).2.1); (case side3 => refine (Kd.N_reads' (e := 54) (base := w.heap.size) (ok := fun k_ => (some k_ ≠ (.slice Ao21 y203.length co21 : Value).ownBlock ∧ k_ ≠ gb212)) (n := y209.length) (c := co20) ?_).2.2; exact (by (with_reducible repeat (first | apply Kd.N_alloc | apply Kd.N_drewN | apply Kd.N_drew)); exact (Kd.N_mono (Kd.N_far (p := ⟨gb212, 1, none⟩) (Kd.N_far (p := ⟨gb212, 0, none⟩) (Kd.N_mono HO211.out (fun k_ hk => (⟨hk, hk.2⟩ : _ ∧ k_ ≠ gb212))) (fun _ hk => hk.2) (.slice Ao21 y203.length co21)) (fun _ hk => hk.2) (.slice Ao20 y209.length co20)) (fun _ h_ => h_.1)))); (case side4 => exact (Kd.N_reads' HO211.out).2.1); rintro e w24 ⟨v214, rfl, ho0, hb⟩; refine ⟨_, rfl, ?_⟩; have n0_ := Aside0.mk (Kd.R_below (by (with_reducible repeat (first | apply Kd.R_alloc | apply Kd.R_drewN | apply Kd.R_drew)); exact (Kd.R_mono (Kd.R_far (p := ⟨gb212, 1, none⟩) (Kd.R_far (p := ⟨gb212, 0, none⟩) (Kd.R_types HO205.out BK212.out (by decide)) (fun _ hk => hk.2) (.slice Ao21 y203.length co21)) (fun _ hk => hk.2) (.slice Ao20 y209.length co20)) (fun _ h_ => h_.1))) hb); have n1_ := Aside0.mk (Kd.N_elder' (by (with_reducible repeat (first | apply Kd.N_alloc | apply Kd.N_drewN | apply Kd.N_drew)); exact (Kd.N_mono (Kd.N_far (p := ⟨gb212, 1, none⟩) (Kd.N_far (p := ⟨gb212, 0, none⟩) (Kd.N_mono HO211.out (fun k_ hk => (⟨hk, hk.2⟩ : _ ∧ k_ ≠ gb212))) (fun _ hk => hk.2) (.slice Ao21 y203.length co21)) (fun _ hk => hk.2) (.slice Ao20 y209.length co20)) (fun _ h_ => h_.1))) (Kd.R_base ho0) hb); have n2_ := Aside0.mk (Kd.R_lower ho0 (below_size (by repeat (first | (with_reducible first | exact HB.out | apply below_alloc | apply pw_below_drewN | apply below_drew1 | refine below_set ?_ GE212.out) | exact HB.out)))); have n3_ := Aside0.mk (blk_below (g := gb212) (o := .cells #[.slice Ao21 y203.length co21, .slice Ao20 y209.length co20] 25 (0, 0)) (by (with_reducible repeat (first | refine blk_drewN ?_ _ | refine blk_drew ?_ | refine blk_alloc ?_ _)); refine blk_put (cs := #[.slice Ao21 y203.length co21, .slice none 0 0]) ?_ 1 _ rfl; (with_reducible repeat (first | refine blk_drewN ?_ _ | refine blk_drew ?_ | refine blk_alloc ?_ _)); refine blk_put (cs := #[.slice none 0 0, .slice none 0 0]) ?_ 0 _ rfl; (with_reducible repeat (first | refine blk_drewN ?_ _ | refine blk_drew ?_ | refine blk_alloc ?_ _)); exact BK212.out) hb); have n4_ := Aside0.mk (below_step (by repeat (first | (with_reducible first | exact HB.out | apply below_alloc | apply pw_below_drewN | apply below_drew1 | refine below_set ?_ GE212.out) | exact HB.out)) hb); clear HO205; clear HO211; clear BK212; clear HB; have HO205 := n0_; have HO211 := n1_; have HO215 := n2_; have BK212 := n3_; have HB := n4_; clear n0_ n1_ n2_ n3_ n4_; (try clear hb); (try clear hb2); (try clear hk); (try clear hi); (try clear ho0); obtain ⟨Ao25, co25, eo25⟩ := Kd.R_slice HO215.out; subst eo25) | ((with_reducible refine gate_callee (f := 17) rfl ?_); refine goesL_ (some 25) rfl rfl Tryd.func17 (by kernel_rfl) rfl #[.slice Ao25 t213.length co25] rfl (by (try simp only [List.map_toArray, List.map_cons, List.map_nil]); first | done | rfl | (simp only [List.length_drop, List.length_take]; rfl)) ?_; (with_reducible refine (image_Decode.calls _ _ t213 t217 t220 t223 _ ?side1 ?side2 A2.out (HWX.out.below (by repeat (first | (with_reducible first | exact HB.out | apply below_alloc | apply pw_below_drewN | apply below_drew1 | refine below_set ?_ GE212.out) | exact HB.out)))).mono ?_); (case side1 => repeat (first | exact (Kd.R_reads' HO215.out).2.2 | (with_reducible refine Kd.C_alloc ?_ _) | (with_reducible refine Kd.C_drewN ?_ _) | (with_reducible refine Kd.C_drew ?_))); (case side2 => exact (Kd.R_reads' HO215.out).2.1); rintro e w26 ⟨v218, v221, rfl, ho0, ho1, hb⟩; refine ⟨_, rfl, ?_⟩; have n0_ := Aside0.mk (Kd.R_elder' (by (with_reducible repeat (first | apply Kd.R_alloc | apply Kd.R_drewN | apply Kd.R_drew)); exact HO205.out) (Kd.R_base ho0) hb); have n1_ := Aside0.mk (Kd.N_mono (Kd.N_told (Kd.N_told (Kd.N_old (by (with_reducible repeat (first | apply Kd.N_alloc | apply Kd.N_drewN | apply Kd.N_drew)); exact HO211.out) hb) (Kd.R_base ho0)) (Kd.N_base (Kd.S_N ho1))) (fun _ h_ => h_.1)); have n2_ := Aside0.mk (Kd.R_below (by (with_reducible repeat (first | apply Kd.R_alloc | apply Kd.R_drewN | apply Kd.R_drew)); exact HO215.out) hb); have n3_ := Aside0.mk (Kd.R_lower (Kd.R_new' ho0 (Kd.R_lt (by (with_reducible repeat (first | apply Kd.R_alloc | apply Kd.R_drewN | apply Kd.R_drew)); exact HO205.out))) (below_size (by repeat (first | (with_reducible first | exact HB.out | apply below_alloc | apply pw_below_drewN | apply below_drew1 | refine below_set ?_ GE212.out) | exact HB.out)))); have n4_ := Aside0.mk (Kd.N_lower (Kd.N_mono (ok' := fun k_ => some k_ ≠ (v218 : Value).ownBlock ∧ some k_ ≠ (.slice Ao21 y203.length co21 : Value).ownBlock ∧ some k_ ≠ (.slice Ao20 y209.length co20 : Value).ownBlock ∧ some k_ ≠ (.slice Ao25 t213.length co25 : Value).ownBlock ∧ k_ ≠ gb212) (Kd.S_N (Kd.S_bound (Kd.S_apart' ho1 (Kd.R_typed ho0) (by decide)))) (fun k_ hk_ => ⟨hk_.1.2, (Kd.fresh' (Kd.R_lt (by (with_reducible repeat (first | apply Kd.R_alloc | apply Kd.R_drewN | apply Kd.R_drew)); exact HO205.out)) k_ hk_.2.1), (Kd.fresh' (Kd.N_lt (by (with_reducible repeat (first | apply Kd.N_alloc | apply Kd.N_drewN | apply Kd.N_drew)); exact HO211.out)) k_ hk_.2.1), (Kd.fresh' (Kd.R_lt (by (with_reducible repeat (first | apply Kd.R_alloc | apply Kd.R_drewN | apply Kd.R_drew)); exact HO215.out)) k_ hk_.2.1), (Kd.freshB (g := gb212) (o := .cells #[.slice Ao21 y203.length co21, .slice Ao20 y209.length co20] 25 (0, 0)) (by (with_reducible repeat (first | refine blk_drewN ?_ _ | refine blk_drew ?_ | refine blk_alloc ?_ _)); exact BK212.out) k_ hk_.2.1)⟩)) (below_size (by repeat (first | (with_reducible first | exact HB.out | apply below_alloc | apply pw_below_drewN | apply below_drew1 | refine below_set ?_ GE212.out) | exact HB.out)))); have n5_ := Aside0.mk (blk_below (g := gb212) (o := .cells #[.slice Ao21 y203.length co21, .slice Ao20 y209.length co20] 25 (0, 0)) (by (with_reducible repeat (first | refine blk_drewN ?_ _ | refine blk_drew ?_ | refine blk_alloc ?_ _)); exact BK212.out) hb); have n6_ := Aside0.mk (below_step (by repeat (first | (with_reducible first | exact HB.out | apply below_alloc | apply pw_below_drewN | apply below_drew1 | refine below_set ?_ GE212.out) | exact HB.out)) hb); clear HO205; clear HO211; clear HO215; clear BK212; clear HB; have HO205 := n0_; have HO211 := n1_; have HO215 := n2_; have HO219 := n3_; have HO222 := n4_; have BK212 := n5_; have HB := n6_; clear n0_ n1_ n2_ n3_ n4_ n5_ n6_; (try clear hb); (try clear hb2); (try clear hk); (try clear hi); (try clear ho0); (try clear ho1)) | ((with_reducible refine gate_dst (N := 4) rfl ?_); (try (refine gate_guard (by rfl) ?_; dsimp only)); refine box_event ?hg (N := 4) ?hd (cs := #[.slice none 0 0, .slice none 0 0]) (t := 25) ?hr ?_; (case hd => rfl); (case hg => rfl); (case hr => first | (go_simp; done) | (go_simp; rfl)); intro gb224 hg w27 hbox hb; have n0_ := Aside0.mk (Kd.R_below (by (with_reducible repeat (first | apply Kd.R_alloc | apply Kd.R_drewN | apply Kd.R_drew)); exact HO205.out) hb); have n1_ := Aside0.mk (Kd.N_below (Kd.N_elderB (by (with_reducible repeat (first | apply Kd.N_alloc | apply Kd.N_drewN | apply Kd.N_drew)); exact HO211.out) gb224 (Nat.le_of_eq hg.symm)) hb); have n2_ := Aside0.mk (Kd.R_below (by (with_reducible repeat (first | apply Kd.R_alloc | apply Kd.R_drewN | apply Kd.R_drew)); exact HO215.out) hb); have n3_ := Aside0.mk (Kd.R_below (by (with_reducible repeat (first | apply Kd.R_alloc | apply Kd.R_drewN | apply Kd.R_drew)); exact HO219.out) hb); have n4_ := Aside0.mk (Kd.N_below (Kd.N_elderB (by (with_reducible repeat (first | apply Kd.N_alloc | apply Kd.N_drewN | apply Kd.N_drew)); exact HO222.out) gb224 (Nat.le_of_eq hg.symm)) hb); have n5_ := Aside0.mk (blk_below (g := gb212) (o := .cells #[.slice Ao21 y203.length co21, .slice Ao20 y209.length co20] 25 (0, 0)) (by (with_reducible repeat (first | refine blk_drewN ?_ _ | refine blk_drew ?_ | refine blk_alloc ?_ _)); exact BK212.out) hb); have n6_ := Aside0.mk (below_step (by repeat (first | (with_reducible first | exact HB.out | apply below_alloc | apply pw_below_drewN | apply below_drew1 | refine below_set ?_ GE212.out) | exact HB.out)) hb); have n7_ := Aside0.mk (hbox); have n8_ := Aside0.mk ((by rw [hg]; exact (below_size (by repeat (first | (with_reducible first | exact HB.out | apply below_alloc | apply pw_below_drewN | apply below_drew1 | refine below_set ?_ GE212.out) | exact HB.out))) : w.heap.size ≤ gb224)); have n9_ := Aside0.mk ((by rw [hg]; exact (below_size (by repeat (first | (with_reducible first | exact HB.out | apply below_alloc | apply pw_below_drewN | apply below_drew1 | refine below_set ?_ GE212.out) | exact HB.out))) : w.heap.size ≤ gb224)); have n10_ := Aside0.mk ((by rw [hg]; exact Nat.ne_of_lt (blk_lt (g := gb212) (o := .cells #[.slice Ao21 y203.length co21, .slice Ao20 y209.length co20] 25 (0, 0)) (by (with_reducible repeat (first | refine blk_drewN ?_ _ | refine blk_drew ?_ | refine blk_alloc ?_ _)); exact BK212.out)) : gb212 ≠ gb224)); have n11_ := Aside0.mk ((by rw [hg]; exact Nat.ne_of_gt (blk_lt (g := gb212) (o := .cells #[.slice Ao21 y203.length co21, .slice Ao20 y209.length co20] 25 (0, 0)) (by (with_reducible repeat (first | refine blk_drewN ?_ _ | refine blk_drew ?_ | refine blk_alloc ?_ _)); exact BK212.out)) : gb224 ≠ gb212)); clear HO205; clear HO211; clear HO215; clear HO219; clear HO222; clear BK212; clear HB; have HO205 := n0_; have HO211 := n1_; have HO215 := n2_; have HO219 := n3_; have HO222 := n4_; have BK212 := n5_; have HB := n6_; have BK224 := n7_; have GW224 := n8_; have GE224 := n9_; have NB212_224 := n10_; have NB224_212 := n11_; clear n0_ n1_ n2_ n3_ n4_ n5_ n6_ n7_ n8_ n9_ n10_ n11_; clear hb hbox hg; obtain ⟨Ao28, co28, eo28⟩ := Kd.R_slice HO219.out; subst eo28; have hnb29 := NB224_212.out; have hnc29 := NB212_224.out; have hcz30_0 : w27.cell? ⟨gb224, 0, none⟩ = some (.slice none 0 0) := (blk_cell BK224.out 0).trans rfl; have hcz30_1 : w27.cell? ⟨gb224, 1, none⟩ = some (.slice none 0 0) := (blk_cell BK224.out 1).trans rfl; have hfz30_0 := blk_frozen BK224.out 0; have hfz30_1 := blk_frozen BK224.out 1; obtain ⟨Ao31, co31, eo31⟩ := Kd.N_slice HO222.out; subst eo31; have hcz32_0 : w27.cell? ⟨gb212, 0, none⟩ = some (.slice Ao21 y203.length co21) := (blk_cell BK212.out 0).trans rfl; have hcz32_1 : w27.cell? ⟨gb212, 1, none⟩ = some (.slice Ao20 y209.length co20) := (blk_cell BK212.out 1).trans rfl; have hfz32_0 := blk_frozen BK212.out 0; have hfz32_1 := blk_frozen BK212.out 1) | ((with_reducible refine gate_callee (f := 12) rfl ?_); refine goesL_ (some 30) rfl rfl Tryd.func12 (by kernel_rfl) rfl #[.agg #[.slice Ao21 y203.length co21, .slice Ao20 y209.length co20], .agg #[.slice Ao28 t217.length co28, .slice Ao31 t220.length co31]] rfl (by (try simp only [List.map_toArray, List.map_cons, List.map_nil]); first | done | rfl | (simp only [List.length_drop, List.length_take]; rfl)) ?_; (with_reducible refine (tiltyardref14_Same.calls k _ _ y203 _ _ y209 _ _ t217 _ _ t220 true _ ?side1 ?side2 ?side3 ?side4 ?side5 ?side6 ?side7 ?side8 A3.out).mono ?_); (case side1 => refine (Kd.R_reads' (e := 48) (base := w.heap.size) (ok := fun k_ => (True ∧ some k_ ≠ (.slice Ao28 t217.length co28 : Value).ownBlock)) (n := y203.length) (c := co21) ?_).2.2; exact (by (with_reducible repeat (first | apply Kd.R_alloc | apply Kd.R_drewN | apply Kd.R_drew)); exact (Kd.R_mono (Kd.R_far (p := ⟨gb224, 1, none⟩) (Kd.R_far (p := ⟨gb224, 0, none⟩) (Kd.R_types HO205.out BK224.out (by decide)) (fun _ hk => hk.2) (.slice Ao28 t217.length co28)) (fun _ hk => hk.2) (.slice Ao31 t220.length co31)) (fun _ h_ => h_.1)))); (case side2 => exact (Kd.R_reads' HO205.out).2.1); (case side3 => refine (Kd.N_reads' (e := 54) (base := w.heap.size) (ok := fun k_ => (((((some k_ ≠ (.slice Ao21 y203.length co21 : Value).ownBlock ∧ k_ ≠ gb212) ∧ some k_ ≠ (.slice Ao25 t213.length co25 : Value).ownBlock) ∧ some k_ ≠ (.slice Ao28 t217.length co28 : Value).ownBlock) ∧ some k_ ≠ (.slice Ao31 t220.length co31 : Value).ownBlock) ∧ k_ ≠ gb224)) (n := y209.length) (c := co20) ?_).2.2; exact (by (with_reducible repeat (first | apply Kd.N_alloc | apply Kd.N_drewN | apply Kd.N_drew)); exact (Kd.N_mono (Kd.N_far (p := ⟨gb224, 1, none⟩) (Kd.N_far (p := ⟨gb224, 0, none⟩) (Kd.N_mono HO211.out (fun k_ hk => (⟨hk, hk.2⟩ : _ ∧ k_ ≠ gb224))) (fun _ hk => hk.2) (.slice Ao28 t217.length co28)) (fun _ hk => hk.2) (.slice Ao31 t220.length co31)) (fun _ h_ => h_.1)))); (case side4 => exact (Kd.N_reads' HO211.out).2.1); (case side5 => refine (Kd.R_reads' (e := 48) (base := w.heap.size) (ok := fun k_ => (True ∧ some k_ ≠ (.slice Ao21 y203.length co21 : Value).ownBlock)) (n := t217.length) (c := co28) ?_).2.2; exact (by (with_reducible repeat (first | apply Kd.R_alloc | apply Kd.R_drewN | apply Kd.R_drew)); exact (Kd.R_mono (Kd.R_far (p := ⟨gb224, 1, none⟩) (Kd.R_far (p := ⟨gb224, 0, none⟩) (Kd.R_types HO219.out BK224.out (by decide)) (fun _ hk => hk.2) (.slice Ao28 t217.length co28)) (fun _ hk => hk.2) (.slice Ao31 t220.length co31)) (fun _ h_ => h_.1)))); (case side6 => exact (Kd.R_reads' HO219.out).2.1); (case side7 => refine (Kd.N_reads' (e := 54) (base := w.heap.size) (ok := fun k_ => ((some k_ ≠ (.slice Ao28 t217.length co28 : Value).ownBlock ∧ (some k_ ≠ (.slice Ao21 y203.length co21 : Value).ownBlock ∧ (some k_ ≠ (.slice Ao20 y209.length co20 : Value).ownBlock ∧ (some k_ ≠ (.slice Ao25 t213.length co25 : Value).ownBlock ∧ k_ ≠ gb212)))) ∧ k_ ≠ gb224)) (n := t220.length) (c := co31) ?_).2.2; exact (by (with_reducible repeat (first | apply Kd.N_alloc | apply Kd.N_drewN | apply Kd.N_drew)); exact (Kd.N_mono (Kd.N_far (p := ⟨gb224, 1, none⟩) (Kd.N_far (p := ⟨gb224, 0, none⟩) (Kd.N_mono HO222.out (fun k_ hk => (⟨hk, hk.2⟩ : _ ∧ k_ ≠ gb224))) (fun _ hk => hk.2) (.slice Ao28 t217.length co28)) (fun _ hk => hk.2) (.slice Ao31 t220.length co31)) (fun _ h_ => h_.1)))); (case side8 => exact (Kd.N_reads' HO222.out).2.1); rintro e w33 ⟨rfl, hb⟩; refine ⟨_, rfl, ?_⟩; have n0_ := Aside0.mk (Kd.R_below (by (with_reducible repeat (first | apply Kd.R_alloc | apply Kd.R_drewN | apply Kd.R_drew)); exact (Kd.R_mono (Kd.R_far (p := ⟨gb224, 1, none⟩) (Kd.R_far (p := ⟨gb224, 0, none⟩) (Kd.R_types HO205.out BK224.out (by decide)) (fun _ hk => hk.2) (.slice Ao28 t217.length co28)) (fun _ hk => hk.2) (.slice Ao31 t220.length co31)) (fun _ h_ => h_.1))) hb); have n1_ := Aside0.mk (Kd.N_below (by (with_reducible repeat (first | apply Kd.N_alloc | apply Kd.N_drewN | apply Kd.N_drew)); exact (Kd.N_mono (Kd.N_far (p := ⟨gb224, 1, none⟩) (Kd.N_far (p := ⟨gb224, 0, none⟩) (Kd.N_mono HO211.out (fun k_ hk => (⟨hk, hk.2⟩ : _ ∧ k_ ≠ gb224))) (fun _ hk => hk.2) (.slice Ao28 t217.length co28)) (fun _ hk => hk.2) (.slice Ao31 t220.length co31)) (fun _ h_ => h_.1))) hb); have n2_ := Aside0.mk (Kd.R_below (by (with_reducible repeat (first | apply Kd.R_alloc | apply Kd.R_drewN | apply Kd.R_drew)); exact (Kd.R_mono (Kd.R_far (p := ⟨gb224, 1, none⟩) (Kd.R_far (p := ⟨gb224, 0, none⟩) (Kd.R_types HO215.out BK224.out (by decide)) (fun _ hk => hk.2) (.slice Ao28 t217.length co28)) (fun _ hk => hk.2) (.slice Ao31 t220.length co31)) (fun _ h_ => h_.1))) hb); have n3_ := Aside0.mk (Kd.R_below (by (with_reducible repeat (first | apply Kd.R_alloc | apply Kd.R_drewN | apply Kd.R_drew)); exact (Kd.R_mono (Kd.R_far (p := ⟨gb224, 1, none⟩) (Kd.R_far (p := ⟨gb224, 0, none⟩) (Kd.R_types HO219.out BK224.out (by decide)) (fun _ hk => hk.2) (.slice Ao28 t217.length co28)) (fun _ hk => hk.2) (.slice Ao31 t220.length co31)) (fun _ h_ => h_.1))) hb); have n4_ := Aside0.mk (Kd.N_below (by (with_reducible repeat (first | apply Kd.N_alloc | apply Kd.N_drewN | apply Kd.N_drew)); exact (Kd.N_mono (Kd.N_far (p := ⟨gb224, 1, none⟩) (Kd.N_far (p := ⟨gb224, 0, none⟩) (Kd.N_mono HO222.out (fun k_ hk => (⟨hk, hk.2⟩ : _ ∧ k_ ≠ gb224))) (fun _ hk => hk.2) (.slice Ao28 t217.length co28)) (fun _ hk => hk.2) (.slice Ao31 t220.length co31)) (fun _ h_ => h_.1))) hb); have n5_ := Aside0.mk (blk_below (g := gb212) (o := .cells #[.slice Ao21 y203.length co21, .slice Ao20 y209.length co20] 25 (0, 0)) (by (with_reducible repeat (first | refine blk_drewN ?_ _ | refine blk_drew ?_ | refine blk_alloc ?_ _)); refine blk_far ?_ NB212_224.out _; (with_reducible repeat (first | refine blk_drewN ?_ _ | refine blk_drew ?_ | refine blk_alloc ?_ _)); refine blk_far ?_ NB212_224.out _; (with_reducible repeat (first | refine blk_drewN ?_ _ | refine blk_drew ?_ | refine blk_alloc ?_ _)); exact BK212.out) hb); have n6_ := Aside0.mk (blk_below (g := gb224) (o := .cells #[.slice Ao28 t217.length co28, .slice Ao31 t220.length co31] 25 (0, 0)) (by (with_reducible repeat (first | refine blk_drewN ?_ _ | refine blk_drew ?_ | refine blk_alloc ?_ _)); refine blk_put (cs := #[.slice Ao28 t217.length co28, .slice none 0 0]) ?_ 1 _ rfl; (with_reducible repeat (first | refine blk_drewN ?_ _ | refine blk_drew ?_ | refine blk_alloc ?_ _)); refine blk_put (cs := #[.slice none 0 0, .slice none 0 0]) ?_ 0 _ rfl; (with_reducible repeat (first | refine blk_drewN ?_ _ | refine blk_drew ?_ | refine blk_alloc ?_ _)); exact BK224.out) hb); have n7_ := Aside0.mk (below_step (by repeat (first | (with_reducible first | exact HB.out | apply below_alloc | apply pw_below_drewN | apply below_drew1 | refine below_set ?_ GE212.out | refine below_set ?_ GE224.out) | exact HB.out)) hb); clear HO205; clear HO211; clear HO215; clear HO219; clear HO222; clear BK212; clear BK224; clear HB; have HO205 := n0_; have HO211 := n1_; have HO215 := n2_; have HO219 := n3_; have HO222 := n4_; have BK212 := n5_; have BK224 := n6_; have HB := n7_; clear n0_ n1_ n2_ n3_ n4_ n5_ n6_ n7_; (try clear hb); (try clear hb2); (try clear hk); (try clear hi)) | ((with_reducible refine gate_callee (f := 21) rfl ?_); refine goesL_ (some 33) rfl rfl Tryd.func21 (by kernel_rfl) rfl #[.slice Ao25 t213.length co25] rfl (by (try simp only [List.map_toArray, List.map_cons, List.map_nil]); first | done | rfl | (simp only [List.length_drop, List.length_take]; rfl)) ?_; (with_reducible refine (wire_Open.calls _ _ t213 t226 true _ ?side1 ?side2 A4.out (HWX.out.below (by repeat (first | (with_reducible first | exact HB.out | apply below_alloc | apply pw_below_drewN | apply below_drew1 | refine below_set ?_ GE212.out | refine below_set ?_ GE224.out) | exact HB.out)))).mono ?_); (case side1 => repeat (first | exact (Kd.R_reads' HO215.out).2.2 | (with_reducible refine Kd.C_alloc ?_ _) | (with_reducible refine Kd.C_drewN ?_ _) | (with_reducible refine Kd.C_drew ?_))); (case side2 => exact (Kd.R_reads' HO215.out).2.1); rintro e w34 ⟨v228, rfl, ho0, hb⟩; refine ⟨_, rfl, ?_⟩; have n0_ := Aside0.mk (Kd.R_below (by (with_reducible repeat (first | apply Kd.R_alloc | apply Kd.R_drewN | apply Kd.R_drew)); exact HO205.out) hb); have n1_ := Aside0.mk (Kd.N_elder' (by (with_reducible repeat (first | apply Kd.N_alloc | apply Kd.N_drewN | apply Kd.N_drew)); exact HO211.out) (Kd.R_base ho0) hb); have n2_ := Aside0.mk (Kd.R_elder' (by (with_reducible repeat (first | apply Kd.R_alloc | apply Kd.R_drewN | apply Kd.R_drew)); exact HO215.out) (Kd.R_base ho0) hb); have n3_ := Aside0.mk (Kd.R_below (by (with_reducible repeat (first | apply Kd.R_alloc | apply Kd.R_drewN | apply Kd.R_drew)); exact HO219.out) hb); have n4_ := Aside0.mk (Kd.N_elder' (by (with_reducible repeat (first | apply Kd.N_alloc | apply Kd.N_drewN | apply Kd.N_drew)); exact HO222.out) (Kd.R_base ho0) hb); have n5_ := Aside0.mk (Kd.R_lower (Kd.R_new' ho0 (Kd.R_lt (by (with_reducible repeat (first | apply Kd.R_alloc | apply Kd.R_drewN | apply Kd.R_drew)); exact HO215.out))) (below_size (by repeat (first | (with_reducible first | exact HB.out | apply below_alloc | apply pw_below_drewN | apply below_drew1 | refine below_set ?_ GE212.out | refine below_set ?_ GE224.out) | exact HB.out)))); have n6_ := Aside0.mk (blk_below (g := gb212) (o := .cells #[.slice Ao21 y203.length co21, .slice Ao20 y209.length co20] 25 (0, 0)) (by (with_reducible repeat (first | refine blk_drewN ?_ _ | refine blk_drew ?_ | refine blk_alloc ?_ _)); exact BK212.out) hb); have n7_ := Aside0.mk (blk_below (g := gb224) (o := .cells #[.slice Ao28 t217.length co28, .slice Ao31 t220.length co31] 25 (0, 0)) (by (with_reducible repeat (first | refine blk_drewN ?_ _ | refine blk_drew ?_ | refine blk_alloc ?_ _)); exact BK224.out) hb); have n8_ := Aside0.mk (below_step (by repeat (first | (with_reducible first | exact HB.out | apply below_alloc | apply pw_below_drewN | apply below_drew1 | refine below_set ?_ GE212.out | refine below_set ?_ GE224.out) | exact HB.out)) hb); clear HO205; clear HO211; clear HO215; clear HO219; clear HO222; clear BK212; clear BK224; clear HB; have HO205 := n0_; have HO211 := n1_; have HO215 := n2_; have HO219 := n3_; have HO222 := n4_; have HO229 := n5_; have BK212 := n6_; have BK224 := n7_; have HB := n8_; clear n0_ n1_ n2_ n3_ n4_ n5_ n6_ n7_ n8_; (try clear hb); (try clear hb2); (try clear hk); (try clear hi); (try clear ho0)) | ((with_reducible refine gate_callee (f := 17) rfl ?_); have HO232 := Aside0.mk (Kd.R_nil (Kd.int .u8) 5 w34 w.heap.size (fun _ => True)); refine goesL_ (some 39) rfl rfl Tryd.func17 (by kernel_rfl) rfl #[.slice (some ⟨w34.heap.size, 0, none⟩) 4 4] rfl (by (try simp only [List.map_toArray, List.map_cons, List.map_nil]); first | done | rfl | (simp only [List.length_drop, List.length_take]; rfl)) ?_; (refine (image_Decode.calls (some ⟨w34.heap.size, 0, none⟩) 4 [84, 73, 76, 84] t233 t236 t239 (w34.alloc (.cells #[.int .u8 84, .int .u8 73, .int .u8 76, .int .u8 84] 5 (4, 5))) ?side1 ?side2 (by have q_ := A5.out; rw [Ny230.out] at q_; exact q_) (HWX.out.below (by repeat (first | (with_reducible first | exact HB.out | apply below_alloc | apply pw_below_drewN | apply below_drew1 | refine below_set ?_ GE212.out | refine below_set ?_ GE224.out) | exact HB.out)))).mono ?_); (case side1 => exact (C_preM w34 [84, 73, 76, 84] [] 5 (4, 5) (by simp) _ rfl)); (case side2 => decide); rintro e w38 ⟨v234, v237, rfl, ho0, ho1, hb⟩; refine ⟨_, rfl, ?_⟩; have n0_ := Aside0.mk (Kd.R_elder' (by (with_reducible repeat (first | apply Kd.R_alloc | apply Kd.R_drewN | apply Kd.R_drew)); exact HO205.out) (Kd.R_base ho0) hb); have n1_ := Aside0.mk (Kd.N_mono (Kd.N_told (Kd.N_told (Kd.N_old (by (with_reducible repeat (first | apply Kd.N_alloc | apply Kd.N_drewN | apply Kd.N_drew)); exact HO211.out) hb) (Kd.R_base ho0)) (Kd.N_base (Kd.S_N ho1))) (fun _ h_ => h_.1)); have n2_ := Aside0.mk (Kd.R_below (by (with_reducible repeat (first | apply Kd.R_alloc | apply Kd.R_drewN | apply Kd.R_drew)); exact HO215.out) hb); have n3_ := Aside0.mk (Kd.R_elder' (by (with_reducible repeat (first | apply Kd.R_alloc | apply Kd.R_drewN | apply Kd.R_drew)); exact HO219.out) (Kd.R_base ho0) hb); have n4_ := Aside0.mk (Kd.N_mono (Kd.N_told (Kd.N_told (Kd.N_old (by (with_reducible repeat (first | apply Kd.N_alloc | apply Kd.N_drewN | apply Kd.N_drew)); exact HO222.out) hb) (Kd.R_base ho0)) (Kd.N_base (Kd.S_N ho1))) (fun _ h_ => h_.1)); have n5_ := Aside0.mk (Kd.R_below (by (with_reducible repeat (first | apply Kd.R_alloc | apply Kd.R_drewN | apply Kd.R_drew)); exact HO229.out) hb); have n6_ := Aside0.mk (Kd.R_below (by (with_reducible repeat (first | apply Kd.R_alloc | apply Kd.R_drewN | apply Kd.R_drew)); exact HO232.out) hb); have n7_ := Aside0.mk (Kd.R_lower (Kd.R_new' (Kd.R_new' ho0 (Kd.R_lt (by (with_reducible repeat (first | apply Kd.R_alloc | apply Kd.R_drewN | apply Kd.R_drew)); exact HO205.out))) (Kd.R_lt (by (with_reducible repeat (first | apply Kd.R_alloc | apply Kd.R_drewN | apply Kd.R_drew)); exact HO219.out))) (below_size (by repeat (first | (with_reducible first | exact HB.out | apply below_alloc | apply pw_below_drewN | apply below_drew1 | refine below_set ?_ GE212.out | refine below_set ?_ GE224.out) | exact HB.out)))); have n8_ := Aside0.mk (Kd.N_lower (Kd.N_mono (ok' := fun k_ => some k_ ≠ (v234 : Value).ownBlock ∧ some k_ ≠ (.slice Ao21 y203.length co21 : Value).ownBlock ∧ some k_ ≠ (.slice Ao20 y209.length co20 : Value).ownBlock ∧ some k_ ≠ (.slice Ao25 t213.length co25 : Value).ownBlock ∧ some k_ ≠ (.slice Ao28 t217.length co28 : Value).ownBlock ∧ some k_ ≠ (.slice Ao31 t220.length co31 : Value).ownBlock ∧ some k_ ≠ (v228 : Value).ownBlock ∧ some k_ ≠ (.slice none 0 0 : Value).ownBlock ∧ k_ ≠ gb212 ∧ k_ ≠ gb224) (Kd.S_N (Kd.S_bound (Kd.S_apart' ho1 (Kd.R_typed ho0) (by decide)))) (fun k_ hk_ => ⟨hk_.1.2, (Kd.fresh' (Kd.R_lt (by (with_reducible repeat (first | apply Kd.R_alloc | apply Kd.R_drewN | apply Kd.R_drew)); exact HO205.out)) k_ hk_.2.1), (Kd.fresh' (Kd.N_lt (by (with_reducible repeat (first | apply Kd.N_alloc | apply Kd.N_drewN | apply Kd.N_drew)); exact HO211.out)) k_ hk_.2.1), (Kd.fresh' (Kd.R_lt (by (with_reducible repeat (first | apply Kd.R_alloc | apply Kd.R_drewN | apply Kd.R_drew)); exact HO215.out)) k_ hk_.2.1), (Kd.fresh' (Kd.R_lt (by (with_reducible repeat (first | apply Kd.R_alloc | apply Kd.R_drewN | apply Kd.R_drew)); exact HO219.out)) k_ hk_.2.1), (Kd.fresh' (Kd.N_lt (by (with_reducible repeat (first | apply Kd.N_alloc | apply Kd.N_drewN | apply Kd.N_drew)); exact HO222.out)) k_ hk_.2.1), (Kd.fresh' (Kd.R_lt (by (with_reducible repeat (first | apply Kd.R_alloc | apply Kd.R_drewN | apply Kd.R_drew)); exact HO229.out)) k_ hk_.2.1), (Kd.fresh' (Kd.R_lt (by (with_reducible repeat (first | apply Kd.R_alloc | apply Kd.R_drewN | apply Kd.R_drew)); exact HO232.out)) k_ hk_.2.1), (Kd.freshB (g := gb212) (o := .cells #[.slice Ao21 y203.length co21, .slice Ao20 y209.length co20] 25 (0, 0)) (by (with_reducible repeat (first | refine blk_drewN ?_ _ | refine blk_drew ?_ | refine blk_alloc ?_ _)); exact BK212.out) k_ hk_.2.1), (Kd.freshB (g := gb224) (o := .cells #[.slice Ao28 t217.length co28, .slice Ao31 t220.length co31] 25 (0, 0)) (by (with_reducible repeat (first | refine blk_drewN ?_ _ | refine blk_drew ?_ | refine blk_alloc ?_ _)); exact BK224.out) k_ hk_.2.1)⟩)) (below_size (by repeat (first | (with_reducible first | exact HB.out | apply below_alloc | apply pw_below_drewN | apply below_drew1 | refine below_set ?_ GE212.out | refine below_set ?_ GE224.out) | exact HB.out)))); have n9_ := Aside0.mk (blk_below (g := gb212) (o := .cells #[.slice Ao21 y203.length co21, .slice Ao20 y209.length co20] 25 (0, 0)) (by (with_reducible repeat (first | refine blk_drewN ?_ _ | refine blk_drew ?_ | refine blk_alloc ?_ _)); exact BK212.out) hb); have n10_ := Aside0.mk (blk_below (g := gb224) (o := .cells #[.slice Ao28 t217.length co28, .slice Ao31 t220.length co31] 25 (0, 0)) (by (with_reducible repeat (first | refine blk_drewN ?_ _ | refine blk_drew ?_ | refine blk_alloc ?_ _)); exact BK224.out) hb); have n11_ := Aside0.mk (below_step (by repeat (first | (with_reducible first | exact HB.out | apply below_alloc | apply pw_below_drewN | apply below_drew1 | refine below_set ?_ GE212.out | refine below_set ?_ GE224.out) | exact HB.out)) hb); clear HO205; clear HO211; clear HO215; clear HO219; clear HO222; clear HO229; clear HO232; clear BK212; clear BK224; clear HB; have HO205 := n0_; have HO211 := n1_; have HO215 := n2_; have HO219 := n3_; have HO222 := n4_; have HO229 := n5_; have HO232 := n6_; have HO235 := n7_; have HO238 := n8_; have BK212 := n9_; have BK224 := n10_; have HB := n11_; clear n0_ n1_ n2_ n3_ n4_ n5_ n6_ n7_ n8_ n9_ n10_ n11_; (try clear hb); (try clear hb2); (try clear hk); (try clear hi); (try clear ho0); (try clear ho1)) | ((with_reducible refine gate_dst (N := 9) rfl ?_); (try (refine gate_guard (by rfl) ?_; dsimp only)); refine box_event ?hg (N := 9) ?hd (cs := #[.slice none 0 0, .slice none 0 0]) (t := 25) ?hr ?_; (case hd => rfl); (case hg => rfl); (case hr => first | (go_simp; done) | (go_simp; rfl)); intro gb240 hg w39 hbox hb; have n0_ := Aside0.mk (Kd.R_below (by (with_reducible repeat (first | apply Kd.R_alloc | apply Kd.R_drewN | apply Kd.R_drew)); exact HO205.out) hb); have n1_ := Aside0.mk (Kd.N_below (Kd.N_elderB (by (with_reducible repeat (first | apply Kd.N_alloc | apply Kd.N_drewN | apply Kd.N_drew)); exact HO211.out) gb240 (Nat.le_of_eq hg.symm)) hb); have n2_ := Aside0.mk (Kd.R_below (by (with_reducible repeat (first | apply Kd.R_alloc | apply Kd.R_drewN | apply Kd.R_drew)); exact HO215.out) hb); have n3_ := Aside0.mk (Kd.R_below (by (with_reducible repeat (first | apply Kd.R_alloc | apply Kd.R_drewN | apply Kd.R_drew)); exact HO219.out) hb); have n4_ := Aside0.mk (Kd.N_below (Kd.N_elderB (by (with_reducible repeat (first | apply Kd.N_alloc | apply Kd.N_drewN | apply Kd.N_drew)); exact HO222.out) gb240 (Nat.le_of_eq hg.symm)) hb); have n5_ := Aside0.mk (Kd.R_below (by (with_reducible repeat (first | apply Kd.R_alloc | apply Kd.R_drewN | apply Kd.R_drew)); exact HO229.out) hb); have n6_ := Aside0.mk (Kd.R_below (by (with_reducible repeat (first | apply Kd.R_alloc | apply Kd.R_drewN | apply Kd.R_drew)); exact HO232.out) hb); have n7_ := Aside0.mk (Kd.R_below (by (with_reducible repeat (first | apply Kd.R_alloc | apply Kd.R_drewN | apply Kd.R_drew)); exact HO235.out) hb); have n8_ := Aside0.mk (Kd.N_below (Kd.N_elderB (by (with_reducible repeat (first | apply Kd.N_alloc | apply Kd.N_drewN | apply Kd.N_drew)); exact HO238.out) gb240 (Nat.le_of_eq hg.symm)) hb); have n9_ := Aside0.mk (blk_below (g := gb212) (o := .cells #[.slice Ao21 y203.length co21, .slice Ao20 y209.length co20] 25 (0, 0)) (by (with_reducible repeat (first | refine blk_drewN ?_ _ | refine blk_drew ?_ | refine blk_alloc ?_ _)); exact BK212.out) hb); have n10_ := Aside0.mk (blk_below (g := gb224) (o := .cells #[.slice Ao28 t217.length co28, .slice Ao31 t220.length co31] 25 (0, 0)) (by (with_reducible repeat (first | refine blk_drewN ?_ _ | refine blk_drew ?_ | refine blk_alloc ?_ _)); exact BK224.out) hb); have n11_ := Aside0.mk (below_step (by repeat (first | (with_reducible first | exact HB.out | apply below_alloc | apply pw_below_drewN | apply below_drew1 | refine below_set ?_ GE212.out | refine below_set ?_ GE224.out) | exact HB.out)) hb); have n12_ := Aside0.mk (hbox); have n13_ := Aside0.mk ((by rw [hg]; exact (below_size (by repeat (first | (with_reducible first | exact HB.out | apply below_alloc | apply pw_below_drewN | apply below_drew1 | refine below_set ?_ GE212.out | refine below_set ?_ GE224.out) | exact HB.out))) : w.heap.size ≤ gb240)); have n14_ := Aside0.mk ((by rw [hg]; exact (below_size (by repeat (first | (with_reducible first | exact HB.out | apply below_alloc | apply pw_below_drewN | apply below_drew1 | refine below_set ?_ GE212.out | refine below_set ?_ GE224.out) | exact HB.out))) : w.heap.size ≤ gb240)); have n15_ := Aside0.mk ((by rw [hg]; exact Nat.ne_of_lt (blk_lt (g := gb212) (o := .cells #[.slice Ao21 y203.length co21, .slice Ao20 y209.length co20] 25 (0, 0)) (by (with_reducible repeat (first | refine blk_drewN ?_ _ | refine blk_drew ?_ | refine blk_alloc ?_ _)); exact BK212.out)) : gb212 ≠ gb240)); have n16_ := Aside0.mk ((by rw [hg]; exact Nat.ne_of_gt (blk_lt (g := gb212) (o := .cells #[.slice Ao21 y203.length co21, .slice Ao20 y209.length co20] 25 (0, 0)) (by (with_reducible repeat (first | refine blk_drewN ?_ _ | refine blk_drew ?_ | refine blk_alloc ?_ _)); exact BK212.out)) : gb240 ≠ gb212)); have n17_ := Aside0.mk ((by rw [hg]; exact Nat.ne_of_lt (blk_lt (g := gb224) (o := .cells #[.slice Ao28 t217.length co28, .slice Ao31 t220.length co31] 25 (0, 0)) (by (with_reducible repeat (first | refine blk_drewN ?_ _ | refine blk_drew ?_ | refine blk_alloc ?_ _)); exact BK224.out)) : gb224 ≠ gb240)); have n18_ := Aside0.mk ((by rw [hg]; exact Nat.ne_of_gt (blk_lt (g := gb224) (o := .cells #[.slice Ao28 t217.length co28, .slice Ao31 t220.length co31] 25 (0, 0)) (by (with_reducible repeat (first | refine blk_drewN ?_ _ | refine blk_drew ?_ | refine blk_alloc ?_ _)); exact BK224.out)) : gb240 ≠ gb224)); clear HO205; clear HO211; clear HO215; clear HO219; clear HO222; clear HO229; clear HO232; clear HO235; clear HO238; clear BK212; clear BK224; clear HB; have HO205 := n0_; have HO211 := n1_; have HO215 := n2_; have HO219 := n3_; have HO222 := n4_; have HO229 := n5_; have HO232 := n6_; have HO235 := n7_; have HO238 := n8_; have BK212 := n9_; have BK224 := n10_; have HB := n11_; have BK240 := n12_; have GW240 := n13_; have GE240 := n14_; have NB212_240 := n15_; have NB240_212 := n16_; have NB224_240 := n17_; have NB240_224 := n18_; clear n0_ n1_ n2_ n3_ n4_ n5_ n6_ n7_ n8_ n9_ n10_ n11_ n12_ n13_ n14_ n15_ n16_ n17_ n18_; clear hb hbox hg; obtain ⟨Ao40, co40, eo40⟩ := Kd.R_slice HO235.out; subst eo40; have hnb41 := NB240_212.out; have hnc41 := NB212_240.out; have hnb42 := NB240_224.out; have hnc42 := NB224_240.out; have hcz43_0 : w39.cell? ⟨gb240, 0, none⟩ = some (.slice none 0 0) := (blk_cell BK240.out 0).trans rfl; have hcz43_1 : w39.cell? ⟨gb240, 1, none⟩ = some (.slice none 0 0) := (blk_cell BK240.out 1).trans rfl; have hfz43_0 := blk_frozen BK240.out 0; have hfz43_1 := blk_frozen BK240.out 1; obtain ⟨Ao44, co44, eo44⟩ := Kd.N_slice HO238.out; subst eo44; have hcv45 := own_string (P := Tryd.prog) Tryd.underlying30 Tryd.underlying5 Tryd.underlying9 (Kd.own_of_R HO229.out); have hcvB := fun (x_ y_ : Value) => own_string (P := Tryd.prog) Tryd.underlying30 Tryd.underlying5 Tryd.underlying9 (own_setCell (p := ⟨gb240, 1, none⟩) (own_setCell (p := ⟨gb240, 0, none⟩) (Kd.own_of_R HO229.out) (Kd.R_ne HO229.out BK240.out (by decide)) x_) (Kd.R_ne HO229.out BK240.out (by decide)) y_)) | ((with_reducible refine gate_dst (N := 65) rfl ?_); (try (refine gate_guard (by rfl) ?_; dsimp only)); refine Kd.N_lit k54 _ 54 ?hg (N' := 65) ?hd (xs := ([(⟨(⟨#[]⟩ : ByteArray), ([] : List Int), 0, ([] : List Int), ([] : List (S50))⟩ : S54)] : List (S54))) (inner := [.string (⟨#[]⟩ : ByteArray), .slice none 0 0, .int .i64 0, .slice none 0 0, .slice none 0 0]) (ok := (fun k_ => some k_ ≠ (.slice Ao21 y203.length co21 : Value).ownBlock ∧ some k_ ≠ (.slice Ao20 y209.length co20 : Value).ownBlock ∧ some k_ ≠ (.slice Ao25 t213.length co25 : Value).ownBlock ∧ some k_ ≠ (.slice Ao28 t217.length co28 : Value).ownBlock ∧ some k_ ≠ (.slice Ao31 t220.length co31 : Value).ownBlock ∧ some k_ ≠ (v228 : Value).ownBlock ∧ some k_ ≠ (.slice none 0 0 : Value).ownBlock ∧ some k_ ≠ (.slice Ao40 t233.length co40 : Value).ownBlock ∧ some k_ ≠ (.slice Ao44 t236.length co44 : Value).ownBlock ∧ k_ ≠ gb212 ∧ k_ ≠ gb224 ∧ k_ ≠ gb240)) (okp := (fun k_ => some k_ ≠ (.slice Ao21 y203.length co21 : Value).ownBlock ∧ some k_ ≠ (.slice Ao20 y209.length co20 : Value).ownBlock ∧ some k_ ≠ (.slice Ao25 t213.length co25 : Value).ownBlock ∧ some k_ ≠ (.slice Ao28 t217.length co28 : Value).ownBlock ∧ some k_ ≠ (.slice Ao31 t220.length co31 : Value).ownBlock ∧ some k_ ≠ (v228 : Value).ownBlock ∧ some k_ ≠ (.slice none 0 0 : Value).ownBlock ∧ some k_ ≠ (.slice Ao40 t233.length co40 : Value).ownBlock ∧ some k_ ≠ (.slice Ao44 t236.length co44 : Value).ownBlock ∧ k_ ≠ gb212 ∧ k_ ≠ gb224 ∧ k_ ≠ gb240)) ?hr ?hp (fun _ hk => hk) ((show ∀ k_, ((w39.setCell ⟨gb240, 0, none⟩ (.slice Ao40 t233.length co40)).setCell ⟨gb240, 1, none⟩ (.slice Ao44 t236.length co44)).heap.size ≤ k_ → (fun k_ => some k_ ≠ (.slice Ao21 y203.length co21 : Value).ownBlock ∧ some k_ ≠ (.slice Ao20 y209.length co20 : Value).ownBlock ∧ some k_ ≠ (.slice Ao25 t213.length co25 : Value).ownBlock ∧ some k_ ≠ (.slice Ao28 t217.length co28 : Value).ownBlock ∧ some k_ ≠ (.slice Ao31 t220.length co31 : Value).ownBlock ∧ some k_ ≠ (v228 : Value).ownBlock ∧ some k_ ≠ (.slice none 0 0 : Value).ownBlock ∧ some k_ ≠ (.slice Ao40 t233.length co40 : Value).ownBlock ∧ some k_ ≠ (.slice Ao44 t236.length co44 : Value).ownBlock ∧ k_ ≠ gb212 ∧ k_ ≠ gb224 ∧ k_ ≠ gb240) k_ from fun k_ hk => ⟨Kd.fresh' (Kd.R_lt (by (with_reducible repeat (first | apply Kd.R_alloc | apply Kd.R_drewN | apply Kd.R_drew)); exact (Kd.R_mono (Kd.R_far (p := ⟨gb240, 1, none⟩) (Kd.R_far (p := ⟨gb240, 0, none⟩) (Kd.R_types HO205.out BK240.out (by decide)) (fun _ hk => hk.2) (.slice Ao40 t233.length co40)) (fun _ hk => hk.2) (.slice Ao44 t236.length co44)) (fun _ h_ => h_.1)))) k_ hk, Kd.fresh' (Kd.N_lt (by (with_reducible repeat (first | apply Kd.N_alloc | apply Kd.N_drewN | apply Kd.N_drew)); exact (Kd.N_mono (Kd.N_far (p := ⟨gb240, 1, none⟩) (Kd.N_far (p := ⟨gb240, 0, none⟩) (Kd.N_mono HO211.out (fun k_ hk => (⟨hk, hk.2⟩ : _ ∧ k_ ≠ gb240))) (fun _ hk => hk.2) (.slice Ao40 t233.length co40)) (fun _ hk => hk.2) (.slice Ao44 t236.length co44)) (fun _ h_ => h_.1)))) k_ hk, Kd.fresh' (Kd.R_lt (by (with_reducible repeat (first | apply Kd.R_alloc | apply Kd.R_drewN | apply Kd.R_drew)); exact (Kd.R_mono (Kd.R_far (p := ⟨gb240, 1, none⟩) (Kd.R_far (p := ⟨gb240, 0, none⟩) (Kd.R_types HO215.out BK240.out (by decide)) (fun _ hk => hk.2) (.slice Ao40 t233.length co40)) (fun _ hk => hk.2) (.slice Ao44 t236.length co44)) (fun _ h_ => h_.1)))) k_ hk, Kd.fresh' (Kd.R_lt (by (with_reducible repeat (first | apply Kd.R_alloc | apply Kd.R_drewN | apply Kd.R_drew)); exact (Kd.R_mono (Kd.R_far (p := ⟨gb240, 1, none⟩) (Kd.R_far (p := ⟨gb240, 0, none⟩) (Kd.R_types HO219.out BK240.out (by decide)) (fun _ hk => hk.2) (.slice Ao40 t233.length co40)) (fun _ hk => hk.2) (.slice Ao44 t236.length co44)) (fun _ h_ => h_.1)))) k_ hk, Kd.fresh' (Kd.N_lt (by (with_reducible repeat (first | apply Kd.N_alloc | apply Kd.N_drewN | apply Kd.N_drew)); exact (Kd.N_mono (Kd.N_far (p := ⟨gb240, 1, none⟩) (Kd.N_far (p := ⟨gb240, 0, none⟩) (Kd.N_mono HO222.out (fun k_ hk => (⟨hk, hk.2⟩ : _ ∧ k_ ≠ gb240))) (fun _ hk => hk.2) (.slice Ao40 t233.length co40)) (fun _ hk => hk.2) (.slice Ao44 t236.length co44)) (fun _ h_ => h_.1)))) k_ hk, Kd.fresh' (Kd.R_lt (by (with_reducible repeat (first | apply Kd.R_alloc | apply Kd.R_drewN | apply Kd.R_drew)); exact (Kd.R_mono (Kd.R_far (p := ⟨gb240, 1, none⟩) (Kd.R_far (p := ⟨gb240, 0, none⟩) (Kd.R_types HO229.out BK240.out (by decide)) (fun _ hk => hk.2) (.slice Ao40 t233.length co40)) (fun _ hk => hk.2) (.slice Ao44 t236.length co44)) (fun _ h_ => h_.1)))) k_ hk, Kd.fresh' (Kd.R_lt (by (with_reducible repeat (first | apply Kd.R_alloc | apply Kd.R_drewN | apply Kd.R_drew)); exact (Kd.R_mono (Kd.R_far (p := ⟨gb240, 1, none⟩) (Kd.R_far (p := ⟨gb240, 0, none⟩) (Kd.R_types HO232.out BK240.out (by decide)) (fun _ hk => hk.2) (.slice Ao40 t233.length co40)) (fun _ hk => hk.2) (.slice Ao44 t236.length co44)) (fun _ h_ => h_.1)))) k_ hk, Kd.fresh' (Kd.R_lt (by (with_reducible repeat (first | apply Kd.R_alloc | apply Kd.R_drewN | apply Kd.R_drew)); exact (Kd.R_mono (Kd.R_far (p := ⟨gb240, 1, none⟩) (Kd.R_far (p := ⟨gb240, 0, none⟩) (Kd.R_types HO235.out BK240.out (by decide)) (fun _ hk => hk.2) (.slice Ao40 t233.length co40)) (fun _ hk => hk.2) (.slice Ao44 t236.length co44)) (fun _ h_ => h_.1)))) k_ hk, Kd.fresh' (Kd.N_lt (by (with_reducible repeat (first | apply Kd.N_alloc | apply Kd.N_drewN | apply Kd.N_drew)); exact (Kd.N_mono (Kd.N_far (p := ⟨gb240, 1, none⟩) (Kd.N_far (p := ⟨gb240, 0, none⟩) (Kd.N_mono HO238.out (fun k_ hk => (⟨hk, hk.2⟩ : _ ∧ k_ ≠ gb240))) (fun _ hk => hk.2) (.slice Ao40 t233.length co40)) (fun _ hk => hk.2) (.slice Ao44 t236.length co44)) (fun _ h_ => h_.1)))) k_ hk, Kd.freshB (g := gb212) (o := .cells #[.slice Ao21 y203.length co21, .slice Ao20 y209.length co20] 25 (0, 0)) (by (with_reducible repeat (first | refine blk_drewN ?_ _ | refine blk_drew ?_ | refine blk_alloc ?_ _)); refine blk_far ?_ NB212_240.out _; (with_reducible repeat (first | refine blk_drewN ?_ _ | refine blk_drew ?_ | refine blk_alloc ?_ _)); refine blk_far ?_ NB212_240.out _; (with_reducible repeat (first | refine blk_drewN ?_ _ | refine blk_drew ?_ | refine blk_alloc ?_ _)); exact BK212.out) k_ hk, Kd.freshB (g := gb224) (o := .cells #[.slice Ao28 t217.length co28, .slice Ao31 t220.length co31] 25 (0, 0)) (by (with_reducible repeat (first | refine blk_drewN ?_ _ | refine blk_drew ?_ | refine blk_alloc ?_ _)); refine blk_far ?_ NB224_240.out _; (with_reducible repeat (first | refine blk_drewN ?_ _ | refine blk_drew ?_ | refine blk_alloc ?_ _)); refine blk_far ?_ NB224_240.out _; (with_reducible repeat (first | refine blk_drewN ?_ _ | refine blk_drew ?_ | refine blk_alloc ?_ _)); exact BK224.out) k_ hk, Kd.freshB (g := gb240) (o := .cells #[.slice Ao40 t233.length co40, .slice Ao44 t236.length co44] 25 (0, 0)) (by (with_reducible repeat (first | refine blk_drewN ?_ _ | refine blk_drew ?_ | refine blk_alloc ?_ _)); refine blk_put (cs := #[.slice Ao40 t233.length co40, .slice none 0 0]) ?_ 1 _ rfl; (with_reducible repeat (first | refine blk_drewN ?_ _ | refine blk_drew ?_ | refine blk_alloc ?_ _)); refine blk_put (cs := #[.slice none 0 0, .slice none 0 0]) ?_ 0 _ rfl; (with_reducible repeat (first | refine blk_drewN ?_ _ | refine blk_drew ?_ | refine blk_alloc ?_ _)); exact BK240.out) k_ hk⟩) _ (Nat.le_refl _)) (Below.refl _ _) (Nat.le_refl _) (by simp) ?_; (case hd => rfl); (case hg => rfl); (case hr => first | (go_simp; done) | (go_simp; rfl)); (case hp => exact (Reps.c5 (show Kd.FK k54 _ _ (⟨(⟨#[]⟩ : ByteArray), ([] : List Int), 0, ([] : List Int), ([] : List (S50))⟩ : S54) [.string (⟨#[]⟩ : ByteArray), .slice none 0 0, .int .i64 0, .slice none 0 0, .slice none 0 0] from (k54_mkF _ _ (⟨(⟨#[]⟩ : ByteArray), ([] : List Int), 0, ([] : List Int), ([] : List (S50))⟩ : S54) (Nat.le_refl _) (Kd.F_nil _ _ _) (Nat.le_refl _) (Kd.F_nil _ _ _) (Nat.le_refl _) (Kd.F_nil _ _ _))) (Reps.none _ _))); intro v242 w46 ho47 hb hg_ hnew_; clear hg_ hnew_; (first | rw [← Ny241.out] at ho47 | (simp only [Int.reduceToNat] at ho47; rw [← Ny241.out] at ho47)); have n0_ := Aside0.mk (Kd.R_below (by (with_reducible repeat (first | apply Kd.R_alloc | apply Kd.R_drewN | apply Kd.R_drew)); exact (Kd.R_mono (Kd.R_far (p := ⟨gb240, 1, none⟩) (Kd.R_far (p := ⟨gb240, 0, none⟩) (Kd.R_types HO205.out BK240.out (by decide)) (fun _ hk => hk.2) (.slice Ao40 t233.length co40)) (fun _ hk => hk.2) (.slice Ao44 t236.length co44)) (fun _ h_ => h_.1))) hb); have n1_ := Aside0.mk (Kd.N_elder' (by (with_reducible repeat (first | apply Kd.N_alloc | apply Kd.N_drewN | apply Kd.N_drew)); exact (Kd.N_mono (Kd.N_far (p := ⟨gb240, 1, none⟩) (Kd.N_far (p := ⟨gb240, 0, none⟩) (Kd.N_mono HO211.out (fun k_ hk => (⟨hk, hk.2⟩ : _ ∧ k_ ≠ gb240))) (fun _ hk => hk.2) (.slice Ao40 t233.length co40)) (fun _ hk => hk.2) (.slice Ao44 t236.length co44)) (fun _ h_ => h_.1))) (Kd.N_base ho47) hb); have n2_ := Aside0.mk (Kd.R_below (by (with_reducible repeat (first | apply Kd.R_alloc | apply Kd.R_drewN | apply Kd.R_drew)); exact (Kd.R_mono (Kd.R_far (p := ⟨gb240, 1, none⟩) (Kd.R_far (p := ⟨gb240, 0, none⟩) (Kd.R_types HO215.out BK240.out (by decide)) (fun _ hk => hk.2) (.slice Ao40 t233.length co40)) (fun _ hk => hk.2) (.slice Ao44 t236.length co44)) (fun _ h_ => h_.1))) hb); have n3_ := Aside0.mk (Kd.R_below (by (with_reducible repeat (first | apply Kd.R_alloc | apply Kd.R_drewN | apply Kd.R_drew)); exact (Kd.R_mono (Kd.R_far (p := ⟨gb240, 1, none⟩) (Kd.R_far (p := ⟨gb240, 0, none⟩) (Kd.R_types HO219.out BK240.out (by decide)) (fun _ hk => hk.2) (.slice Ao40 t233.length co40)) (fun _ hk => hk.2) (.slice Ao44 t236.length co44)) (fun _ h_ => h_.1))) hb); have n4_ := Aside0.mk (Kd.N_elder' (by (with_reducible repeat (first | apply Kd.N_alloc | apply Kd.N_drewN | apply Kd.N_drew)); exact (Kd.N_mono (Kd.N_far (p := ⟨gb240, 1, none⟩) (Kd.N_far (p := ⟨gb240, 0, none⟩) (Kd.N_mono HO222.out (fun k_ hk => (⟨hk, hk.2⟩ : _ ∧ k_ ≠ gb240))) (fun _ hk => hk.2) (.slice Ao40 t233.length co40)) (fun _ hk => hk.2) (.slice Ao44 t236.length co44)) (fun _ h_ => h_.1))) (Kd.N_base ho47) hb); have n5_ := Aside0.mk (Kd.R_below (by (with_reducible repeat (first | apply Kd.R_alloc | apply Kd.R_drewN | apply Kd.R_drew)); exact (Kd.R_mono (Kd.R_far (p := ⟨gb240, 1, none⟩) (Kd.R_far (p := ⟨gb240, 0, none⟩) (Kd.R_types HO229.out BK240.out (by decide)) (fun _ hk => hk.2) (.slice Ao40 t233.length co40)) (fun _ hk => hk.2) (.slice Ao44 t236.length co44)) (fun _ h_ => h_.1))) hb); have n6_ := Aside0.mk (Kd.R_below (by (with_reducible repeat (first | apply Kd.R_alloc | apply Kd.R_drewN | apply Kd.R_drew)); exact (Kd.R_mono (Kd.R_far (p := ⟨gb240, 1, none⟩) (Kd.R_far (p := ⟨gb240, 0, none⟩) (Kd.R_types HO232.out BK240.out (by decide)) (fun _ hk => hk.2) (.slice Ao40 t233.length co40)) (fun _ hk => hk.2) (.slice Ao44 t236.length co44)) (fun _ h_ => h_.1))) hb); have n7_ := Aside0.mk (Kd.R_below (by (with_reducible repeat (first | apply Kd.R_alloc | apply Kd.R_drewN | apply Kd.R_drew)); exact (Kd.R_mono (Kd.R_far (p := ⟨gb240, 1, none⟩) (Kd.R_far (p := ⟨gb240, 0, none⟩) (Kd.R_types HO235.out BK240.out (by decide)) (fun _ hk => hk.2) (.slice Ao40 t233.length co40)) (fun _ hk => hk.2) (.slice Ao44 t236.length co44)) (fun _ h_ => h_.1))) hb); have n8_ := Aside0.mk (Kd.N_elder' (by (with_reducible repeat (first | apply Kd.N_alloc | apply Kd.N_drewN | apply Kd.N_drew)); exact (Kd.N_mono (Kd.N_far (p := ⟨gb240, 1, none⟩) (Kd.N_far (p := ⟨gb240, 0, none⟩) (Kd.N_mono HO238.out (fun k_ hk => (⟨hk, hk.2⟩ : _ ∧ k_ ≠ gb240))) (fun _ hk => hk.2) (.slice Ao40 t233.length co40)) (fun _ hk => hk.2) (.slice Ao44 t236.length co44)) (fun _ h_ => h_.1))) (Kd.N_base ho47) hb); have n9_ := Aside0.mk (Kd.N_lower ho47 (below_size (by repeat (first | (with_reducible first | exact HB.out | apply below_alloc | apply pw_below_drewN | apply below_drew1 | refine below_set ?_ GE212.out | refine below_set ?_ GE224.out | refine below_set ?_ GE240.out) | exact HB.out)))); have n10_ := Aside0.mk (blk_below (g := gb212) (o := .cells #[.slice Ao21 y203.length co21, .slice Ao20 y209.length co20] 25 (0, 0)) (by (with_reducible repeat (first | refine blk_drewN ?_ _ | refine blk_drew ?_ | refine blk_alloc ?_ _)); refine blk_far ?_ NB212_240.out _; (with_reducible repeat (first | refine blk_drewN ?_ _ | refine blk_drew ?_ | refine blk_alloc ?_ _)); refine blk_far ?_ NB212_240.out _; (with_reducible repeat (first | refine blk_drewN ?_ _ | refine blk_drew ?_ | refine blk_alloc ?_ _)); exact BK212.out) hb); have n11_ := Aside0.mk (blk_below (g := gb224) (o := .cells #[.slice Ao28 t217.length co28, .slice Ao31 t220.length co31] 25 (0, 0)) (by (with_reducible repeat (first | refine blk_drewN ?_ _ | refine blk_drew ?_ | refine blk_alloc ?_ _)); refine blk_far ?_ NB224_240.out _; (with_reducible repeat (first | refine blk_drewN ?_ _ | refine blk_drew ?_ | refine blk_alloc ?_ _)); refine blk_far ?_ NB224_240.out _; (with_reducible repeat (first | refine blk_drewN ?_ _ | refine blk_drew ?_ | refine blk_alloc ?_ _)); exact BK224.out) hb); have n12_ := Aside0.mk (blk_below (g := gb240) (o := .cells #[.slice Ao40 t233.length co40, .slice Ao44 t236.length co44] 25 (0, 0)) (by (with_reducible repeat (first | refine blk_drewN ?_ _ | refine blk_drew ?_ | refine blk_alloc ?_ _)); refine blk_put (cs := #[.slice Ao40 t233.length co40, .slice none 0 0]) ?_ 1 _ rfl; (with_reducible repeat (first | refine blk_drewN ?_ _ | refine blk_drew ?_ | refine blk_alloc ?_ _)); refine blk_put (cs := #[.slice none 0 0, .slice none 0 0]) ?_ 0 _ rfl; (with_reducible repeat (first | refine blk_drewN ?_ _ | refine blk_drew ?_ | refine blk_alloc ?_ _)); exact BK240.out) hb); have n13_ := Aside0.mk (below_step (by repeat (first | (with_reducible first | exact HB.out | apply below_alloc | apply pw_below_drewN | apply below_drew1 | refine below_set ?_ GE212.out | refine below_set ?_ GE224.out | refine below_set ?_ GE240.out) | exact HB.out)) hb); clear HO205; clear HO211; clear HO215; clear HO219; clear HO222; clear HO229; clear HO232; clear HO235; clear HO238; clear BK212; clear BK224; clear BK240; clear HB; have HO205 := n0_; have HO211 := n1_; have HO215 := n2_; have HO219 := n3_; have HO222 := n4_; have HO229 := n5_; have HO232 := n6_; have HO235 := n7_; have HO238 := n8_; have HO243 := n9_; have BK212 := n10_; have BK224 := n11_; have BK240 := n12_; have HB := n13_; clear n0_ n1_ n2_ n3_ n4_ n5_ n6_ n7_ n8_ n9_ n10_ n11_ n12_ n13_; clear hb ho47; obtain ⟨Ao48, co48, eo48⟩ := Kd.N_slice HO243.out; subst eo48) | (go_at_call 10; (refine (image_Right.calls _ _ ([] : List (S48)) _ _ y241 t244 _ ?side1 ?side2 ?side3 ?side4 A12.out (HWX.out.below (by repeat (first | (with_reducible first | exact HB.out | apply below_alloc | apply pw_below_drewN | apply below_drew1 | refine below_set ?_ GE212.out | refine below_set ?_ GE224.out | refine below_set ?_ GE240.out) | exact HB.out)))).mono ?_); (case side1 => exact Kd.C_nil _ _); (case side2 => exact Nat.le_refl _); (case side3 => repeat (first | exact (Kd.N_reads' HO243.out).2.2 | (with_reducible refine Kd.C_alloc ?_ _) | (with_reducible refine Kd.C_drewN ?_ _) | (with_reducible refine Kd.C_drew ?_))); (case side4 => exact (Kd.N_reads' HO243.out).2.1); rintro e w49 ⟨rfl, hb⟩; have n0_ := Aside0.mk (Kd.R_below (by (with_reducible repeat (first | apply Kd.R_alloc | apply Kd.R_drewN | apply Kd.R_drew)); exact HO205.out) hb); have n1_ := Aside0.mk (Kd.N_below (by (with_reducible repeat (first | apply Kd.N_alloc | apply Kd.N_drewN | apply Kd.N_drew)); exact HO211.out) hb); have n2_ := Aside0.mk (Kd.R_below (by (with_reducible repeat (first | apply Kd.R_alloc | apply Kd.R_drewN | apply Kd.R_drew)); exact HO215.out) hb); have n3_ := Aside0.mk (Kd.R_below (by (with_reducible repeat (first | apply Kd.R_alloc | apply Kd.R_drewN | apply Kd.R_drew)); exact HO219.out) hb); have n4_ := Aside0.mk (Kd.N_below (by (with_reducible repeat (first | apply Kd.N_alloc | apply Kd.N_drewN | apply Kd.N_drew)); exact HO222.out) hb); have n5_ := Aside0.mk (Kd.R_below (by (with_reducible repeat (first | apply Kd.R_alloc | apply Kd.R_drewN | apply Kd.R_drew)); exact HO229.out) hb); have n6_ := Aside0.mk (Kd.R_below (by (with_reducible repeat (first | apply Kd.R_alloc | apply Kd.R_drewN | apply Kd.R_drew)); exact HO232.out) hb); have n7_ := Aside0.mk (Kd.R_below (by (with_reducible repeat (first | apply Kd.R_alloc | apply Kd.R_drewN | apply Kd.R_drew)); exact HO235.out) hb); have n8_ := Aside0.mk (Kd.N_below (by (with_reducible repeat (first | apply Kd.N_alloc | apply Kd.N_drewN | apply Kd.N_drew)); exact HO238.out) hb); have n9_ := Aside0.mk (Kd.N_below (by (with_reducible repeat (first | apply Kd.N_alloc | apply Kd.N_drewN | apply Kd.N_drew)); exact HO243.out) hb); have n10_ := Aside0.mk (blk_below (g := gb212) (o := .cells #[.slice Ao21 y203.length co21, .slice Ao20 y209.length co20] 25 (0, 0)) (by (with_reducible repeat (first | refine blk_drewN ?_ _ | refine blk_drew ?_ | refine blk_alloc ?_ _)); exact BK212.out) hb); have n11_ := Aside0.mk (blk_below (g := gb224) (o := .cells #[.slice Ao28 t217.length co28, .slice Ao31 t220.length co31] 25 (0, 0)) (by (with_reducible repeat (first | refine blk_drewN ?_ _ | refine blk_drew ?_ | refine blk_alloc ?_ _)); exact BK224.out) hb); have n12_ := Aside0.mk (blk_below (g := gb240) (o := .cells #[.slice Ao40 t233.length co40, .slice Ao44 t236.length co44] 25 (0, 0)) (by (with_reducible repeat (first | refine blk_drewN ?_ _ | refine blk_drew ?_ | refine blk_alloc ?_ _)); exact BK240.out) hb); have n13_ := Aside0.mk (below_step (by repeat (first | (with_reducible first | exact HB.out | apply below_alloc | apply pw_below_drewN | apply below_drew1 | refine below_set ?_ GE212.out | refine below_set ?_ GE224.out | refine below_set ?_ GE240.out) | exact HB.out)) hb); clear HO205; clear HO211; clear HO215; clear HO219; clear HO222; clear HO229; clear HO232; clear HO235; clear HO238; clear HO243; clear BK212; clear BK224; clear BK240; clear HB; have HO205 := n0_; have HO211 := n1_; have HO215 := n2_; have HO219 := n3_; have HO222 := n4_; have HO229 := n5_; have HO232 := n6_; have HO235 := n7_; have HO238 := n8_; have HO243 := n9_; have BK212 := n10_; have BK224 := n11_; have BK240 := n12_; have HB := n13_; clear n0_ n1_ n2_ n3_ n4_ n5_ n6_ n7_ n8_ n9_ n10_ n11_ n12_ n13_; (try clear hb); (try clear hb2); (try clear hk); (try clear hi)))
              go_ret
              exact ⟨by first | (rw [h150]; done) | rfl | (simp [errW_none, errW_some] <;> rfl) | (simp [*, errW_none, errW_some] <;> rfl), by repeat (first | (with_reducible first | exact HB.out | apply below_alloc | apply pw_below_drewN | apply below_drew1 | refine below_set ?_ GE212.out | refine below_set ?_ GE224.out | refine below_set ?_ GE240.out) | exact HB.out)⟩
            · exfalso; (first | (exact c11 rfl) | (rw [if_neg c11] at H; cases H; done) | (simp [c11] at H; done) | (rw [if_neg c11] at H; simp at H; done))
          · exfalso; (first | (exact c10 rfl) | (rw [if_neg c10] at H; cases H; done) | (simp [c10] at H; done) | (rw [if_neg c10] at H; simp at H; done))
        · exfalso; (first | (exact c9 rfl) | (rw [if_neg c9] at H; cases H; done) | (simp [c9] at H; done) | (rw [if_neg c9] at H; simp at H; done))
      · exfalso; (first | (exact c8 rfl) | (rw [if_neg c8] at H; cases H; done) | (simp [c8] at H; done) | (rw [if_neg c8] at H; simp at H; done))
    · exfalso; (first | (exact c7 rfl) | (rw [if_neg c7] at H; cases H; done) | (simp [c7] at H; done) | (rw [if_neg c7] at H; simp at H; done))
  · exfalso; (first | (exact c6 rfl) | (rw [if_neg c6] at H; cases H; done) | (simp [c6] at H; done) | (rw [if_neg c6] at H; simp at H; done))
end Go.Proofs.YteidgpaakoeefaaDoor.PIm
namespace Go.Proofs.YteidgpaakoeefaaDoor
open Go.RowKit Go.Proofs.YteidgpaakoeefaaDoorW.PrintWords Go.Proofs.YteidgpaakoeefaaDoorW.PrintLast Go.Proofs.YteidgpaakoeefaaDoorW.PrintMore
set_option linter.unusedVariables false
set_option linter.unusedSimpArgs false
open PIm
theorem Bytes.app {a b : List Int} (h : Bytes a) (k : Bytes b) : Bytes (a ++ b) := fun x hx => (List.mem_append.1 hx).elim (h x) (k x)
theorem Bytes.flat {α : Type} {put : α → List Int} {l : List α} (h : ∀ x, Bytes (put x)) : Bytes (l.flatMap put) := fun x hx => by
  obtain ⟨y, _, hy⟩ := List.mem_flatMap.1 hx
  exact h y x hy
theorem venc_bytes : ∀ (k z : Nat), z < k → Bytes (venc z)
  | 0, z, h => by omega
  | k + 1, z, h => by
    by_cases hz : z < 128
    · rw [venc_lt hz]; intro x hx; rw [List.mem_singleton.1 hx]; omega
    · rw [venc_ge hz]
      intro x hx
      rcases List.mem_cons.1 hx with rfl | hx
      · omega
      · exact venc_bytes k (z / 128) (by omega) x hx
theorem venc_b (z : Nat) : Bytes (venc z) := venc_bytes (z + 1) z (by omega)
theorem natB_b (n : Int) : Bytes (natB n) := by
  unfold natB numF
  split
  · intro x hx; cases hx
  · simp only [List.nil_append]; exact venc_b _
theorem wholeB_b (n : Int) : Bytes (wholeB n) := venc_b _
theorem bytesOf_b (s : ByteArray) : Bytes (bytesOf s) := fun x hx => by
  unfold bytesOf at hx
  obtain ⟨y, _, rfl⟩ := List.mem_map.1 hx
  exact ⟨by omega, by have := y.toNat_lt; omega⟩
theorem body_b (gs : List S48) (fs : List S54) : Bytes (bodyF gs fs) := by
  rw [body_eq]
  refine Bytes.app (by unfold Bytes; decide) (Bytes.app ((natB_b _).app (Bytes.flat fun x => (natB_b _).app ((natB_b _).app (wholeB_b _)))) ((natB_b _).app (Bytes.flat fun f => ?_)))
  exact ((venc_b _).app (bytesOf_b _)).app (((natB_b _).app (Bytes.flat fun x => natB_b x)).app ((natB_b _).app (((natB_b _).app (Bytes.flat fun x => natB_b x)).app ((natB_b _).app (Bytes.flat fun x => (natB_b _).app ((wholeB_b _).app (natB_b _)))))))
theorem frame_b (gs : List S48) (fs : List S54) : Bytes (frameF (bodyF gs fs)) := frameF_range _ (body_b gs fs)
theorem dec_bytes {l : List Int} (hl : l.length ≤ 140737488355318) (hb : Bytes l) : image_Decode.f l = some (decF l) := by
  unfold image_Decode.f
  rw [if_pos ⟨hl, hb⟩]
theorem enc_ways (gs : List S48) (fs : List S54) : (encF gs fs = ([], 150) ∧ okF gs fs = false) ∨ (encF gs fs = ([], 2) ∧ okF gs fs = true) ∨ (okF gs fs = true ∧ ¬ 1048576 < (frameF (bodyF gs fs)).length ∧ encF gs fs = (frameF (bodyF gs fs), 0)) := by
  unfold encF
  cases h : okF gs fs with
  | false => rw [if_neg (by decide)]; exact .inl ⟨rfl, rfl⟩
  | true =>
    rw [if_pos rfl]
    by_cases hl : 1048576 < (frameF (bodyF gs fs)).length
    · rw [if_pos hl]; exact .inr (.inl ⟨rfl, rfl⟩)
    · rw [if_neg hl]; exact .inr (.inr ⟨rfl, hl, rfl⟩)
end Go.Proofs.YteidgpaakoeefaaDoor
namespace Go.Proofs.YteidgpaakoeefaaDoor
open Go.RowKit Go.Proofs.YteidgpaakoeefaaDoorW.PrintWords Go.Proofs.YteidgpaakoeefaaDoorW.PrintLast Go.Proofs.YteidgpaakoeefaaDoorW.PrintMore
set_option linter.unusedVariables false
set_option linter.unusedSimpArgs false
open PIm
def awG : List S48 := [⟨1, 0, -3⟩]
def awF : List S54 := [⟨⟨#[102]⟩, [], 0, [], [⟨32, 0, 0⟩]⟩]
theorem aw_arg : argA awG awF := by
  refine ⟨by decide, by decide, fun f hf => ?_, fun x hx => ?_, fun f hf => ?_⟩
  · rw [List.mem_singleton.1 hf]; exact ⟨by decide, by decide, by decide, by decide⟩
  · rw [List.mem_singleton.1 hx]; exact ⟨⟨by decide, by decide⟩, ⟨by decide, by decide⟩, ⟨by decide, by decide⟩⟩
  · rw [List.mem_singleton.1 hf]
    refine ⟨⟨by decide, by decide⟩, fun x hx => ?_, fun x hx => ?_, fun x hx => ?_⟩
    · cases hx
    · cases hx
    · rw [List.mem_singleton.1 hx]; exact ⟨⟨by decide, by decide⟩, ⟨by decide, by decide⟩, ⟨by decide, by decide⟩⟩
theorem aw_ok : okF awG awF = true := by decide
theorem natB_small {n : Int} (h : 0 ≤ n) (h2 : n < 128) : natB n = [n] := by
  rw [natB_eq h, venc_lt (by omega), Int.toNat_of_nonneg h]
theorem wholeB_small {n : Int} (h : 0 ≤ zz n) (h2 : zz n < 128) : wholeB n = [zz n] := by
  unfold wholeB
  rw [venc_lt (by omega), Int.toNat_of_nonneg h]
theorem aw_body : bodyF awG awF = [84, 73, 76, 84, 1, 1, 0, 5, 1, 1, 102, 0, 0, 0, 1, 32, 0, 0] := by
  unfold bodyF rowG rowF awG awF
  simp only [List.flatMap_cons, List.flatMap_nil, putG, putF, textB, rowI, rowC, putC, List.length_cons, List.length_nil, List.drop_nil, List.drop]
  rw [natB_small (n := ((0 + 1 : Nat) : Int)) (by decide) (by decide), natB_small (n := 1) (by decide) (by decide), natB_small (n := 0) (by decide) (by decide), wholeB_small (n := -3) (by decide) (by decide),
    natB_small (n := ((0 : Nat) : Int)) (by decide) (by decide), natB_small (n := 32) (by decide) (by decide), wholeB_small (n := 0) (by decide) (by decide),
    show (⟨#[102]⟩ : ByteArray).size = 1 from rfl, venc_lt (by decide)]
  rfl
theorem aw_str : (strOfNums [84, 73, 76, 84, 1, 1, 0, 5, 1, 1, 102, 0, 0, 0, 1, 32, 0, 0]).toList = [84, 73, 76, 84, 1, 1, 0, 5, 1, 1, 102, 0, 0, 0, 1, 32, 0, 0] := by kernel_rfl
theorem aw_len : ¬ 1048576 < (frameF (bodyF awG awF)).length := by rw [frameF_len, aw_body]; decide
theorem aw_tilt : decF [84, 73, 76, 84] = badI := by
  unfold decF
  rw [if_neg (by decide), if_pos (.inl (by decide))]
theorem aw_arg2 : argA [] [⟨⟨#[]⟩, [], 0, [], []⟩] := by
  refine ⟨by decide, by decide, fun f hf => ?_, (fun x hx => by cases hx), fun f hf => ?_⟩
  · rw [List.mem_singleton.1 hf]; exact ⟨by decide, by decide, by decide, by decide⟩
  · rw [List.mem_singleton.1 hf]
    exact ⟨⟨by decide, by decide⟩, (fun x hx => by cases hx), (fun x hx => by cases hx), fun x hx => by cases hx⟩
theorem awake_true : Evt (fun k => tiltyardlaw15_awake.f k) true := by
  obtain ⟨a, ha⟩ := same_refl aw_arg
  refine ⟨a, fun k hk => ?_⟩
  show tiltyardlaw15_awake.f k = some true
  have e1 : image_Encode.f awG awF = some (frameF (bodyF awG awF), 0) := by
    rw [enc_args aw_arg]; unfold encF; rw [if_pos aw_ok, if_neg aw_len]
  have e2 : image_Decode.f (frameF (bodyF awG awF)) = some (awG, awF, 0) := by
    rw [dec_bytes (by have := aw_len; omega) (frame_b _ _), there aw_ok aw_arg.2.2.2 aw_len]
  have e3 : wire_Open.f (frameF (bodyF awG awF)) = some (bodyF awG awF, true) := by
    unfold wire_Open.f; rw [if_pos (by have := aw_len; omega), opF_frame]
  have e4 : image_Decode.f [84, 73, 76, 84] = some badI := by rw [dec_bytes (by decide) (by unfold Bytes; decide), aw_tilt]
  have e5 : image_Right.f [] [⟨⟨#[]⟩, [], 0, [], []⟩] = some 150 := by
    unfold image_Right.f
    rw [enc_args (gs := []) (fs := [⟨⟨#[]⟩, [], 0, [], []⟩]) aw_arg2]
    rfl
  unfold tiltyardlaw15_awake.f
  rw [Option.bind_some, Option.bind_some]
  show (image_Encode.f awG awF).bind _ = _
  rw [e1, Option.bind_some]
  simp only []
  rw [e2, Option.bind_some]
  have e6 : tiltyardref14_Same.f k awG awF awG awF = some true := ha k hk
  show (tiltyardref14_Same.f k awG awF awG awF).bind _ = _
  refine (congrArg (fun o : Option Bool => o.bind _) e6).trans ?_
  rw [Option.bind_some, e3, Option.bind_some, e4, Option.bind_some, if_pos trivial, if_pos rfl, if_pos (by rw [aw_body]; exact aw_str), if_pos rfl, if_pos rfl, if_pos (show badI.2.2 = 150 from rfl), e5, Option.bind_some]
  rfl
theorem awake_r {k : Nat} {r : Bool} (h : tiltyardlaw15_awake.f k = some r) : r = true := by
  obtain ⟨a, ha⟩ := awake_true
  have hm : ∀ d, tiltyardlaw15_awake.f (k + d) = some r := by
    intro d
    induction d with
    | zero => exact h
    | succ d ih => exact tiltyardlaw15_awake.mono (k + d) r ih
  have h1 := hm a
  have h2 : tiltyardlaw15_awake.f (k + a) = some true := ha (k + a) (by omega)
  rw [h2] at h1
  exact (Option.some.inj h1).symm
theorem PIm.tiltyardlaw15_awake.calls (k : Nat) (r : Bool) (w : World) (h : tiltyardlaw15_awake.f k = some r) (hW : Tab w) :
    Calls Tryd.prog 8 #[] w fun e w' => e = .returned (.bool r) ∧ Below w.heap.size w w' := by
  obtain rfl := awake_r h
  exact tiltyardlaw15_awake.calls_true k w h hW
end Go.Proofs.YteidgpaakoeefaaDoor
namespace Go.Proofs.YteidgpaakoeefaaDoor
open Go.RowKit Go.ChangeShapes Go.WideShapes Go.Deep Go.Proofs.YteidgpaakoeefaaDoorW.PrintWords Go.Proofs.YteidgpaakoeefaaDoorW.PrintLast Go.Proofs.YteidgpaakoeefaaDoorW.PrintMore
open Go.ChangeMaps (open_string)
set_option linter.unusedVariables false
set_option linter.unusedSimpArgs false
open PIm
theorem weightsAll_in {H : Type} {P : Program} {e : TypeId} {x : DataW H} : ∀ {l : List (DataW H)}, x ∈ l → ∀ n ∈ x.weights P e, n ∈ DataW.weightsAll P e l
  | [], h, _, _ => by cases h
  | d :: r, h, n, hn => by
    simp only [DataW.weightsAll, List.mem_append]
    rcases List.mem_cons.1 h with rfl | h
    · exact Or.inl hn
    · exact Or.inr (weightsAll_in h n hn)
section
variable {H : Type} {enc : TypeId × Value → H} {W : World} {base : Nat} {held : Bool}
theorem wf_rng {x : Int} (h : (Lit.int .i64 x).wf = true) : rng x := by
  have h1 : IntKind.i64.min ≤ x ∧ x ≤ IntKind.i64.max := by simpa [Lit.wf] using h
  rw [show IntKind.i64.min = -9223372036854775808 by decide, show IntKind.i64.max = 9223372036854775807 by decide] at h1
  exact h1
def Opens (enc : TypeId × Value → H) (W : World) (base : Nat) (held : Bool) (t : TypeId) (n : Nat) {α : Type} (kd : Kd α) (ok : α → Prop) : Prop :=
  ∀ (fuel : Nat) (cs : List Value) (x : DataW H × List MemPlace), DataW.trod enc Tryd.prog W base (fun _ => true) held fuel t cs = some x → cs.length = n → (∀ m ∈ x.1.weights Tryd.prog t, m ≤ reachBytes) → ∃ y, kd.K W y cs ∧ ok y
theorem opens_int : Opens enc W base held 3 1 (Kd.int .i64) rng := by
  intro fuel cs x h hl hw
  match cs, hl with
  | [v], _ =>
    obtain ⟨n, e, _, hwf⟩ := DataW.trod_int Tryd.underlying3 h
    simp only [List.cons.injEq, and_true] at e
    subst e
    exact ⟨n, rfl, wf_rng hwf⟩
theorem opens_slice {α : Type} {t e : TypeId} {n by_ : Nat} {kd : Kd α} {ok : α → Prop} (k : Nat) (ht : Tryd.prog.underlying t = some (.slice e)) (hc : Tryd.prog.cellsOf e = n) (hn : kd.sz = n) (hb : Tryd.prog.bytesOf e = by_) (hb0 : 0 < by_)
    (he : Opens enc W base held e n kd ok) : Opens enc W base held t 1 (Kd.slice k kd) (fun l => l.length ≤ 140737488351232 ∧ ∀ x ∈ l, ok x) := by
  intro fuel cs x hf hl hw
  rcases open_slice ht hf with ⟨hcs, _⟩ | ⟨a, len, cap, m, n', D, Pl, hcs, hba, hle, hm, hmm, hx, hcell⟩
  · subst hcs
    exact ⟨[], ⟨none, 0, rfl, Nat.le_refl _, Kd.C_nil _ _⟩, by simp, by simp⟩
  · subst hcs
    simp only [if_true] at hmm
    subst hmm
    have hsm : len ≤ 140737488351232 := by
      have := hw ((((List.range len).map D).length + ((List.range (m - len)).map fun j => D (len + j)).length) * by_) (by
        rw [hx]
        simp only [DataW.weights, ht, hb]
        exact List.mem_cons_self ..)
      have h2 : reachBytes = 140737488351232 := rfl
      rw [List.length_map, List.length_range] at this
      have h3 : len * 1 ≤ (len + ((List.range (m - len)).map fun j => D (len + j)).length) * by_ := Nat.mul_le_mul (Nat.le_add_right _ _) hb0
      omega
    have each : ∀ i, i < len → ∃ q : α × List Value, W.cells? base (a.add (i * n)) n = some q.2 ∧ kd.K W q.1 q.2 ∧ ok q.1 := fun i hi => by
      obtain ⟨cs', h1, h2⟩ := hcell i (by omega)
      rw [hc] at h1
      obtain ⟨_, hlen, _⟩ := World.cells?_some h1
      obtain ⟨y, hk, hok⟩ := he _ _ _ h2 hlen (fun w hwn => hw w (by
        rw [hx]
        simp only [DataW.weights, ht, List.mem_cons, List.mem_append]
        exact Or.inr (Or.inl (weightsAll_in (List.mem_map.2 ⟨i, by simpa using hi, rfl⟩) w hwn))))
      exact ⟨(y, cs'), h1, hk, hok⟩
    have hne : Nonempty (α × List Value) ∨ len = 0 := by
      by_cases h0 : 0 < len
      · obtain ⟨q, _⟩ := each 0 h0; exact .inl ⟨q⟩
      · exact .inr (by omega)
    rcases hne with hne | h0
    · have : Inhabited (α × List Value) := ⟨Classical.choice hne⟩
      obtain ⟨q, hq⟩ := choose_lt each
      have el : ((List.range len).map fun i => (q i).1).length = len := by simp
      refine ⟨(List.range len).map fun i => (q i).1, ⟨some a, m, by rw [el], by rw [el]; exact hle, ⟨rfl, by rw [el]; omega, fun _ => ⟨a, rfl, fun j p hj => ?_⟩⟩⟩, by rw [el]; exact hsm, fun y hy => ?_⟩
      · have hjl : j < len := by have := (List.getElem?_eq_some_iff.1 hj).1; rw [el] at this; exact this
        rw [List.getElem?_map, List.getElem?_range hjl] at hj
        simp only [Option.map_some, Option.some.injEq] at hj
        subst hj
        obtain ⟨h1, h2, h3⟩ := hq j hjl
        obtain ⟨_, hlen, hcl⟩ := World.cells?_some h1
        refine ⟨(q j).2, by rw [hlen, hn], h2, fun i u hu => ?_⟩
        have hi : i < n := by rw [← hlen]; exact (List.getElem?_eq_some_iff.1 hu).1
        have := hcl i hi
        rw [Go.Deep.add_add, hu] at this
        rw [hn]; exact this
      · obtain ⟨i, hi, rfl⟩ := List.mem_map.1 hy
        exact (hq i (by simpa using hi)).2.2
    · subst h0
      exact ⟨[], ⟨some a, m, rfl, Nat.zero_le _, ⟨rfl, by simp, fun h => absurd h (by simp)⟩⟩, by simp, by simp⟩
set_option maxRecDepth 100000 in
theorem opens_50 : Opens enc W base held 50 3 k50 (fun x => rng x.f0 ∧ rng x.f1 ∧ rng x.f2) := by
  intro fuel cs x h hl hw
  have c1 : Tryd.prog.cellsOf 3 = 1 := by kernel_rfl
  obtain ⟨xs, k, hk, hxy, _, hxl, hfs⟩ := DataW.trod_struct Tryd.underlying50 h
  match xs, hxl, cs, hl with
  | [y0, y1, y2], _, [v0, v1, v2], _ =>
    have g0 := hfs 0 _ rfl
    have g1 := hfs 1 _ rfl
    have g2 := hfs 2 _ rfl
    simp [c1] at g0 g1 g2
    obtain ⟨n0, r0, _, w0⟩ := DataW.trod_int Tryd.underlying3 g0
    obtain ⟨n1, r1, _, w1⟩ := DataW.trod_int Tryd.underlying3 g1
    obtain ⟨n2, r2, _, w2⟩ := DataW.trod_int Tryd.underlying3 g2
    simp only [List.cons.injEq, and_true] at r0 r1 r2
    subst r0; subst r1; subst r2
    exact ⟨⟨n0, n1, n2⟩, k50_mk W ⟨n0, n1, n2⟩, wf_rng w0, wf_rng w1, wf_rng w2⟩
set_option maxRecDepth 100000 in
theorem opens_48 : Opens enc W base held 48 3 k48 (fun x => rng x.f0 ∧ rng x.f1 ∧ rng x.f2) := by
  intro fuel cs x h hl hw
  have c1 : Tryd.prog.cellsOf 3 = 1 := by kernel_rfl
  obtain ⟨xs, k, hk, hxy, _, hxl, hfs⟩ := DataW.trod_struct Tryd.underlying48 h
  match xs, hxl, cs, hl with
  | [y0, y1, y2], _, [v0, v1, v2], _ =>
    have g0 := hfs 0 _ rfl
    have g1 := hfs 1 _ rfl
    have g2 := hfs 2 _ rfl
    simp [c1] at g0 g1 g2
    obtain ⟨n0, r0, _, w0⟩ := DataW.trod_int Tryd.underlying3 g0
    obtain ⟨n1, r1, _, w1⟩ := DataW.trod_int Tryd.underlying3 g1
    obtain ⟨n2, r2, _, w2⟩ := DataW.trod_int Tryd.underlying3 g2
    simp only [List.cons.injEq, and_true] at r0 r1 r2
    subst r0; subst r1; subst r2
    exact ⟨⟨n0, n1, n2⟩, k48_mk W ⟨n0, n1, n2⟩, wf_rng w0, wf_rng w1, wf_rng w2⟩
def okFn (f : S54) : Prop := fnIn f ∧ rng f.f2 ∧ (∀ x ∈ f.f1, rng x) ∧ (∀ x ∈ f.f3, rng x) ∧ ∀ x ∈ f.f4, rng x.f0 ∧ rng x.f1 ∧ rng x.f2
set_option maxRecDepth 100000 in
theorem opens_54 : Opens enc W base held 54 5 k54 okFn := by
  intro fuel cs x h hl hw
  have c1 : Tryd.prog.cellsOf 3 = 1 := by kernel_rfl
  have c2 : Tryd.prog.cellsOf 9 = 1 := by kernel_rfl
  have c3 : Tryd.prog.cellsOf 52 = 1 := by kernel_rfl
  have c4 : Tryd.prog.cellsOf 51 = 1 := by kernel_rfl
  obtain ⟨xs, k, hk, hxy, _, hxl, hfs⟩ := DataW.trod_struct Tryd.underlying54 h
  match xs, hxl, cs, hl with
  | [y0, y1, y2, y3, y4], _, [v0, v1, v2, v3, v4], _ =>
    have g0 := hfs 0 _ rfl
    have g1 := hfs 1 _ rfl
    have g2 := hfs 2 _ rfl
    have g3 := hfs 3 _ rfl
    have g4 := hfs 4 _ rfl
    simp [c1, c2, c3, c4] at g0 g1 g2 g3 g4
    have hwj : ∀ (j : Nat) (d : DataW H) (u : TypeId), ([9, 52, 3, 52, 51] : List TypeId)[j]? = some u → [y0.1, y1.1, y2.1, y3.1, y4.1][j]? = some d → ∀ m ∈ d.weights Tryd.prog u, m ≤ reachBytes := fun j d u hu hd m hm => hw m (by
      have e : x.1 = .agg [y0.1, y1.1, y2.1, y3.1, y4.1] := by have := congrArg Prod.fst hxy; simpa using this
      rw [e]
      simp only [DataW.weights, Tryd.underlying54]
      exact DataW.weights_mem_each (j := j) (by simpa using hu) hd m hm)
    obtain ⟨n0, r0, _, w0⟩ := DataW.trod_string Tryd.underlying9 g0
    obtain ⟨n2, r2, _, w2⟩ := DataW.trod_int Tryd.underlying3 g2
    simp only [List.cons.injEq, and_true] at r0 r2
    subst r0; subst r2
    obtain ⟨n1, ⟨A1, c1_, e1, l1, q1⟩, z1, o1⟩ := opens_slice (kd := Kd.int .i64) (by_ := 8) 3 Tryd.underlying52 c1 rfl (by kernel_rfl) (by decide) opens_int _ _ _ g1 rfl (hwj 1 _ _ rfl rfl)
    obtain ⟨n3, ⟨A3, c3_, e3, l3, q3⟩, z3, o3⟩ := opens_slice (kd := Kd.int .i64) (by_ := 8) 3 Tryd.underlying52 c1 rfl (by kernel_rfl) (by decide) opens_int _ _ _ g3 rfl (hwj 3 _ _ rfl rfl)
    obtain ⟨n4, ⟨A4, c4_, e4, l4, q4⟩, z4, o4⟩ := opens_slice (kd := k50) (n := 3) (by_ := 24) 50 Tryd.underlying51 (by kernel_rfl) rfl (by kernel_rfl) (by decide) opens_50 _ _ _ g4 rfl (hwj 4 _ _ rfl rfl)
    simp only [List.cons.injEq, and_true] at e1 e3 e4
    subst e1; subst e3; subst e4
    have hmm : maxLen = 9223372036854775807 := by decide
    refine ⟨⟨n0, n1, n2, n3, n4⟩, k54_mk W ⟨n0, n1, n2, n3, n4⟩ l1 q1 l3 q3 l4 q4, ⟨by show n0.size ≤ _; omega, by show n1.length ≤ _; omega, by show n3.length ≤ _; omega, by show n4.length ≤ _; omega⟩, wf_rng w2, o1, o3, o4⟩
set_option maxRecDepth 100000 in
/-- An image: two rows, and what is known of them. -/
theorem open_image {ts : List TypeId} {ds : List (DataW H)} {j : Nat} {v : Value} {d : DataW H} {ps : List MemPlace}
    (hsz : (DataW.weightsEach Tryd.prog ts ds).all (· ≤ reachBytes) = true) (ht : ts[j]? = some 25) (hd : ds[j]? = some d) (hv2 : v.cells.size = 2)
    (h : DataW.Trod enc Tryd.prog W base (fun _ => true) held 25 v d ps) : ∃ A0 c0 gs A1 c1 fs, v.cells.toList = [.slice A0 (gs : List S48).length c0, .slice A1 (fs : List S54).length c1] ∧ Kd.C k48 W A0 gs.length gs ∧ gs.length ≤ c0 ∧ Kd.C k54 W A1 fs.length fs ∧ fs.length ≤ c1 ∧ argA gs fs := by
  have hall : ∀ n ∈ d.weights Tryd.prog 25, n ≤ reachBytes := fun n hn => of_decide_eq_true (List.all_eq_true.1 hsz n (DataW.weights_mem_each ht hd n hn))
  obtain ⟨fuel, hf⟩ := h
  have c2 : Tryd.prog.cellsOf 22 = 1 := by kernel_rfl
  have c3 : Tryd.prog.cellsOf 23 = 1 := by kernel_rfl
  obtain ⟨xs, k, hk, hxy, _, hxl, hfs⟩ := DataW.trod_struct Tryd.underlying25 hf
  have hl : v.cells.toList.length = 2 := by rw [Array.length_toList]; exact hv2
  generalize v.cells.toList = cs at hl hf hfs
  match xs, hxl, cs, hl with
  | [y0, y1], _, [v0, v1], _ =>
    have g0 := hfs 0 _ rfl
    have g1 := hfs 1 _ rfl
    simp [c2, c3] at g0 g1
    have hwj : ∀ (j : Nat) (d' : DataW H) (u : TypeId), ([22, 23] : List TypeId)[j]? = some u → [y0.1, y1.1][j]? = some d' → ∀ m ∈ d'.weights Tryd.prog u, m ≤ reachBytes := fun j d' u hu hd' m hm => hall m (by
      have e : d = .agg [y0.1, y1.1] := by have := congrArg Prod.fst hxy; simpa using this
      rw [e]
      simp only [DataW.weights, Tryd.underlying25]
      exact DataW.weights_mem_each (j := j) (by simpa using hu) hd' m hm)
    obtain ⟨n0, ⟨A0, c0_, e0, l0, q0⟩, z0, o0⟩ := opens_slice (kd := k48) (n := 3) (by_ := 24) 48 Tryd.underlying22 (by kernel_rfl) rfl (by kernel_rfl) (by decide) opens_48 _ _ _ g0 rfl (hwj 0 _ _ rfl rfl)
    obtain ⟨n1, ⟨A1, c1_, e1, l1, q1⟩, z1, o1⟩ := opens_slice (kd := k54) (n := 5) (by_ := 96) 54 Tryd.underlying23 (by kernel_rfl) rfl (by kernel_rfl) (by decide) opens_54 _ _ _ g1 rfl (hwj 1 _ _ rfl rfl)
    simp only [List.cons.injEq, and_true] at e0 e1
    subst e0; subst e1
    exact ⟨A0, c0_, n0, A1, c1_, n1, rfl, q0, l0, q1, l1, by omega, by omega, fun f hf => (o1 f hf).1, o0, fun f hf => (o1 f hf).2⟩
end
end Go.Proofs.YteidgpaakoeefaaDoor
namespace Go.Proofs.YteidgpaakoeefaaDoorW.PrintWords
open Go.ChangeShapes Go.WideShapes
theorem sized_ints {H : Type} {enc : TypeId × Value → H} {P : Program} {W : World} {base : Nat} {spare : Nat → Bool} {held : Bool} {t e : TypeId} {k : IntKind} {a : Option Addr} {len cap : Nat} {d : DataW H} {ps : List MemPlace} {ts : List TypeId} {ds : List (DataW H)} {j : Nat}
    (hsz : (DataW.weightsEach P ts ds).all (· ≤ reachBytes) = true) (ht : ts[j]? = some t) (hd : ds[j]? = some d) (hu : P.underlying t = some (.slice e)) (he : P.underlying e = some (.int k)) (hc : P.cellsOf e = 1) {B : Nat} (hB : P.bytesOf e = B)
    (h : DataW.Trod enc P W base spare held t (.slice a len cap) d ps) : len * B ≤ 140737488351232 := by
  obtain ⟨fuel, hf⟩ := h
  rcases open_ints hu he hc hf with ⟨hcs, _⟩ | ⟨x, l, c, zs, hcs, _, hl, _, hz, hx, _, _⟩
  · simp [Value.cells] at hcs
    obtain ⟨rfl, rfl, rfl⟩ := hcs
    simp
  · simp [Value.cells] at hcs
    obtain ⟨rfl, rfl, rfl⟩ := hcs
    obtain ⟨hx, _⟩ := Prod.mk.inj hx
    subst hx
    have z := sized_slice hsz ht hd hu
    rw [hB] at z
    have hl2 : len ≤ zs.length := by
      rw [hz]
      split
      · exact hl
      · exact Nat.le_refl _
    have h1 : (lits (H := H) k (zs.take len)).length + (lits (H := H) k (zs.drop len)).length = zs.length := by
      simp [lits]
      omega
    rw [h1] at z
    exact Nat.le_trans (Nat.mul_le_mul_right _ hl2) z
end Go.Proofs.YteidgpaakoeefaaDoorW.PrintWords
