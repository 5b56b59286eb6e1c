/- The reference's great numbers: Of. -/
import Derived.Test.YtjknihjdhccanaaBig
import Derived.Test.YtjknihjdhccanaaVecA
namespace Go.Proofs.Ytjknihjdhccanaa
open Go.RowKit Go.Proofs.YtjknihjdhccanaaW.PrintWords Go.Proofs.YtjknihjdhccanaaW.PrintLast Go.Proofs.YtjknihjdhccanaaW.PrintMore
set_option linter.unusedVariables false
set_option linter.unusedSimpArgs false
set_option maxHeartbeats 4000000 in
set_option maxRecDepth 100000 in
theorem of_pos (n : Int) (w : World) (hn : I64 n) (h0 : 0 ≤ n) :
    Calls Try.prog 54 #[.int .i64 n] w
      fun e w' => ∃ D, e = .returned (.agg (bigA false D)) ∧ Rep D (n.natAbs : Int) ∧ Below w.heap.size w w' := by
  have HB := Aside0.mk (Below.refl w.heap.size w)
  have h1 := hn.2; have h2 := hn.1
  obtain ⟨U, hU⟩ : ∃ U, U = (n.natAbs : Int) := ⟨_, rfl⟩
  have hU0 : 0 ≤ U := by omega
  have hU1 : U ≤ 9223372036854775808 := by omega
  have hw : n = U := by omega
  rw [← hU]
  have HW := Lib.hid hw; have HU := Lib.hid hU
  clear hw hU
  go_enter Try.func54, Try.ntmps54
  go_wp2_with (first | ((with_reducible refine gate_dst (N := 2) rfl ?_); refine box_event ?hg (N := 2) ?hd (cs := #[.bool false, .int .i64 0, .int .i64 0, .int .i64 0, .int .i64 0, .int .i64 0, .int .i64 0, .int .i64 0, .int .i64 0]) (t := 52) ?hr ?_; (case hd => rfl); (case hg => rfl); (case hr => first | (go_simp; done) | (go_simp; rfl)); intro g1 hg_ W1 hbox_ hb_; have GEg1 := Aside0.mk ((by rw [hg_]; exact (below_size HB.out)) : w.heap.size ≤ g1); clear hg_; have n_ := Aside0.mk (below_step HB.out hb_); clear HB; have HB := n_; clear n_; have BKg1 := Aside0.mk hbox_; clear hbox_ hb_; have hcg1_0 : W1.cell? ⟨g1, 0, none⟩ = some (.bool false) := (blk_cell BKg1.out 0).trans rfl; have hfg1_0 := blk_frozen BKg1.out 0; have hcg1_1 : W1.cell? ⟨g1, 1, none⟩ = some (.int .i64 0) := (blk_cell BKg1.out 1).trans rfl; have hfg1_1 := blk_frozen BKg1.out 1; have hcg1_2 : W1.cell? ⟨g1, 2, none⟩ = some (.int .i64 0) := (blk_cell BKg1.out 2).trans rfl; have hfg1_2 := blk_frozen BKg1.out 2; have hcg1_3 : W1.cell? ⟨g1, 3, none⟩ = some (.int .i64 0) := (blk_cell BKg1.out 3).trans rfl; have hfg1_3 := blk_frozen BKg1.out 3; have hcg1_4 : W1.cell? ⟨g1, 4, none⟩ = some (.int .i64 0) := (blk_cell BKg1.out 4).trans rfl; have hfg1_4 := blk_frozen BKg1.out 4; have hcg1_5 : W1.cell? ⟨g1, 5, none⟩ = some (.int .i64 0) := (blk_cell BKg1.out 5).trans rfl; have hfg1_5 := blk_frozen BKg1.out 5; have hcg1_6 : W1.cell? ⟨g1, 6, none⟩ = some (.int .i64 0) := (blk_cell BKg1.out 6).trans rfl; have hfg1_6 := blk_frozen BKg1.out 6; have hcg1_7 : W1.cell? ⟨g1, 7, none⟩ = some (.int .i64 0) := (blk_cell BKg1.out 7).trans rfl; have hfg1_7 := blk_frozen BKg1.out 7; have hcg1_8 : W1.cell? ⟨g1, 8, none⟩ = some (.int .i64 0) := (blk_cell BKg1.out 8).trans rfl; have hfg1_8 := blk_frozen BKg1.out 8) | ((with_reducible refine gate_dst (N := 3) rfl ?_); refine box_event ?hg (N := 3) ?hd (cs := #[.bool false, .int .i64 0, .int .i64 0, .int .i64 0, .int .i64 0, .int .i64 0, .int .i64 0, .int .i64 0, .int .i64 0]) (t := 52) ?hr ?_; (case hd => rfl); (case hg => rfl); (case hr => first | (go_simp; done) | (go_simp; rfl)); intro g2 hg_ W2 hbox_ hb_; have GEg2 := Aside0.mk ((by rw [hg_]; exact (below_size HB.out)) : w.heap.size ≤ g2); have NBg1_g2 : g1 ≠ g2 := (by rw [hg_]; exact Nat.ne_of_lt (blk_lt BKg1.out)); have NBg2_g1 : g2 ≠ g1 := Ne.symm NBg1_g2; clear hg_; have n_ := Aside0.mk (blk_below BKg1.out hb_); clear BKg1; have BKg1 := n_; clear n_; clear hcg1_0 hfg1_0; clear hcg1_1 hfg1_1; clear hcg1_2 hfg1_2; clear hcg1_3 hfg1_3; clear hcg1_4 hfg1_4; clear hcg1_5 hfg1_5; clear hcg1_6 hfg1_6; clear hcg1_7 hfg1_7; clear hcg1_8 hfg1_8; have n_ := Aside0.mk (below_step HB.out hb_); clear HB; have HB := n_; clear n_; have BKg2 := Aside0.mk hbox_; clear hbox_ hb_; have hcg1_0 : W2.cell? ⟨g1, 0, none⟩ = some (.bool false) := (blk_cell BKg1.out 0).trans rfl; have hfg1_0 := blk_frozen BKg1.out 0; have hcg1_1 : W2.cell? ⟨g1, 1, none⟩ = some (.int .i64 0) := (blk_cell BKg1.out 1).trans rfl; have hfg1_1 := blk_frozen BKg1.out 1; have hcg1_2 : W2.cell? ⟨g1, 2, none⟩ = some (.int .i64 0) := (blk_cell BKg1.out 2).trans rfl; have hfg1_2 := blk_frozen BKg1.out 2; have hcg1_3 : W2.cell? ⟨g1, 3, none⟩ = some (.int .i64 0) := (blk_cell BKg1.out 3).trans rfl; have hfg1_3 := blk_frozen BKg1.out 3; have hcg1_4 : W2.cell? ⟨g1, 4, none⟩ = some (.int .i64 0) := (blk_cell BKg1.out 4).trans rfl; have hfg1_4 := blk_frozen BKg1.out 4; have hcg1_5 : W2.cell? ⟨g1, 5, none⟩ = some (.int .i64 0) := (blk_cell BKg1.out 5).trans rfl; have hfg1_5 := blk_frozen BKg1.out 5; have hcg1_6 : W2.cell? ⟨g1, 6, none⟩ = some (.int .i64 0) := (blk_cell BKg1.out 6).trans rfl; have hfg1_6 := blk_frozen BKg1.out 6; have hcg1_7 : W2.cell? ⟨g1, 7, none⟩ = some (.int .i64 0) := (blk_cell BKg1.out 7).trans rfl; have hfg1_7 := blk_frozen BKg1.out 7; have hcg1_8 : W2.cell? ⟨g1, 8, none⟩ = some (.int .i64 0) := (blk_cell BKg1.out 8).trans rfl; have hfg1_8 := blk_frozen BKg1.out 8; have hcg2_0 : W2.cell? ⟨g2, 0, none⟩ = some (.bool false) := (blk_cell BKg2.out 0).trans rfl; have hfg2_0 := blk_frozen BKg2.out 0; have hcg2_1 : W2.cell? ⟨g2, 1, none⟩ = some (.int .i64 0) := (blk_cell BKg2.out 1).trans rfl; have hfg2_1 := blk_frozen BKg2.out 1; have hcg2_2 : W2.cell? ⟨g2, 2, none⟩ = some (.int .i64 0) := (blk_cell BKg2.out 2).trans rfl; have hfg2_2 := blk_frozen BKg2.out 2; have hcg2_3 : W2.cell? ⟨g2, 3, none⟩ = some (.int .i64 0) := (blk_cell BKg2.out 3).trans rfl; have hfg2_3 := blk_frozen BKg2.out 3; have hcg2_4 : W2.cell? ⟨g2, 4, none⟩ = some (.int .i64 0) := (blk_cell BKg2.out 4).trans rfl; have hfg2_4 := blk_frozen BKg2.out 4; have hcg2_5 : W2.cell? ⟨g2, 5, none⟩ = some (.int .i64 0) := (blk_cell BKg2.out 5).trans rfl; have hfg2_5 := blk_frozen BKg2.out 5; have hcg2_6 : W2.cell? ⟨g2, 6, none⟩ = some (.int .i64 0) := (blk_cell BKg2.out 6).trans rfl; have hfg2_6 := blk_frozen BKg2.out 6; have hcg2_7 : W2.cell? ⟨g2, 7, none⟩ = some (.int .i64 0) := (blk_cell BKg2.out 7).trans rfl; have hfg2_7 := blk_frozen BKg2.out 7; have hcg2_8 : W2.cell? ⟨g2, 8, none⟩ = some (.int .i64 0) := (blk_cell BKg2.out 8).trans rfl; have hfg2_8 := blk_frozen BKg2.out 8))
  try rw [HW.out]
  have cc : ∀ (D : Nat → Int), (bigA false D) = #[.bool false, .int .i64 (D 0), .int .i64 (D 1), .int .i64 (D 2), .int .i64 (D 3), .int .i64 (D 4), .int .i64 (D 5), .int .i64 (D 6), .int .i64 (D 7)] := fun _ => rfl
  have CC := Lib.hid cc; clear cc
  go_loopw [4, 5] (fun vu vi wr => ∃ (k : Nat) (X : Int) (D : Nat → Int), vu = .int .u64 X ∧ vi = .int .i64 k ∧ Aside0 (OfRel U k X D) ∧ Aside0 (wr.heap[g2]? = some (.cells (bigA false D) 52 (0, 0))) ∧ Aside0 (wr.heap[g1]? = some (.cells #[.bool false, .int .i64 0, .int .i64 0, .int .i64 0, .int .i64 0, .int .i64 0, .int .i64 0, .int .i64 0, .int .i64 0] 52 (0, 0))) ∧ Aside0 (Below w.heap.size w wr)) (fun _ vi _ => 4 - (intOf vi).toNat)
  case atStart => exact ⟨0, U, (fun _ => 0), rfl, rfl, ⟨OfRel.start hU0⟩, BKg2, BKg1, HB⟩
  case round =>
    clear BKg1 BKg2 HB hcg1_0 hfg1_0 hcg1_1 hfg1_1 hcg1_2 hfg1_2 hcg1_3 hfg1_3 hcg1_4 hfg1_4 hcg1_5 hfg1_5 hcg1_6 hfg1_6 hcg1_7 hfg1_7 hcg1_8 hfg1_8 hcg2_0 hfg2_0 hcg2_1 hfg2_1 hcg2_2 hfg2_2 hcg2_3 hfg2_3 hcg2_4 hfg2_4 hcg2_5 hfg2_5 hcg2_6 hfg2_6 hcg2_7 hfg2_7 hcg2_8 hfg2_8
    obtain ⟨k, X, D, rfl, rfl, HR, BKg2, BKg1, HB⟩ := hrel
    have hk4 := HR.out.k4; have hX0 := HR.out.pos; have hX1 := HR.out.bound (by omega)
    by_cases hlt : k < 4
    · have hc : wr.cell? ⟨g2, 1 + k, none⟩ = some (.int .i64 (D k)) := (blk_cell BKg2.out (1 + k)).trans (big_get false D (by omega))
      have hf := blk_frozen BKg2.out (1 + k)
      go_wp2
      exact ⟨⟨k + 1, X / 65536, upd D k (X % 65536), rfl, rfl, ⟨HR.out.step hlt⟩, ⟨blk_put BKg2.out (1 + k) _ (big_set false D (by omega) _)⟩, ⟨blk_far BKg1.out NBg1_g2 _⟩, ⟨below_set HB.out GEg2.out⟩⟩, by simp [intOf]; omega⟩
    · have e : k = 4 := by omega
      subst e
      have hrep := HR.out.done (by omega)
      have hc1_0 : wr.cell? ⟨g1, 0, none⟩ = some (.bool false) := (blk_cell BKg1.out 0).trans rfl; have hf1_0 := blk_frozen BKg1.out 0
      have hc1_1 : wr.cell? ⟨g1, 1, none⟩ = some (.int .i64 0) := (blk_cell BKg1.out 1).trans rfl; have hf1_1 := blk_frozen BKg1.out 1
      have hc1_2 : wr.cell? ⟨g1, 2, none⟩ = some (.int .i64 0) := (blk_cell BKg1.out 2).trans rfl; have hf1_2 := blk_frozen BKg1.out 2
      have hc1_3 : wr.cell? ⟨g1, 3, none⟩ = some (.int .i64 0) := (blk_cell BKg1.out 3).trans rfl; have hf1_3 := blk_frozen BKg1.out 3
      have hc1_4 : wr.cell? ⟨g1, 4, none⟩ = some (.int .i64 0) := (blk_cell BKg1.out 4).trans rfl; have hf1_4 := blk_frozen BKg1.out 4
      have hc1_5 : wr.cell? ⟨g1, 5, none⟩ = some (.int .i64 0) := (blk_cell BKg1.out 5).trans rfl; have hf1_5 := blk_frozen BKg1.out 5
      have hc1_6 : wr.cell? ⟨g1, 6, none⟩ = some (.int .i64 0) := (blk_cell BKg1.out 6).trans rfl; have hf1_6 := blk_frozen BKg1.out 6
      have hc1_7 : wr.cell? ⟨g1, 7, none⟩ = some (.int .i64 0) := (blk_cell BKg1.out 7).trans rfl; have hf1_7 := blk_frozen BKg1.out 7
      have hc1_8 : wr.cell? ⟨g1, 8, none⟩ = some (.int .i64 0) := (blk_cell BKg1.out 8).trans rfl; have hf1_8 := blk_frozen BKg1.out 8
      have hc2_0 : wr.cell? ⟨g2, 0, none⟩ = some (.bool false) := (blk_cell BKg2.out 0).trans rfl
      have hc2_1 : wr.cell? ⟨g2, 1, none⟩ = some (.int .i64 (D 0)) := (blk_cell BKg2.out 1).trans rfl
      have hc2_2 : wr.cell? ⟨g2, 2, none⟩ = some (.int .i64 (D 1)) := (blk_cell BKg2.out 2).trans rfl
      have hc2_3 : wr.cell? ⟨g2, 3, none⟩ = some (.int .i64 (D 2)) := (blk_cell BKg2.out 3).trans rfl
      have hc2_4 : wr.cell? ⟨g2, 4, none⟩ = some (.int .i64 (D 3)) := (blk_cell BKg2.out 4).trans rfl
      have hc2_5 : wr.cell? ⟨g2, 5, none⟩ = some (.int .i64 (D 4)) := (blk_cell BKg2.out 5).trans rfl
      have hc2_6 : wr.cell? ⟨g2, 6, none⟩ = some (.int .i64 (D 5)) := (blk_cell BKg2.out 6).trans rfl
      have hc2_7 : wr.cell? ⟨g2, 7, none⟩ = some (.int .i64 (D 6)) := (blk_cell BKg2.out 7).trans rfl
      have hc2_8 : wr.cell? ⟨g2, 8, none⟩ = some (.int .i64 (D 7)) := (blk_cell BKg2.out 8).trans rfl
      go_wp2
      refine bodyPost_ret (results_cell_row rfl _ _ g1 52 #[.bool false, .int .i64 (D 0), .int .i64 (D 1), .int .i64 (D 2), .int .i64 (D 3), .int .i64 (D 4), .int .i64 (D 5), .int .i64 (D 6), .int .i64 (D 7)] (0, 0) _ rfl (by (with_reducible repeat (first | refine blk_drewN ?_ _ | refine blk_drew ?_ | refine blk_alloc ?_ _)); refine blk_put (cs := #[.bool false, .int .i64 (D 0), .int .i64 (D 1), .int .i64 (D 2), .int .i64 (D 3), .int .i64 (D 4), .int .i64 (D 5), .int .i64 (D 6), .int .i64 0]) ?_ 8 _ rfl; (with_reducible repeat (first | refine blk_drewN ?_ _ | refine blk_drew ?_ | refine blk_alloc ?_ _)); refine blk_put (cs := #[.bool false, .int .i64 (D 0), .int .i64 (D 1), .int .i64 (D 2), .int .i64 (D 3), .int .i64 (D 4), .int .i64 (D 5), .int .i64 0, .int .i64 0]) ?_ 7 _ rfl; (with_reducible repeat (first | refine blk_drewN ?_ _ | refine blk_drew ?_ | refine blk_alloc ?_ _)); refine blk_put (cs := #[.bool false, .int .i64 (D 0), .int .i64 (D 1), .int .i64 (D 2), .int .i64 (D 3), .int .i64 (D 4), .int .i64 0, .int .i64 0, .int .i64 0]) ?_ 6 _ rfl; (with_reducible repeat (first | refine blk_drewN ?_ _ | refine blk_drew ?_ | refine blk_alloc ?_ _)); refine blk_put (cs := #[.bool false, .int .i64 (D 0), .int .i64 (D 1), .int .i64 (D 2), .int .i64 (D 3), .int .i64 0, .int .i64 0, .int .i64 0, .int .i64 0]) ?_ 5 _ rfl; (with_reducible repeat (first | refine blk_drewN ?_ _ | refine blk_drew ?_ | refine blk_alloc ?_ _)); refine blk_put (cs := #[.bool false, .int .i64 (D 0), .int .i64 (D 1), .int .i64 (D 2), .int .i64 0, .int .i64 0, .int .i64 0, .int .i64 0, .int .i64 0]) ?_ 4 _ rfl; (with_reducible repeat (first | refine blk_drewN ?_ _ | refine blk_drew ?_ | refine blk_alloc ?_ _)); refine blk_put (cs := #[.bool false, .int .i64 (D 0), .int .i64 (D 1), .int .i64 0, .int .i64 0, .int .i64 0, .int .i64 0, .int .i64 0, .int .i64 0]) ?_ 3 _ rfl; (with_reducible repeat (first | refine blk_drewN ?_ _ | refine blk_drew ?_ | refine blk_alloc ?_ _)); refine blk_put (cs := #[.bool false, .int .i64 (D 0), .int .i64 0, .int .i64 0, .int .i64 0, .int .i64 0, .int .i64 0, .int .i64 0, .int .i64 0]) ?_ 2 _ rfl; (with_reducible repeat (first | refine blk_drewN ?_ _ | refine blk_drew ?_ | refine blk_alloc ?_ _)); refine blk_put (cs := #[.bool false, .int .i64 0, .int .i64 0, .int .i64 0, .int .i64 0, .int .i64 0, .int .i64 0, .int .i64 0, .int .i64 0]) ?_ 1 _ rfl; (with_reducible repeat (first | refine blk_drewN ?_ _ | refine blk_drew ?_ | refine blk_alloc ?_ _)); refine blk_put (cs := #[.bool false, .int .i64 0, .int .i64 0, .int .i64 0, .int .i64 0, .int .i64 0, .int .i64 0, .int .i64 0, .int .i64 0]) ?_ 0 _ rfl; (with_reducible repeat (first | refine blk_drewN ?_ _ | refine blk_drew ?_ | refine blk_alloc ?_ _)); exact BKg1.out) Try.underlying52 rfl (by kernel_rfl)) rfl ?_
      exact ⟨D, rfl, hrep, by repeat (first | (with_reducible first | exact HB.out | apply below_alloc | apply pw_below_drewN | apply below_drew1 | refine below_set ?_ GEg1.out) | exact HB.out)⟩
set_option maxHeartbeats 4000000 in
set_option maxRecDepth 100000 in
theorem of_neg (n : Int) (w : World) (hn : I64 n) (h0 : n < 0) :
    Calls Try.prog 54 #[.int .i64 n] w
      fun e w' => ∃ D, e = .returned (.agg (bigA true D)) ∧ Rep D (n.natAbs : Int) ∧ Below w.heap.size w w' := by
  have HB := Aside0.mk (Below.refl w.heap.size w)
  have h1 := hn.2; have h2 := hn.1
  obtain ⟨U, hU⟩ : ∃ U, U = (n.natAbs : Int) := ⟨_, rfl⟩
  have hU0 : 0 ≤ U := by omega
  have hU1 : U ≤ 9223372036854775808 := by omega
  have hw : IntKind.u64.wrap (-(IntKind.u64.wrap n)) = U := by simp only [IntKind.wrap_u64]; omega
  rw [← hU]
  have HW := Lib.hid hw; have HU := Lib.hid hU
  clear hw hU
  go_enter Try.func54, Try.ntmps54
  go_wp2_with (first | ((with_reducible refine gate_dst (N := 2) rfl ?_); refine box_event ?hg (N := 2) ?hd (cs := #[.bool false, .int .i64 0, .int .i64 0, .int .i64 0, .int .i64 0, .int .i64 0, .int .i64 0, .int .i64 0, .int .i64 0]) (t := 52) ?hr ?_; (case hd => rfl); (case hg => rfl); (case hr => first | (go_simp; done) | (go_simp; rfl)); intro g1 hg_ W1 hbox_ hb_; have GEg1 := Aside0.mk ((by rw [hg_]; exact (below_size HB.out)) : w.heap.size ≤ g1); clear hg_; have n_ := Aside0.mk (below_step HB.out hb_); clear HB; have HB := n_; clear n_; have BKg1 := Aside0.mk hbox_; clear hbox_ hb_; have hcg1_0 : W1.cell? ⟨g1, 0, none⟩ = some (.bool false) := (blk_cell BKg1.out 0).trans rfl; have hfg1_0 := blk_frozen BKg1.out 0; have hcg1_1 : W1.cell? ⟨g1, 1, none⟩ = some (.int .i64 0) := (blk_cell BKg1.out 1).trans rfl; have hfg1_1 := blk_frozen BKg1.out 1; have hcg1_2 : W1.cell? ⟨g1, 2, none⟩ = some (.int .i64 0) := (blk_cell BKg1.out 2).trans rfl; have hfg1_2 := blk_frozen BKg1.out 2; have hcg1_3 : W1.cell? ⟨g1, 3, none⟩ = some (.int .i64 0) := (blk_cell BKg1.out 3).trans rfl; have hfg1_3 := blk_frozen BKg1.out 3; have hcg1_4 : W1.cell? ⟨g1, 4, none⟩ = some (.int .i64 0) := (blk_cell BKg1.out 4).trans rfl; have hfg1_4 := blk_frozen BKg1.out 4; have hcg1_5 : W1.cell? ⟨g1, 5, none⟩ = some (.int .i64 0) := (blk_cell BKg1.out 5).trans rfl; have hfg1_5 := blk_frozen BKg1.out 5; have hcg1_6 : W1.cell? ⟨g1, 6, none⟩ = some (.int .i64 0) := (blk_cell BKg1.out 6).trans rfl; have hfg1_6 := blk_frozen BKg1.out 6; have hcg1_7 : W1.cell? ⟨g1, 7, none⟩ = some (.int .i64 0) := (blk_cell BKg1.out 7).trans rfl; have hfg1_7 := blk_frozen BKg1.out 7; have hcg1_8 : W1.cell? ⟨g1, 8, none⟩ = some (.int .i64 0) := (blk_cell BKg1.out 8).trans rfl; have hfg1_8 := blk_frozen BKg1.out 8) | ((with_reducible refine gate_dst (N := 3) rfl ?_); refine box_event ?hg (N := 3) ?hd (cs := #[.bool false, .int .i64 0, .int .i64 0, .int .i64 0, .int .i64 0, .int .i64 0, .int .i64 0, .int .i64 0, .int .i64 0]) (t := 52) ?hr ?_; (case hd => rfl); (case hg => rfl); (case hr => first | (go_simp; done) | (go_simp; rfl)); intro g2 hg_ W2 hbox_ hb_; have GEg2 := Aside0.mk ((by rw [hg_]; exact (below_size HB.out)) : w.heap.size ≤ g2); have NBg1_g2 : g1 ≠ g2 := (by rw [hg_]; exact Nat.ne_of_lt (blk_lt BKg1.out)); have NBg2_g1 : g2 ≠ g1 := Ne.symm NBg1_g2; clear hg_; have n_ := Aside0.mk (blk_below BKg1.out hb_); clear BKg1; have BKg1 := n_; clear n_; clear hcg1_0 hfg1_0; clear hcg1_1 hfg1_1; clear hcg1_2 hfg1_2; clear hcg1_3 hfg1_3; clear hcg1_4 hfg1_4; clear hcg1_5 hfg1_5; clear hcg1_6 hfg1_6; clear hcg1_7 hfg1_7; clear hcg1_8 hfg1_8; have n_ := Aside0.mk (below_step HB.out hb_); clear HB; have HB := n_; clear n_; have BKg2 := Aside0.mk hbox_; clear hbox_ hb_; have hcg1_0 : W2.cell? ⟨g1, 0, none⟩ = some (.bool false) := (blk_cell BKg1.out 0).trans rfl; have hfg1_0 := blk_frozen BKg1.out 0; have hcg1_1 : W2.cell? ⟨g1, 1, none⟩ = some (.int .i64 0) := (blk_cell BKg1.out 1).trans rfl; have hfg1_1 := blk_frozen BKg1.out 1; have hcg1_2 : W2.cell? ⟨g1, 2, none⟩ = some (.int .i64 0) := (blk_cell BKg1.out 2).trans rfl; have hfg1_2 := blk_frozen BKg1.out 2; have hcg1_3 : W2.cell? ⟨g1, 3, none⟩ = some (.int .i64 0) := (blk_cell BKg1.out 3).trans rfl; have hfg1_3 := blk_frozen BKg1.out 3; have hcg1_4 : W2.cell? ⟨g1, 4, none⟩ = some (.int .i64 0) := (blk_cell BKg1.out 4).trans rfl; have hfg1_4 := blk_frozen BKg1.out 4; have hcg1_5 : W2.cell? ⟨g1, 5, none⟩ = some (.int .i64 0) := (blk_cell BKg1.out 5).trans rfl; have hfg1_5 := blk_frozen BKg1.out 5; have hcg1_6 : W2.cell? ⟨g1, 6, none⟩ = some (.int .i64 0) := (blk_cell BKg1.out 6).trans rfl; have hfg1_6 := blk_frozen BKg1.out 6; have hcg1_7 : W2.cell? ⟨g1, 7, none⟩ = some (.int .i64 0) := (blk_cell BKg1.out 7).trans rfl; have hfg1_7 := blk_frozen BKg1.out 7; have hcg1_8 : W2.cell? ⟨g1, 8, none⟩ = some (.int .i64 0) := (blk_cell BKg1.out 8).trans rfl; have hfg1_8 := blk_frozen BKg1.out 8; have hcg2_0 : W2.cell? ⟨g2, 0, none⟩ = some (.bool false) := (blk_cell BKg2.out 0).trans rfl; have hfg2_0 := blk_frozen BKg2.out 0; have hcg2_1 : W2.cell? ⟨g2, 1, none⟩ = some (.int .i64 0) := (blk_cell BKg2.out 1).trans rfl; have hfg2_1 := blk_frozen BKg2.out 1; have hcg2_2 : W2.cell? ⟨g2, 2, none⟩ = some (.int .i64 0) := (blk_cell BKg2.out 2).trans rfl; have hfg2_2 := blk_frozen BKg2.out 2; have hcg2_3 : W2.cell? ⟨g2, 3, none⟩ = some (.int .i64 0) := (blk_cell BKg2.out 3).trans rfl; have hfg2_3 := blk_frozen BKg2.out 3; have hcg2_4 : W2.cell? ⟨g2, 4, none⟩ = some (.int .i64 0) := (blk_cell BKg2.out 4).trans rfl; have hfg2_4 := blk_frozen BKg2.out 4; have hcg2_5 : W2.cell? ⟨g2, 5, none⟩ = some (.int .i64 0) := (blk_cell BKg2.out 5).trans rfl; have hfg2_5 := blk_frozen BKg2.out 5; have hcg2_6 : W2.cell? ⟨g2, 6, none⟩ = some (.int .i64 0) := (blk_cell BKg2.out 6).trans rfl; have hfg2_6 := blk_frozen BKg2.out 6; have hcg2_7 : W2.cell? ⟨g2, 7, none⟩ = some (.int .i64 0) := (blk_cell BKg2.out 7).trans rfl; have hfg2_7 := blk_frozen BKg2.out 7; have hcg2_8 : W2.cell? ⟨g2, 8, none⟩ = some (.int .i64 0) := (blk_cell BKg2.out 8).trans rfl; have hfg2_8 := blk_frozen BKg2.out 8))
  have n_ : Aside0 ((W2.setCell ⟨g2, 0, none⟩ (.bool true)).heap[g2]? = some (.cells #[.bool true, .int .i64 0, .int .i64 0, .int .i64 0, .int .i64 0, .int .i64 0, .int .i64 0, .int .i64 0, .int .i64 0] 52 (0, 0))) := ⟨by refine blk_put (cs := #[.bool false, .int .i64 0, .int .i64 0, .int .i64 0, .int .i64 0, .int .i64 0, .int .i64 0, .int .i64 0, .int .i64 0]) ?_ 0 _ rfl; exact BKg2.out⟩
  have m_ : Aside0 ((W2.setCell ⟨g2, 0, none⟩ (.bool true)).heap[g1]? = some (.cells #[.bool false, .int .i64 0, .int .i64 0, .int .i64 0, .int .i64 0, .int .i64 0, .int .i64 0, .int .i64 0, .int .i64 0] 52 (0, 0))) := ⟨(blk_far BKg1.out NBg1_g2 _)⟩
  clear BKg1; have BKg1 := m_; clear m_
  have b_ : Aside0 (Below w.heap.size w (W2.setCell ⟨g2, 0, none⟩ (.bool true))) := ⟨(below_set HB.out GEg2.out)⟩
  clear BKg2 HB; have BKg2 := n_; have HB := b_; clear n_ b_
  clear hcg1_0 hfg1_0
  clear hcg1_1 hfg1_1
  clear hcg1_2 hfg1_2
  clear hcg1_3 hfg1_3
  clear hcg1_4 hfg1_4
  clear hcg1_5 hfg1_5
  clear hcg1_6 hfg1_6
  clear hcg1_7 hfg1_7
  clear hcg1_8 hfg1_8
  clear hcg2_0 hfg2_0
  clear hcg2_1 hfg2_1
  clear hcg2_2 hfg2_2
  clear hcg2_3 hfg2_3
  clear hcg2_4 hfg2_4
  clear hcg2_5 hfg2_5
  clear hcg2_6 hfg2_6
  clear hcg2_7 hfg2_7
  clear hcg2_8 hfg2_8
  generalize (W2.setCell ⟨g2, 0, none⟩ (.bool true)) = W3 at *
  have hcg1_0 : W3.cell? ⟨g1, 0, none⟩ = some (.bool false) := (blk_cell BKg1.out 0).trans rfl
  have hfg1_0 := blk_frozen BKg1.out 0
  have hcg1_1 : W3.cell? ⟨g1, 1, none⟩ = some (.int .i64 0) := (blk_cell BKg1.out 1).trans rfl
  have hfg1_1 := blk_frozen BKg1.out 1
  have hcg1_2 : W3.cell? ⟨g1, 2, none⟩ = some (.int .i64 0) := (blk_cell BKg1.out 2).trans rfl
  have hfg1_2 := blk_frozen BKg1.out 2
  have hcg1_3 : W3.cell? ⟨g1, 3, none⟩ = some (.int .i64 0) := (blk_cell BKg1.out 3).trans rfl
  have hfg1_3 := blk_frozen BKg1.out 3
  have hcg1_4 : W3.cell? ⟨g1, 4, none⟩ = some (.int .i64 0) := (blk_cell BKg1.out 4).trans rfl
  have hfg1_4 := blk_frozen BKg1.out 4
  have hcg1_5 : W3.cell? ⟨g1, 5, none⟩ = some (.int .i64 0) := (blk_cell BKg1.out 5).trans rfl
  have hfg1_5 := blk_frozen BKg1.out 5
  have hcg1_6 : W3.cell? ⟨g1, 6, none⟩ = some (.int .i64 0) := (blk_cell BKg1.out 6).trans rfl
  have hfg1_6 := blk_frozen BKg1.out 6
  have hcg1_7 : W3.cell? ⟨g1, 7, none⟩ = some (.int .i64 0) := (blk_cell BKg1.out 7).trans rfl
  have hfg1_7 := blk_frozen BKg1.out 7
  have hcg1_8 : W3.cell? ⟨g1, 8, none⟩ = some (.int .i64 0) := (blk_cell BKg1.out 8).trans rfl
  have hfg1_8 := blk_frozen BKg1.out 8
  have hcg2_0 : W3.cell? ⟨g2, 0, none⟩ = some (.bool true) := (blk_cell BKg2.out 0).trans rfl
  have hfg2_0 := blk_frozen BKg2.out 0
  have hcg2_1 : W3.cell? ⟨g2, 1, none⟩ = some (.int .i64 0) := (blk_cell BKg2.out 1).trans rfl
  have hfg2_1 := blk_frozen BKg2.out 1
  have hcg2_2 : W3.cell? ⟨g2, 2, none⟩ = some (.int .i64 0) := (blk_cell BKg2.out 2).trans rfl
  have hfg2_2 := blk_frozen BKg2.out 2
  have hcg2_3 : W3.cell? ⟨g2, 3, none⟩ = some (.int .i64 0) := (blk_cell BKg2.out 3).trans rfl
  have hfg2_3 := blk_frozen BKg2.out 3
  have hcg2_4 : W3.cell? ⟨g2, 4, none⟩ = some (.int .i64 0) := (blk_cell BKg2.out 4).trans rfl
  have hfg2_4 := blk_frozen BKg2.out 4
  have hcg2_5 : W3.cell? ⟨g2, 5, none⟩ = some (.int .i64 0) := (blk_cell BKg2.out 5).trans rfl
  have hfg2_5 := blk_frozen BKg2.out 5
  have hcg2_6 : W3.cell? ⟨g2, 6, none⟩ = some (.int .i64 0) := (blk_cell BKg2.out 6).trans rfl
  have hfg2_6 := blk_frozen BKg2.out 6
  have hcg2_7 : W3.cell? ⟨g2, 7, none⟩ = some (.int .i64 0) := (blk_cell BKg2.out 7).trans rfl
  have hfg2_7 := blk_frozen BKg2.out 7
  have hcg2_8 : W3.cell? ⟨g2, 8, none⟩ = some (.int .i64 0) := (blk_cell BKg2.out 8).trans rfl
  have hfg2_8 := blk_frozen BKg2.out 8
  try rw [HW.out]
  have cc : ∀ (D : Nat → Int), (bigA true D) = #[.bool true, .int .i64 (D 0), .int .i64 (D 1), .int .i64 (D 2), .int .i64 (D 3), .int .i64 (D 4), .int .i64 (D 5), .int .i64 (D 6), .int .i64 (D 7)] := fun _ => rfl
  have CC := Lib.hid cc; clear cc
  go_loopw [4, 5] (fun vu vi wr => ∃ (k : Nat) (X : Int) (D : Nat → Int), vu = .int .u64 X ∧ vi = .int .i64 k ∧ Aside0 (OfRel U k X D) ∧ Aside0 (wr.heap[g2]? = some (.cells (bigA true D) 52 (0, 0))) ∧ Aside0 (wr.heap[g1]? = some (.cells #[.bool false, .int .i64 0, .int .i64 0, .int .i64 0, .int .i64 0, .int .i64 0, .int .i64 0, .int .i64 0, .int .i64 0] 52 (0, 0))) ∧ Aside0 (Below w.heap.size w wr)) (fun _ vi _ => 4 - (intOf vi).toNat)
  case atStart => exact ⟨0, U, (fun _ => 0), rfl, rfl, ⟨OfRel.start hU0⟩, BKg2, BKg1, HB⟩
  case round =>
    clear BKg1 BKg2 HB hcg1_0 hfg1_0 hcg1_1 hfg1_1 hcg1_2 hfg1_2 hcg1_3 hfg1_3 hcg1_4 hfg1_4 hcg1_5 hfg1_5 hcg1_6 hfg1_6 hcg1_7 hfg1_7 hcg1_8 hfg1_8 hcg2_0 hfg2_0 hcg2_1 hfg2_1 hcg2_2 hfg2_2 hcg2_3 hfg2_3 hcg2_4 hfg2_4 hcg2_5 hfg2_5 hcg2_6 hfg2_6 hcg2_7 hfg2_7 hcg2_8 hfg2_8
    obtain ⟨k, X, D, rfl, rfl, HR, BKg2, BKg1, HB⟩ := hrel
    have hk4 := HR.out.k4; have hX0 := HR.out.pos; have hX1 := HR.out.bound (by omega)
    by_cases hlt : k < 4
    · have hc : wr.cell? ⟨g2, 1 + k, none⟩ = some (.int .i64 (D k)) := (blk_cell BKg2.out (1 + k)).trans (big_get true D (by omega))
      have hf := blk_frozen BKg2.out (1 + k)
      go_wp2
      exact ⟨⟨k + 1, X / 65536, upd D k (X % 65536), rfl, rfl, ⟨HR.out.step hlt⟩, ⟨blk_put BKg2.out (1 + k) _ (big_set true D (by omega) _)⟩, ⟨blk_far BKg1.out NBg1_g2 _⟩, ⟨below_set HB.out GEg2.out⟩⟩, by simp [intOf]; omega⟩
    · have e : k = 4 := by omega
      subst e
      have hrep := HR.out.done (by omega)
      have hc1_0 : wr.cell? ⟨g1, 0, none⟩ = some (.bool false) := (blk_cell BKg1.out 0).trans rfl; have hf1_0 := blk_frozen BKg1.out 0
      have hc1_1 : wr.cell? ⟨g1, 1, none⟩ = some (.int .i64 0) := (blk_cell BKg1.out 1).trans rfl; have hf1_1 := blk_frozen BKg1.out 1
      have hc1_2 : wr.cell? ⟨g1, 2, none⟩ = some (.int .i64 0) := (blk_cell BKg1.out 2).trans rfl; have hf1_2 := blk_frozen BKg1.out 2
      have hc1_3 : wr.cell? ⟨g1, 3, none⟩ = some (.int .i64 0) := (blk_cell BKg1.out 3).trans rfl; have hf1_3 := blk_frozen BKg1.out 3
      have hc1_4 : wr.cell? ⟨g1, 4, none⟩ = some (.int .i64 0) := (blk_cell BKg1.out 4).trans rfl; have hf1_4 := blk_frozen BKg1.out 4
      have hc1_5 : wr.cell? ⟨g1, 5, none⟩ = some (.int .i64 0) := (blk_cell BKg1.out 5).trans rfl; have hf1_5 := blk_frozen BKg1.out 5
      have hc1_6 : wr.cell? ⟨g1, 6, none⟩ = some (.int .i64 0) := (blk_cell BKg1.out 6).trans rfl; have hf1_6 := blk_frozen BKg1.out 6
      have hc1_7 : wr.cell? ⟨g1, 7, none⟩ = some (.int .i64 0) := (blk_cell BKg1.out 7).trans rfl; have hf1_7 := blk_frozen BKg1.out 7
      have hc1_8 : wr.cell? ⟨g1, 8, none⟩ = some (.int .i64 0) := (blk_cell BKg1.out 8).trans rfl; have hf1_8 := blk_frozen BKg1.out 8
      have hc2_0 : wr.cell? ⟨g2, 0, none⟩ = some (.bool true) := (blk_cell BKg2.out 0).trans rfl
      have hc2_1 : wr.cell? ⟨g2, 1, none⟩ = some (.int .i64 (D 0)) := (blk_cell BKg2.out 1).trans rfl
      have hc2_2 : wr.cell? ⟨g2, 2, none⟩ = some (.int .i64 (D 1)) := (blk_cell BKg2.out 2).trans rfl
      have hc2_3 : wr.cell? ⟨g2, 3, none⟩ = some (.int .i64 (D 2)) := (blk_cell BKg2.out 3).trans rfl
      have hc2_4 : wr.cell? ⟨g2, 4, none⟩ = some (.int .i64 (D 3)) := (blk_cell BKg2.out 4).trans rfl
      have hc2_5 : wr.cell? ⟨g2, 5, none⟩ = some (.int .i64 (D 4)) := (blk_cell BKg2.out 5).trans rfl
      have hc2_6 : wr.cell? ⟨g2, 6, none⟩ = some (.int .i64 (D 5)) := (blk_cell BKg2.out 6).trans rfl
      have hc2_7 : wr.cell? ⟨g2, 7, none⟩ = some (.int .i64 (D 6)) := (blk_cell BKg2.out 7).trans rfl
      have hc2_8 : wr.cell? ⟨g2, 8, none⟩ = some (.int .i64 (D 7)) := (blk_cell BKg2.out 8).trans rfl
      go_wp2
      refine bodyPost_ret (results_cell_row rfl _ _ g1 52 #[.bool true, .int .i64 (D 0), .int .i64 (D 1), .int .i64 (D 2), .int .i64 (D 3), .int .i64 (D 4), .int .i64 (D 5), .int .i64 (D 6), .int .i64 (D 7)] (0, 0) _ rfl (by (with_reducible repeat (first | refine blk_drewN ?_ _ | refine blk_drew ?_ | refine blk_alloc ?_ _)); refine blk_put (cs := #[.bool true, .int .i64 (D 0), .int .i64 (D 1), .int .i64 (D 2), .int .i64 (D 3), .int .i64 (D 4), .int .i64 (D 5), .int .i64 (D 6), .int .i64 0]) ?_ 8 _ rfl; (with_reducible repeat (first | refine blk_drewN ?_ _ | refine blk_drew ?_ | refine blk_alloc ?_ _)); refine blk_put (cs := #[.bool true, .int .i64 (D 0), .int .i64 (D 1), .int .i64 (D 2), .int .i64 (D 3), .int .i64 (D 4), .int .i64 (D 5), .int .i64 0, .int .i64 0]) ?_ 7 _ rfl; (with_reducible repeat (first | refine blk_drewN ?_ _ | refine blk_drew ?_ | refine blk_alloc ?_ _)); refine blk_put (cs := #[.bool true, .int .i64 (D 0), .int .i64 (D 1), .int .i64 (D 2), .int .i64 (D 3), .int .i64 (D 4), .int .i64 0, .int .i64 0, .int .i64 0]) ?_ 6 _ rfl; (with_reducible repeat (first | refine blk_drewN ?_ _ | refine blk_drew ?_ | refine blk_alloc ?_ _)); refine blk_put (cs := #[.bool true, .int .i64 (D 0), .int .i64 (D 1), .int .i64 (D 2), .int .i64 (D 3), .int .i64 0, .int .i64 0, .int .i64 0, .int .i64 0]) ?_ 5 _ rfl; (with_reducible repeat (first | refine blk_drewN ?_ _ | refine blk_drew ?_ | refine blk_alloc ?_ _)); refine blk_put (cs := #[.bool true, .int .i64 (D 0), .int .i64 (D 1), .int .i64 (D 2), .int .i64 0, .int .i64 0, .int .i64 0, .int .i64 0, .int .i64 0]) ?_ 4 _ rfl; (with_reducible repeat (first | refine blk_drewN ?_ _ | refine blk_drew ?_ | refine blk_alloc ?_ _)); refine blk_put (cs := #[.bool true, .int .i64 (D 0), .int .i64 (D 1), .int .i64 0, .int .i64 0, .int .i64 0, .int .i64 0, .int .i64 0, .int .i64 0]) ?_ 3 _ rfl; (with_reducible repeat (first | refine blk_drewN ?_ _ | refine blk_drew ?_ | refine blk_alloc ?_ _)); refine blk_put (cs := #[.bool true, .int .i64 (D 0), .int .i64 0, .int .i64 0, .int .i64 0, .int .i64 0, .int .i64 0, .int .i64 0, .int .i64 0]) ?_ 2 _ rfl; (with_reducible repeat (first | refine blk_drewN ?_ _ | refine blk_drew ?_ | refine blk_alloc ?_ _)); refine blk_put (cs := #[.bool true, .int .i64 0, .int .i64 0, .int .i64 0, .int .i64 0, .int .i64 0, .int .i64 0, .int .i64 0, .int .i64 0]) ?_ 1 _ rfl; (with_reducible repeat (first | refine blk_drewN ?_ _ | refine blk_drew ?_ | refine blk_alloc ?_ _)); refine blk_put (cs := #[.bool false, .int .i64 0, .int .i64 0, .int .i64 0, .int .i64 0, .int .i64 0, .int .i64 0, .int .i64 0, .int .i64 0]) ?_ 0 _ rfl; (with_reducible repeat (first | refine blk_drewN ?_ _ | refine blk_drew ?_ | refine blk_alloc ?_ _)); exact BKg1.out) Try.underlying52 rfl (by kernel_rfl)) rfl ?_
      exact ⟨D, rfl, hrep, by repeat (first | (with_reducible first | exact HB.out | apply below_alloc | apply pw_below_drewN | apply below_drew1 | refine below_set ?_ GEg1.out) | exact HB.out)⟩
end Go.Proofs.Ytjknihjdhccanaa
