/- The reference's great numbers: Over. -/
import Derived.Test.YtcnibfancjofhaaDoorRfF
import Derived.Deep.DeepCutAuto
import Derived.Deep.CutBlock
import Derived.Deep.CutRange
import Derived.Deep.Cut
namespace Go.Proofs.YtcnibfancjofhaaDoor
open Go.RowKit Go.Proofs.YtcnibfancjofhaaDoorW.PrintWords Go.Proofs.YtcnibfancjofhaaDoorW.PrintLast Go.Proofs.YtcnibfancjofhaaDoorW.PrintMore
set_option linter.unusedVariables false
set_option linter.unusedSimpArgs false
theorem double_ex (m : Bool) (V x X : Int) (w : World) (hV : Rep (cdig V) V) (h0 : 0 ≤ x) (h1 : x ≤ 1) (h2 : 2 * V + x < 340282366920938463463374607431768211456) (hX : X = 2 * V + x) :
    Calls Tryd.prog 64 #[.agg #[.bool m, .int .i64 (cdig V 0), .int .i64 (cdig V 1), .int .i64 (cdig V 2), .int .i64 (cdig V 3), .int .i64 (cdig V 4), .int .i64 (cdig V 5), .int .i64 (cdig V 6), .int .i64 (cdig V 7)], .int .i64 x] w fun e w' => e = .returned (.agg #[.bool m, .int .i64 (cdig X 0), .int .i64 (cdig X 1), .int .i64 (cdig X 2), .int .i64 (cdig X 3), .int .i64 (cdig X 4), .int .i64 (cdig X 5), .int .i64 (cdig X 6), .int .i64 (cdig X 7)]) ∧ Below w.heap.size w w' := by
  subst hX
  exact (double_calls m (cdig V) x V w hV h0 h1 h2).mono fun _ _ ⟨D, he, hr, hb⟩ => ⟨he.trans (ret_big (hr.cells _)), hb⟩
theorem less_ex (ma mb : Bool) (A B X : Int) (w : World) (hA : Rep (cdig A) A) (hB : Rep (cdig B) B) (hAB : B ≤ A) (hX : X = A - B) :
    Calls Tryd.prog 65 #[.agg #[.bool ma, .int .i64 (cdig A 0), .int .i64 (cdig A 1), .int .i64 (cdig A 2), .int .i64 (cdig A 3), .int .i64 (cdig A 4), .int .i64 (cdig A 5), .int .i64 (cdig A 6), .int .i64 (cdig A 7)], .agg #[.bool mb, .int .i64 (cdig B 0), .int .i64 (cdig B 1), .int .i64 (cdig B 2), .int .i64 (cdig B 3), .int .i64 (cdig B 4), .int .i64 (cdig B 5), .int .i64 (cdig B 6), .int .i64 (cdig B 7)]] w fun e w' => e = .returned (.agg #[.bool ma, .int .i64 (cdig X 0), .int .i64 (cdig X 1), .int .i64 (cdig X 2), .int .i64 (cdig X 3), .int .i64 (cdig X 4), .int .i64 (cdig X 5), .int .i64 (cdig X 6), .int .i64 (cdig X 7)]) ∧ Below w.heap.size w w' := by
  subst hX
  exact (less_calls ma mb (cdig A) (cdig B) A B w hA hB hAB).mono fun _ _ ⟨D, he, hr, hb⟩ => ⟨he.trans (ret_big (hr.cells _)), hb⟩
theorem shiftu_ex (m : Bool) (V : Int) (w : World) (hV : Rep (cdig V) V) (h : V < 79228162514264337593543950336) :
    Calls Tryd.prog 48 #[.agg #[.bool m, .int .i64 (cdig V 0), .int .i64 (cdig V 1), .int .i64 (cdig V 2), .int .i64 (cdig V 3), .int .i64 (cdig V 4), .int .i64 (cdig V 5), .int .i64 (cdig V 6), .int .i64 (cdig V 7)], .int .i64 2] w fun e w' => e = .returned (.agg #[.bool m, .int .i64 (cdig (V * 4294967296) 0), .int .i64 (cdig (V * 4294967296) 1), .int .i64 (cdig (V * 4294967296) 2), .int .i64 (cdig (V * 4294967296) 3), .int .i64 (cdig (V * 4294967296) 4), .int .i64 (cdig (V * 4294967296) 5), .int .i64 (cdig (V * 4294967296) 6), .int .i64 (cdig (V * 4294967296) 7)]) ∧ Below w.heap.size w w' :=
  (shift_p2 m (cdig V) V w hV h).mono fun _ _ ⟨D, he, hr, hb⟩ => ⟨he.trans (ret_big (hr.cells _)), hb⟩
theorem and_i64 (a b : Int) : bits .and .i64 a b = IntKind.i64.wrap (((a % 18446744073709551616).toNat &&& (b % 18446744073709551616).toNat : Nat) : Int) := by
  show IntKind.i64.wrap ((BitVec.ofInt 64 a &&& BitVec.ofInt 64 b).toNat : Int) = _
  rw [BitVec.toNat_and, BitVec.toNat_ofInt, BitVec.toNat_ofInt]; rfl
theorem and_one (n : Int) : Go.bits .and .i64 n 1 = n % 2 := by
  rw [and_i64, show ((1 : Int) % 18446744073709551616).toNat = 1 from rfl, Nat.and_one_is_mod, wrap_i64]
  omega
set_option maxHeartbeats 8000000 in
set_option maxRecDepth 100000 in
theorem over_calls (ma mb : Bool) (A B : Int) (w : World) (ha : Rep (cdig A) A) (hb : Rep (cdig B) B) (hB : 0 < B) (hB2 : B < 18446744073709551616) :
    Calls Tryd.prog 47 #[.agg (bigA ma (cdig A)), .agg (bigA mb (cdig B))] w
      fun e w' => e = .returned (.agg (bigA (!(ma == mb)) (cdig (A / B)))) ∧ Below w.heap.size w w' := by
  have HB := Aside0.mk (Below.refl w.heap.size w)
  go_enter Tryd.func47, Tryd.ntmps47
  go_upto_region 2 with (first | ((with_reducible refine gate_dst (N := 2) rfl ?_); refine box_event ?hg (N := 2) ?hd (cs := (bigA ma (cdig A))) (t := 60) ?hr ?_; (case hd => rfl); (case hg => rfl); (case hr => first | (go_simp; done) | (go_simp; rfl)); intro g2 hg_ W1 hbox_ hb_; have GEg2 := Aside0.mk ((by rw [hg_]; exact (below_size HB.out)) : w.heap.size ≤ g2); clear hg_; have n_ := Aside0.mk (below_step HB.out hb_); clear HB; have HB := n_; clear n_; have BKg2 := Aside0.mk hbox_; clear hbox_ hb_; have hcg2_0 : W1.cell? ⟨g2, 0, none⟩ = some (.bool ma) := (blk_cell BKg2.out 0).trans rfl; have hfg2_0 := blk_frozen BKg2.out 0; have hcg2_1 : W1.cell? ⟨g2, 1, none⟩ = some (.int .i64 ((cdig A) 0)) := (blk_cell BKg2.out 1).trans rfl; have hfg2_1 := blk_frozen BKg2.out 1; have hcg2_2 : W1.cell? ⟨g2, 2, none⟩ = some (.int .i64 ((cdig A) 1)) := (blk_cell BKg2.out 2).trans rfl; have hfg2_2 := blk_frozen BKg2.out 2; have hcg2_3 : W1.cell? ⟨g2, 3, none⟩ = some (.int .i64 ((cdig A) 2)) := (blk_cell BKg2.out 3).trans rfl; have hfg2_3 := blk_frozen BKg2.out 3; have hcg2_4 : W1.cell? ⟨g2, 4, none⟩ = some (.int .i64 ((cdig A) 3)) := (blk_cell BKg2.out 4).trans rfl; have hfg2_4 := blk_frozen BKg2.out 4; have hcg2_5 : W1.cell? ⟨g2, 5, none⟩ = some (.int .i64 ((cdig A) 4)) := (blk_cell BKg2.out 5).trans rfl; have hfg2_5 := blk_frozen BKg2.out 5; have hcg2_6 : W1.cell? ⟨g2, 6, none⟩ = some (.int .i64 ((cdig A) 5)) := (blk_cell BKg2.out 6).trans rfl; have hfg2_6 := blk_frozen BKg2.out 6; have hcg2_7 : W1.cell? ⟨g2, 7, none⟩ = some (.int .i64 ((cdig A) 6)) := (blk_cell BKg2.out 7).trans rfl; have hfg2_7 := blk_frozen BKg2.out 7; have hcg2_8 : W1.cell? ⟨g2, 8, none⟩ = some (.int .i64 ((cdig A) 7)) := (blk_cell BKg2.out 8).trans rfl; have hfg2_8 := blk_frozen BKg2.out 8) | ((with_reducible refine gate_dst (N := 3) rfl ?_); refine box_event ?hg (N := 3) ?hd (cs := (bigA mb (cdig B))) (t := 60) ?hr ?_; (case hd => rfl); (case hg => rfl); (case hr => first | (go_simp; done) | (go_simp; rfl)); intro g3 hg_ W2 hbox_ hb_; have GEg3 := Aside0.mk ((by rw [hg_]; exact (below_size HB.out)) : w.heap.size ≤ g3); have NBg2_g3 : g2 ≠ g3 := (by rw [hg_]; exact Nat.ne_of_lt (blk_lt BKg2.out)); have NBg3_g2 : g3 ≠ g2 := Ne.symm NBg2_g3; clear hg_; have n_ := Aside0.mk (blk_below BKg2.out hb_); clear BKg2; have BKg2 := n_; clear n_; clear hcg2_0 hfg2_0; clear hcg2_1 hfg2_1; clear hcg2_2 hfg2_2; clear hcg2_3 hfg2_3; clear hcg2_4 hfg2_4; clear hcg2_5 hfg2_5; clear hcg2_6 hfg2_6; clear hcg2_7 hfg2_7; clear hcg2_8 hfg2_8; have n_ := Aside0.mk (below_step HB.out hb_); clear HB; have HB := n_; clear n_; have BKg3 := Aside0.mk hbox_; clear hbox_ hb_; have hcg2_0 : W2.cell? ⟨g2, 0, none⟩ = some (.bool ma) := (blk_cell BKg2.out 0).trans rfl; have hfg2_0 := blk_frozen BKg2.out 0; have hcg2_1 : W2.cell? ⟨g2, 1, none⟩ = some (.int .i64 ((cdig A) 0)) := (blk_cell BKg2.out 1).trans rfl; have hfg2_1 := blk_frozen BKg2.out 1; have hcg2_2 : W2.cell? ⟨g2, 2, none⟩ = some (.int .i64 ((cdig A) 1)) := (blk_cell BKg2.out 2).trans rfl; have hfg2_2 := blk_frozen BKg2.out 2; have hcg2_3 : W2.cell? ⟨g2, 3, none⟩ = some (.int .i64 ((cdig A) 2)) := (blk_cell BKg2.out 3).trans rfl; have hfg2_3 := blk_frozen BKg2.out 3; have hcg2_4 : W2.cell? ⟨g2, 4, none⟩ = some (.int .i64 ((cdig A) 3)) := (blk_cell BKg2.out 4).trans rfl; have hfg2_4 := blk_frozen BKg2.out 4; have hcg2_5 : W2.cell? ⟨g2, 5, none⟩ = some (.int .i64 ((cdig A) 4)) := (blk_cell BKg2.out 5).trans rfl; have hfg2_5 := blk_frozen BKg2.out 5; have hcg2_6 : W2.cell? ⟨g2, 6, none⟩ = some (.int .i64 ((cdig A) 5)) := (blk_cell BKg2.out 6).trans rfl; have hfg2_6 := blk_frozen BKg2.out 6; have hcg2_7 : W2.cell? ⟨g2, 7, none⟩ = some (.int .i64 ((cdig A) 6)) := (blk_cell BKg2.out 7).trans rfl; have hfg2_7 := blk_frozen BKg2.out 7; have hcg2_8 : W2.cell? ⟨g2, 8, none⟩ = some (.int .i64 ((cdig A) 7)) := (blk_cell BKg2.out 8).trans rfl; have hfg2_8 := blk_frozen BKg2.out 8; have hcg3_0 : W2.cell? ⟨g3, 0, none⟩ = some (.bool mb) := (blk_cell BKg3.out 0).trans rfl; have hfg3_0 := blk_frozen BKg3.out 0; have hcg3_1 : W2.cell? ⟨g3, 1, none⟩ = some (.int .i64 ((cdig B) 0)) := (blk_cell BKg3.out 1).trans rfl; have hfg3_1 := blk_frozen BKg3.out 1; have hcg3_2 : W2.cell? ⟨g3, 2, none⟩ = some (.int .i64 ((cdig B) 1)) := (blk_cell BKg3.out 2).trans rfl; have hfg3_2 := blk_frozen BKg3.out 2; have hcg3_3 : W2.cell? ⟨g3, 3, none⟩ = some (.int .i64 ((cdig B) 2)) := (blk_cell BKg3.out 3).trans rfl; have hfg3_3 := blk_frozen BKg3.out 3; have hcg3_4 : W2.cell? ⟨g3, 4, none⟩ = some (.int .i64 ((cdig B) 3)) := (blk_cell BKg3.out 4).trans rfl; have hfg3_4 := blk_frozen BKg3.out 4; have hcg3_5 : W2.cell? ⟨g3, 5, none⟩ = some (.int .i64 ((cdig B) 4)) := (blk_cell BKg3.out 5).trans rfl; have hfg3_5 := blk_frozen BKg3.out 5; have hcg3_6 : W2.cell? ⟨g3, 6, none⟩ = some (.int .i64 ((cdig B) 5)) := (blk_cell BKg3.out 6).trans rfl; have hfg3_6 := blk_frozen BKg3.out 6; have hcg3_7 : W2.cell? ⟨g3, 7, none⟩ = some (.int .i64 ((cdig B) 6)) := (blk_cell BKg3.out 7).trans rfl; have hfg3_7 := blk_frozen BKg3.out 7; have hcg3_8 : W2.cell? ⟨g3, 8, none⟩ = some (.int .i64 ((cdig B) 7)) := (blk_cell BKg3.out 8).trans rfl; have hfg3_8 := blk_frozen BKg3.out 8) | ((with_reducible refine gate_dst (N := 4) rfl ?_); refine box_event ?hg (N := 4) ?hd (cs := #[.bool false, .int .i64 0, .int .i64 0, .int .i64 0, .int .i64 0, .int .i64 0, .int .i64 0, .int .i64 0, .int .i64 0]) (t := 60) ?hr ?_; (case hd => rfl); (case hg => rfl); (case hr => first | (go_simp; done) | (go_simp; rfl)); intro g4 hg_ W3 hbox_ hb_; have GEg4 := Aside0.mk ((by rw [hg_]; exact (below_size HB.out)) : w.heap.size ≤ g4); have NBg2_g4 : g2 ≠ g4 := (by rw [hg_]; exact Nat.ne_of_lt (blk_lt BKg2.out)); have NBg4_g2 : g4 ≠ g2 := Ne.symm NBg2_g4; have NBg3_g4 : g3 ≠ g4 := (by rw [hg_]; exact Nat.ne_of_lt (blk_lt BKg3.out)); have NBg4_g3 : g4 ≠ g3 := Ne.symm NBg3_g4; clear hg_; have n_ := Aside0.mk (blk_below BKg2.out hb_); clear BKg2; have BKg2 := n_; clear n_; clear hcg2_0 hfg2_0; clear hcg2_1 hfg2_1; clear hcg2_2 hfg2_2; clear hcg2_3 hfg2_3; clear hcg2_4 hfg2_4; clear hcg2_5 hfg2_5; clear hcg2_6 hfg2_6; clear hcg2_7 hfg2_7; clear hcg2_8 hfg2_8; have n_ := Aside0.mk (blk_below BKg3.out hb_); clear BKg3; have BKg3 := n_; clear n_; clear hcg3_0 hfg3_0; clear hcg3_1 hfg3_1; clear hcg3_2 hfg3_2; clear hcg3_3 hfg3_3; clear hcg3_4 hfg3_4; clear hcg3_5 hfg3_5; clear hcg3_6 hfg3_6; clear hcg3_7 hfg3_7; clear hcg3_8 hfg3_8; have n_ := Aside0.mk (below_step HB.out hb_); clear HB; have HB := n_; clear n_; have BKg4 := Aside0.mk hbox_; clear hbox_ hb_; have hcg2_0 : W3.cell? ⟨g2, 0, none⟩ = some (.bool ma) := (blk_cell BKg2.out 0).trans rfl; have hfg2_0 := blk_frozen BKg2.out 0; have hcg2_1 : W3.cell? ⟨g2, 1, none⟩ = some (.int .i64 ((cdig A) 0)) := (blk_cell BKg2.out 1).trans rfl; have hfg2_1 := blk_frozen BKg2.out 1; have hcg2_2 : W3.cell? ⟨g2, 2, none⟩ = some (.int .i64 ((cdig A) 1)) := (blk_cell BKg2.out 2).trans rfl; have hfg2_2 := blk_frozen BKg2.out 2; have hcg2_3 : W3.cell? ⟨g2, 3, none⟩ = some (.int .i64 ((cdig A) 2)) := (blk_cell BKg2.out 3).trans rfl; have hfg2_3 := blk_frozen BKg2.out 3; have hcg2_4 : W3.cell? ⟨g2, 4, none⟩ = some (.int .i64 ((cdig A) 3)) := (blk_cell BKg2.out 4).trans rfl; have hfg2_4 := blk_frozen BKg2.out 4; have hcg2_5 : W3.cell? ⟨g2, 5, none⟩ = some (.int .i64 ((cdig A) 4)) := (blk_cell BKg2.out 5).trans rfl; have hfg2_5 := blk_frozen BKg2.out 5; have hcg2_6 : W3.cell? ⟨g2, 6, none⟩ = some (.int .i64 ((cdig A) 5)) := (blk_cell BKg2.out 6).trans rfl; have hfg2_6 := blk_frozen BKg2.out 6; have hcg2_7 : W3.cell? ⟨g2, 7, none⟩ = some (.int .i64 ((cdig A) 6)) := (blk_cell BKg2.out 7).trans rfl; have hfg2_7 := blk_frozen BKg2.out 7; have hcg2_8 : W3.cell? ⟨g2, 8, none⟩ = some (.int .i64 ((cdig A) 7)) := (blk_cell BKg2.out 8).trans rfl; have hfg2_8 := blk_frozen BKg2.out 8; have hcg3_0 : W3.cell? ⟨g3, 0, none⟩ = some (.bool mb) := (blk_cell BKg3.out 0).trans rfl; have hfg3_0 := blk_frozen BKg3.out 0; have hcg3_1 : W3.cell? ⟨g3, 1, none⟩ = some (.int .i64 ((cdig B) 0)) := (blk_cell BKg3.out 1).trans rfl; have hfg3_1 := blk_frozen BKg3.out 1; have hcg3_2 : W3.cell? ⟨g3, 2, none⟩ = some (.int .i64 ((cdig B) 1)) := (blk_cell BKg3.out 2).trans rfl; have hfg3_2 := blk_frozen BKg3.out 2; have hcg3_3 : W3.cell? ⟨g3, 3, none⟩ = some (.int .i64 ((cdig B) 2)) := (blk_cell BKg3.out 3).trans rfl; have hfg3_3 := blk_frozen BKg3.out 3; have hcg3_4 : W3.cell? ⟨g3, 4, none⟩ = some (.int .i64 ((cdig B) 3)) := (blk_cell BKg3.out 4).trans rfl; have hfg3_4 := blk_frozen BKg3.out 4; have hcg3_5 : W3.cell? ⟨g3, 5, none⟩ = some (.int .i64 ((cdig B) 4)) := (blk_cell BKg3.out 5).trans rfl; have hfg3_5 := blk_frozen BKg3.out 5; have hcg3_6 : W3.cell? ⟨g3, 6, none⟩ = some (.int .i64 ((cdig B) 5)) := (blk_cell BKg3.out 6).trans rfl; have hfg3_6 := blk_frozen BKg3.out 6; have hcg3_7 : W3.cell? ⟨g3, 7, none⟩ = some (.int .i64 ((cdig B) 6)) := (blk_cell BKg3.out 7).trans rfl; have hfg3_7 := blk_frozen BKg3.out 7; have hcg3_8 : W3.cell? ⟨g3, 8, none⟩ = some (.int .i64 ((cdig B) 7)) := (blk_cell BKg3.out 8).trans rfl; have hfg3_8 := blk_frozen BKg3.out 8; have hcg4_0 : W3.cell? ⟨g4, 0, none⟩ = some (.bool false) := (blk_cell BKg4.out 0).trans rfl; have hfg4_0 := blk_frozen BKg4.out 0; have hcg4_1 : W3.cell? ⟨g4, 1, none⟩ = some (.int .i64 0) := (blk_cell BKg4.out 1).trans rfl; have hfg4_1 := blk_frozen BKg4.out 1; have hcg4_2 : W3.cell? ⟨g4, 2, none⟩ = some (.int .i64 0) := (blk_cell BKg4.out 2).trans rfl; have hfg4_2 := blk_frozen BKg4.out 2; have hcg4_3 : W3.cell? ⟨g4, 3, none⟩ = some (.int .i64 0) := (blk_cell BKg4.out 3).trans rfl; have hfg4_3 := blk_frozen BKg4.out 3; have hcg4_4 : W3.cell? ⟨g4, 4, none⟩ = some (.int .i64 0) := (blk_cell BKg4.out 4).trans rfl; have hfg4_4 := blk_frozen BKg4.out 4; have hcg4_5 : W3.cell? ⟨g4, 5, none⟩ = some (.int .i64 0) := (blk_cell BKg4.out 5).trans rfl; have hfg4_5 := blk_frozen BKg4.out 5; have hcg4_6 : W3.cell? ⟨g4, 6, none⟩ = some (.int .i64 0) := (blk_cell BKg4.out 6).trans rfl; have hfg4_6 := blk_frozen BKg4.out 6; have hcg4_7 : W3.cell? ⟨g4, 7, none⟩ = some (.int .i64 0) := (blk_cell BKg4.out 7).trans rfl; have hfg4_7 := blk_frozen BKg4.out 7; have hcg4_8 : W3.cell? ⟨g4, 8, none⟩ = some (.int .i64 0) := (blk_cell BKg4.out 8).trans rfl; have hfg4_8 := blk_frozen BKg4.out 8) | ((with_reducible refine gate_dst (N := 5) rfl ?_); refine box_event ?hg (N := 5) ?hd (cs := #[.bool false, .int .i64 0, .int .i64 0, .int .i64 0, .int .i64 0, .int .i64 0, .int .i64 0, .int .i64 0, .int .i64 0]) (t := 60) ?hr ?_; (case hd => rfl); (case hg => rfl); (case hr => first | (go_simp; done) | (go_simp; rfl)); intro g5 hg_ W4 hbox_ hb_; have GEg5 := Aside0.mk ((by rw [hg_]; exact (below_size HB.out)) : w.heap.size ≤ g5); have NBg2_g5 : g2 ≠ g5 := (by rw [hg_]; exact Nat.ne_of_lt (blk_lt BKg2.out)); have NBg5_g2 : g5 ≠ g2 := Ne.symm NBg2_g5; have NBg3_g5 : g3 ≠ g5 := (by rw [hg_]; exact Nat.ne_of_lt (blk_lt BKg3.out)); have NBg5_g3 : g5 ≠ g3 := Ne.symm NBg3_g5; have NBg4_g5 : g4 ≠ g5 := (by rw [hg_]; exact Nat.ne_of_lt (blk_lt BKg4.out)); have NBg5_g4 : g5 ≠ g4 := Ne.symm NBg4_g5; clear hg_; have n_ := Aside0.mk (blk_below BKg2.out hb_); clear BKg2; have BKg2 := n_; clear n_; clear hcg2_0 hfg2_0; clear hcg2_1 hfg2_1; clear hcg2_2 hfg2_2; clear hcg2_3 hfg2_3; clear hcg2_4 hfg2_4; clear hcg2_5 hfg2_5; clear hcg2_6 hfg2_6; clear hcg2_7 hfg2_7; clear hcg2_8 hfg2_8; have n_ := Aside0.mk (blk_below BKg3.out hb_); clear BKg3; have BKg3 := n_; clear n_; clear hcg3_0 hfg3_0; clear hcg3_1 hfg3_1; clear hcg3_2 hfg3_2; clear hcg3_3 hfg3_3; clear hcg3_4 hfg3_4; clear hcg3_5 hfg3_5; clear hcg3_6 hfg3_6; clear hcg3_7 hfg3_7; clear hcg3_8 hfg3_8; have n_ := Aside0.mk (blk_below BKg4.out hb_); clear BKg4; have BKg4 := n_; clear n_; clear hcg4_0 hfg4_0; clear hcg4_1 hfg4_1; clear hcg4_2 hfg4_2; clear hcg4_3 hfg4_3; clear hcg4_4 hfg4_4; clear hcg4_5 hfg4_5; clear hcg4_6 hfg4_6; clear hcg4_7 hfg4_7; clear hcg4_8 hfg4_8; have n_ := Aside0.mk (below_step HB.out hb_); clear HB; have HB := n_; clear n_; have BKg5 := Aside0.mk hbox_; clear hbox_ hb_; have hcg2_0 : W4.cell? ⟨g2, 0, none⟩ = some (.bool ma) := (blk_cell BKg2.out 0).trans rfl; have hfg2_0 := blk_frozen BKg2.out 0; have hcg2_1 : W4.cell? ⟨g2, 1, none⟩ = some (.int .i64 ((cdig A) 0)) := (blk_cell BKg2.out 1).trans rfl; have hfg2_1 := blk_frozen BKg2.out 1; have hcg2_2 : W4.cell? ⟨g2, 2, none⟩ = some (.int .i64 ((cdig A) 1)) := (blk_cell BKg2.out 2).trans rfl; have hfg2_2 := blk_frozen BKg2.out 2; have hcg2_3 : W4.cell? ⟨g2, 3, none⟩ = some (.int .i64 ((cdig A) 2)) := (blk_cell BKg2.out 3).trans rfl; have hfg2_3 := blk_frozen BKg2.out 3; have hcg2_4 : W4.cell? ⟨g2, 4, none⟩ = some (.int .i64 ((cdig A) 3)) := (blk_cell BKg2.out 4).trans rfl; have hfg2_4 := blk_frozen BKg2.out 4; have hcg2_5 : W4.cell? ⟨g2, 5, none⟩ = some (.int .i64 ((cdig A) 4)) := (blk_cell BKg2.out 5).trans rfl; have hfg2_5 := blk_frozen BKg2.out 5; have hcg2_6 : W4.cell? ⟨g2, 6, none⟩ = some (.int .i64 ((cdig A) 5)) := (blk_cell BKg2.out 6).trans rfl; have hfg2_6 := blk_frozen BKg2.out 6; have hcg2_7 : W4.cell? ⟨g2, 7, none⟩ = some (.int .i64 ((cdig A) 6)) := (blk_cell BKg2.out 7).trans rfl; have hfg2_7 := blk_frozen BKg2.out 7; have hcg2_8 : W4.cell? ⟨g2, 8, none⟩ = some (.int .i64 ((cdig A) 7)) := (blk_cell BKg2.out 8).trans rfl; have hfg2_8 := blk_frozen BKg2.out 8; have hcg3_0 : W4.cell? ⟨g3, 0, none⟩ = some (.bool mb) := (blk_cell BKg3.out 0).trans rfl; have hfg3_0 := blk_frozen BKg3.out 0; have hcg3_1 : W4.cell? ⟨g3, 1, none⟩ = some (.int .i64 ((cdig B) 0)) := (blk_cell BKg3.out 1).trans rfl; have hfg3_1 := blk_frozen BKg3.out 1; have hcg3_2 : W4.cell? ⟨g3, 2, none⟩ = some (.int .i64 ((cdig B) 1)) := (blk_cell BKg3.out 2).trans rfl; have hfg3_2 := blk_frozen BKg3.out 2; have hcg3_3 : W4.cell? ⟨g3, 3, none⟩ = some (.int .i64 ((cdig B) 2)) := (blk_cell BKg3.out 3).trans rfl; have hfg3_3 := blk_frozen BKg3.out 3; have hcg3_4 : W4.cell? ⟨g3, 4, none⟩ = some (.int .i64 ((cdig B) 3)) := (blk_cell BKg3.out 4).trans rfl; have hfg3_4 := blk_frozen BKg3.out 4; have hcg3_5 : W4.cell? ⟨g3, 5, none⟩ = some (.int .i64 ((cdig B) 4)) := (blk_cell BKg3.out 5).trans rfl; have hfg3_5 := blk_frozen BKg3.out 5; have hcg3_6 : W4.cell? ⟨g3, 6, none⟩ = some (.int .i64 ((cdig B) 5)) := (blk_cell BKg3.out 6).trans rfl; have hfg3_6 := blk_frozen BKg3.out 6; have hcg3_7 : W4.cell? ⟨g3, 7, none⟩ = some (.int .i64 ((cdig B) 6)) := (blk_cell BKg3.out 7).trans rfl; have hfg3_7 := blk_frozen BKg3.out 7; have hcg3_8 : W4.cell? ⟨g3, 8, none⟩ = some (.int .i64 ((cdig B) 7)) := (blk_cell BKg3.out 8).trans rfl; have hfg3_8 := blk_frozen BKg3.out 8; have hcg4_0 : W4.cell? ⟨g4, 0, none⟩ = some (.bool false) := (blk_cell BKg4.out 0).trans rfl; have hfg4_0 := blk_frozen BKg4.out 0; have hcg4_1 : W4.cell? ⟨g4, 1, none⟩ = some (.int .i64 0) := (blk_cell BKg4.out 1).trans rfl; have hfg4_1 := blk_frozen BKg4.out 1; have hcg4_2 : W4.cell? ⟨g4, 2, none⟩ = some (.int .i64 0) := (blk_cell BKg4.out 2).trans rfl; have hfg4_2 := blk_frozen BKg4.out 2; have hcg4_3 : W4.cell? ⟨g4, 3, none⟩ = some (.int .i64 0) := (blk_cell BKg4.out 3).trans rfl; have hfg4_3 := blk_frozen BKg4.out 3; have hcg4_4 : W4.cell? ⟨g4, 4, none⟩ = some (.int .i64 0) := (blk_cell BKg4.out 4).trans rfl; have hfg4_4 := blk_frozen BKg4.out 4; have hcg4_5 : W4.cell? ⟨g4, 5, none⟩ = some (.int .i64 0) := (blk_cell BKg4.out 5).trans rfl; have hfg4_5 := blk_frozen BKg4.out 5; have hcg4_6 : W4.cell? ⟨g4, 6, none⟩ = some (.int .i64 0) := (blk_cell BKg4.out 6).trans rfl; have hfg4_6 := blk_frozen BKg4.out 6; have hcg4_7 : W4.cell? ⟨g4, 7, none⟩ = some (.int .i64 0) := (blk_cell BKg4.out 7).trans rfl; have hfg4_7 := blk_frozen BKg4.out 7; have hcg4_8 : W4.cell? ⟨g4, 8, none⟩ = some (.int .i64 0) := (blk_cell BKg4.out 8).trans rfl; have hfg4_8 := blk_frozen BKg4.out 8; have hcg5_0 : W4.cell? ⟨g5, 0, none⟩ = some (.bool false) := (blk_cell BKg5.out 0).trans rfl; have hfg5_0 := blk_frozen BKg5.out 0; have hcg5_1 : W4.cell? ⟨g5, 1, none⟩ = some (.int .i64 0) := (blk_cell BKg5.out 1).trans rfl; have hfg5_1 := blk_frozen BKg5.out 1; have hcg5_2 : W4.cell? ⟨g5, 2, none⟩ = some (.int .i64 0) := (blk_cell BKg5.out 2).trans rfl; have hfg5_2 := blk_frozen BKg5.out 2; have hcg5_3 : W4.cell? ⟨g5, 3, none⟩ = some (.int .i64 0) := (blk_cell BKg5.out 3).trans rfl; have hfg5_3 := blk_frozen BKg5.out 3; have hcg5_4 : W4.cell? ⟨g5, 4, none⟩ = some (.int .i64 0) := (blk_cell BKg5.out 4).trans rfl; have hfg5_4 := blk_frozen BKg5.out 4; have hcg5_5 : W4.cell? ⟨g5, 5, none⟩ = some (.int .i64 0) := (blk_cell BKg5.out 5).trans rfl; have hfg5_5 := blk_frozen BKg5.out 5; have hcg5_6 : W4.cell? ⟨g5, 6, none⟩ = some (.int .i64 0) := (blk_cell BKg5.out 6).trans rfl; have hfg5_6 := blk_frozen BKg5.out 6; have hcg5_7 : W4.cell? ⟨g5, 7, none⟩ = some (.int .i64 0) := (blk_cell BKg5.out 7).trans rfl; have hfg5_7 := blk_frozen BKg5.out 7; have hcg5_8 : W4.cell? ⟨g5, 8, none⟩ = some (.int .i64 0) := (blk_cell BKg5.out 8).trans rfl; have hfg5_8 := blk_frozen BKg5.out 8))
  have n_ : Aside0 ((((((((((W4.setCell ⟨g5, 0, none⟩ (.bool (!(ma == mb)))).setCell ⟨g5, 1, none⟩ (.int .i64 0)).setCell ⟨g5, 2, none⟩ (.int .i64 0)).setCell ⟨g5, 3, none⟩ (.int .i64 0)).setCell ⟨g5, 4, none⟩ (.int .i64 0)).setCell ⟨g5, 5, none⟩ (.int .i64 0)).setCell ⟨g5, 6, none⟩ (.int .i64 0)).setCell ⟨g5, 7, none⟩ (.int .i64 0)).setCell ⟨g5, 8, none⟩ (.int .i64 0)).heap[g5]? = some (.cells #[.bool (!(ma == mb)), .int .i64 0, .int .i64 0, .int .i64 0, .int .i64 0, .int .i64 0, .int .i64 0, .int .i64 0, .int .i64 0] 60 (0, 0))) := ⟨by refine blk_put (cs := #[.bool (!(ma == mb)), .int .i64 0, .int .i64 0, .int .i64 0, .int .i64 0, .int .i64 0, .int .i64 0, .int .i64 0, .int .i64 0]) ?_ 8 _ rfl; refine blk_put (cs := #[.bool (!(ma == mb)), .int .i64 0, .int .i64 0, .int .i64 0, .int .i64 0, .int .i64 0, .int .i64 0, .int .i64 0, .int .i64 0]) ?_ 7 _ rfl; refine blk_put (cs := #[.bool (!(ma == mb)), .int .i64 0, .int .i64 0, .int .i64 0, .int .i64 0, .int .i64 0, .int .i64 0, .int .i64 0, .int .i64 0]) ?_ 6 _ rfl; refine blk_put (cs := #[.bool (!(ma == mb)), .int .i64 0, .int .i64 0, .int .i64 0, .int .i64 0, .int .i64 0, .int .i64 0, .int .i64 0, .int .i64 0]) ?_ 5 _ rfl; refine blk_put (cs := #[.bool (!(ma == mb)), .int .i64 0, .int .i64 0, .int .i64 0, .int .i64 0, .int .i64 0, .int .i64 0, .int .i64 0, .int .i64 0]) ?_ 4 _ rfl; refine blk_put (cs := #[.bool (!(ma == mb)), .int .i64 0, .int .i64 0, .int .i64 0, .int .i64 0, .int .i64 0, .int .i64 0, .int .i64 0, .int .i64 0]) ?_ 3 _ rfl; refine blk_put (cs := #[.bool (!(ma == mb)), .int .i64 0, .int .i64 0, .int .i64 0, .int .i64 0, .int .i64 0, .int .i64 0, .int .i64 0, .int .i64 0]) ?_ 2 _ rfl; refine blk_put (cs := #[.bool (!(ma == mb)), .int .i64 0, .int .i64 0, .int .i64 0, .int .i64 0, .int .i64 0, .int .i64 0, .int .i64 0, .int .i64 0]) ?_ 1 _ rfl; refine blk_put (cs := #[.bool false, .int .i64 0, .int .i64 0, .int .i64 0, .int .i64 0, .int .i64 0, .int .i64 0, .int .i64 0, .int .i64 0]) ?_ 0 _ rfl; exact BKg5.out⟩
  have m_ : Aside0 ((((((((((W4.setCell ⟨g5, 0, none⟩ (.bool (!(ma == mb)))).setCell ⟨g5, 1, none⟩ (.int .i64 0)).setCell ⟨g5, 2, none⟩ (.int .i64 0)).setCell ⟨g5, 3, none⟩ (.int .i64 0)).setCell ⟨g5, 4, none⟩ (.int .i64 0)).setCell ⟨g5, 5, none⟩ (.int .i64 0)).setCell ⟨g5, 6, none⟩ (.int .i64 0)).setCell ⟨g5, 7, none⟩ (.int .i64 0)).setCell ⟨g5, 8, none⟩ (.int .i64 0)).heap[g2]? = some (.cells (bigA ma (cdig A)) 60 (0, 0))) := ⟨(blk_far (blk_far (blk_far (blk_far (blk_far (blk_far (blk_far (blk_far (blk_far BKg2.out NBg2_g5 _) NBg2_g5 _) NBg2_g5 _) NBg2_g5 _) NBg2_g5 _) NBg2_g5 _) NBg2_g5 _) NBg2_g5 _) NBg2_g5 _)⟩
  clear BKg2; have BKg2 := m_; clear m_
  have m_ : Aside0 ((((((((((W4.setCell ⟨g5, 0, none⟩ (.bool (!(ma == mb)))).setCell ⟨g5, 1, none⟩ (.int .i64 0)).setCell ⟨g5, 2, none⟩ (.int .i64 0)).setCell ⟨g5, 3, none⟩ (.int .i64 0)).setCell ⟨g5, 4, none⟩ (.int .i64 0)).setCell ⟨g5, 5, none⟩ (.int .i64 0)).setCell ⟨g5, 6, none⟩ (.int .i64 0)).setCell ⟨g5, 7, none⟩ (.int .i64 0)).setCell ⟨g5, 8, none⟩ (.int .i64 0)).heap[g3]? = some (.cells (bigA mb (cdig B)) 60 (0, 0))) := ⟨(blk_far (blk_far (blk_far (blk_far (blk_far (blk_far (blk_far (blk_far (blk_far BKg3.out NBg3_g5 _) NBg3_g5 _) NBg3_g5 _) NBg3_g5 _) NBg3_g5 _) NBg3_g5 _) NBg3_g5 _) NBg3_g5 _) NBg3_g5 _)⟩
  clear BKg3; have BKg3 := m_; clear m_
  have m_ : Aside0 ((((((((((W4.setCell ⟨g5, 0, none⟩ (.bool (!(ma == mb)))).setCell ⟨g5, 1, none⟩ (.int .i64 0)).setCell ⟨g5, 2, none⟩ (.int .i64 0)).setCell ⟨g5, 3, none⟩ (.int .i64 0)).setCell ⟨g5, 4, none⟩ (.int .i64 0)).setCell ⟨g5, 5, none⟩ (.int .i64 0)).setCell ⟨g5, 6, none⟩ (.int .i64 0)).setCell ⟨g5, 7, none⟩ (.int .i64 0)).setCell ⟨g5, 8, none⟩ (.int .i64 0)).heap[g4]? = some (.cells #[.bool false, .int .i64 0, .int .i64 0, .int .i64 0, .int .i64 0, .int .i64 0, .int .i64 0, .int .i64 0, .int .i64 0] 60 (0, 0))) := ⟨(blk_far (blk_far (blk_far (blk_far (blk_far (blk_far (blk_far (blk_far (blk_far BKg4.out NBg4_g5 _) NBg4_g5 _) NBg4_g5 _) NBg4_g5 _) NBg4_g5 _) NBg4_g5 _) NBg4_g5 _) NBg4_g5 _) NBg4_g5 _)⟩
  clear BKg4; have BKg4 := m_; clear m_
  have b_ : Aside0 (Below w.heap.size w (((((((((W4.setCell ⟨g5, 0, none⟩ (.bool (!(ma == mb)))).setCell ⟨g5, 1, none⟩ (.int .i64 0)).setCell ⟨g5, 2, none⟩ (.int .i64 0)).setCell ⟨g5, 3, none⟩ (.int .i64 0)).setCell ⟨g5, 4, none⟩ (.int .i64 0)).setCell ⟨g5, 5, none⟩ (.int .i64 0)).setCell ⟨g5, 6, none⟩ (.int .i64 0)).setCell ⟨g5, 7, none⟩ (.int .i64 0)).setCell ⟨g5, 8, none⟩ (.int .i64 0))) := ⟨(below_set (below_set (below_set (below_set (below_set (below_set (below_set (below_set (below_set HB.out GEg5.out) GEg5.out) GEg5.out) GEg5.out) GEg5.out) GEg5.out) GEg5.out) GEg5.out) GEg5.out)⟩
  clear BKg5 HB; have BKg5 := n_; have HB := b_; clear n_ b_
  clear hcg2_0 hfg2_0
  clear hcg2_1 hfg2_1
  clear hcg2_2 hfg2_2
  clear hcg2_3 hfg2_3
  clear hcg2_4 hfg2_4
  clear hcg2_5 hfg2_5
  clear hcg2_6 hfg2_6
  clear hcg2_7 hfg2_7
  clear hcg2_8 hfg2_8
  clear hcg3_0 hfg3_0
  clear hcg3_1 hfg3_1
  clear hcg3_2 hfg3_2
  clear hcg3_3 hfg3_3
  clear hcg3_4 hfg3_4
  clear hcg3_5 hfg3_5
  clear hcg3_6 hfg3_6
  clear hcg3_7 hfg3_7
  clear hcg3_8 hfg3_8
  clear hcg4_0 hfg4_0
  clear hcg4_1 hfg4_1
  clear hcg4_2 hfg4_2
  clear hcg4_3 hfg4_3
  clear hcg4_4 hfg4_4
  clear hcg4_5 hfg4_5
  clear hcg4_6 hfg4_6
  clear hcg4_7 hfg4_7
  clear hcg4_8 hfg4_8
  clear hcg5_0 hfg5_0
  clear hcg5_1 hfg5_1
  clear hcg5_2 hfg5_2
  clear hcg5_3 hfg5_3
  clear hcg5_4 hfg5_4
  clear hcg5_5 hfg5_5
  clear hcg5_6 hfg5_6
  clear hcg5_7 hfg5_7
  clear hcg5_8 hfg5_8
  generalize (((((((((W4.setCell ⟨g5, 0, none⟩ (.bool (!(ma == mb)))).setCell ⟨g5, 1, none⟩ (.int .i64 0)).setCell ⟨g5, 2, none⟩ (.int .i64 0)).setCell ⟨g5, 3, none⟩ (.int .i64 0)).setCell ⟨g5, 4, none⟩ (.int .i64 0)).setCell ⟨g5, 5, none⟩ (.int .i64 0)).setCell ⟨g5, 6, none⟩ (.int .i64 0)).setCell ⟨g5, 7, none⟩ (.int .i64 0)).setCell ⟨g5, 8, none⟩ (.int .i64 0)) = W5 at *
  have hcg2_0 : W5.cell? ⟨g2, 0, none⟩ = some (.bool ma) := (blk_cell BKg2.out 0).trans rfl
  have hfg2_0 := blk_frozen BKg2.out 0
  have hcg2_1 : W5.cell? ⟨g2, 1, none⟩ = some (.int .i64 ((cdig A) 0)) := (blk_cell BKg2.out 1).trans rfl
  have hfg2_1 := blk_frozen BKg2.out 1
  have hcg2_2 : W5.cell? ⟨g2, 2, none⟩ = some (.int .i64 ((cdig A) 1)) := (blk_cell BKg2.out 2).trans rfl
  have hfg2_2 := blk_frozen BKg2.out 2
  have hcg2_3 : W5.cell? ⟨g2, 3, none⟩ = some (.int .i64 ((cdig A) 2)) := (blk_cell BKg2.out 3).trans rfl
  have hfg2_3 := blk_frozen BKg2.out 3
  have hcg2_4 : W5.cell? ⟨g2, 4, none⟩ = some (.int .i64 ((cdig A) 3)) := (blk_cell BKg2.out 4).trans rfl
  have hfg2_4 := blk_frozen BKg2.out 4
  have hcg2_5 : W5.cell? ⟨g2, 5, none⟩ = some (.int .i64 ((cdig A) 4)) := (blk_cell BKg2.out 5).trans rfl
  have hfg2_5 := blk_frozen BKg2.out 5
  have hcg2_6 : W5.cell? ⟨g2, 6, none⟩ = some (.int .i64 ((cdig A) 5)) := (blk_cell BKg2.out 6).trans rfl
  have hfg2_6 := blk_frozen BKg2.out 6
  have hcg2_7 : W5.cell? ⟨g2, 7, none⟩ = some (.int .i64 ((cdig A) 6)) := (blk_cell BKg2.out 7).trans rfl
  have hfg2_7 := blk_frozen BKg2.out 7
  have hcg2_8 : W5.cell? ⟨g2, 8, none⟩ = some (.int .i64 ((cdig A) 7)) := (blk_cell BKg2.out 8).trans rfl
  have hfg2_8 := blk_frozen BKg2.out 8
  have hcg3_0 : W5.cell? ⟨g3, 0, none⟩ = some (.bool mb) := (blk_cell BKg3.out 0).trans rfl
  have hfg3_0 := blk_frozen BKg3.out 0
  have hcg3_1 : W5.cell? ⟨g3, 1, none⟩ = some (.int .i64 ((cdig B) 0)) := (blk_cell BKg3.out 1).trans rfl
  have hfg3_1 := blk_frozen BKg3.out 1
  have hcg3_2 : W5.cell? ⟨g3, 2, none⟩ = some (.int .i64 ((cdig B) 1)) := (blk_cell BKg3.out 2).trans rfl
  have hfg3_2 := blk_frozen BKg3.out 2
  have hcg3_3 : W5.cell? ⟨g3, 3, none⟩ = some (.int .i64 ((cdig B) 2)) := (blk_cell BKg3.out 3).trans rfl
  have hfg3_3 := blk_frozen BKg3.out 3
  have hcg3_4 : W5.cell? ⟨g3, 4, none⟩ = some (.int .i64 ((cdig B) 3)) := (blk_cell BKg3.out 4).trans rfl
  have hfg3_4 := blk_frozen BKg3.out 4
  have hcg3_5 : W5.cell? ⟨g3, 5, none⟩ = some (.int .i64 ((cdig B) 4)) := (blk_cell BKg3.out 5).trans rfl
  have hfg3_5 := blk_frozen BKg3.out 5
  have hcg3_6 : W5.cell? ⟨g3, 6, none⟩ = some (.int .i64 ((cdig B) 5)) := (blk_cell BKg3.out 6).trans rfl
  have hfg3_6 := blk_frozen BKg3.out 6
  have hcg3_7 : W5.cell? ⟨g3, 7, none⟩ = some (.int .i64 ((cdig B) 6)) := (blk_cell BKg3.out 7).trans rfl
  have hfg3_7 := blk_frozen BKg3.out 7
  have hcg3_8 : W5.cell? ⟨g3, 8, none⟩ = some (.int .i64 ((cdig B) 7)) := (blk_cell BKg3.out 8).trans rfl
  have hfg3_8 := blk_frozen BKg3.out 8
  have hcg4_0 : W5.cell? ⟨g4, 0, none⟩ = some (.bool false) := (blk_cell BKg4.out 0).trans rfl
  have hfg4_0 := blk_frozen BKg4.out 0
  have hcg4_1 : W5.cell? ⟨g4, 1, none⟩ = some (.int .i64 0) := (blk_cell BKg4.out 1).trans rfl
  have hfg4_1 := blk_frozen BKg4.out 1
  have hcg4_2 : W5.cell? ⟨g4, 2, none⟩ = some (.int .i64 0) := (blk_cell BKg4.out 2).trans rfl
  have hfg4_2 := blk_frozen BKg4.out 2
  have hcg4_3 : W5.cell? ⟨g4, 3, none⟩ = some (.int .i64 0) := (blk_cell BKg4.out 3).trans rfl
  have hfg4_3 := blk_frozen BKg4.out 3
  have hcg4_4 : W5.cell? ⟨g4, 4, none⟩ = some (.int .i64 0) := (blk_cell BKg4.out 4).trans rfl
  have hfg4_4 := blk_frozen BKg4.out 4
  have hcg4_5 : W5.cell? ⟨g4, 5, none⟩ = some (.int .i64 0) := (blk_cell BKg4.out 5).trans rfl
  have hfg4_5 := blk_frozen BKg4.out 5
  have hcg4_6 : W5.cell? ⟨g4, 6, none⟩ = some (.int .i64 0) := (blk_cell BKg4.out 6).trans rfl
  have hfg4_6 := blk_frozen BKg4.out 6
  have hcg4_7 : W5.cell? ⟨g4, 7, none⟩ = some (.int .i64 0) := (blk_cell BKg4.out 7).trans rfl
  have hfg4_7 := blk_frozen BKg4.out 7
  have hcg4_8 : W5.cell? ⟨g4, 8, none⟩ = some (.int .i64 0) := (blk_cell BKg4.out 8).trans rfl
  have hfg4_8 := blk_frozen BKg4.out 8
  have hcg5_0 : W5.cell? ⟨g5, 0, none⟩ = some (.bool (!(ma == mb))) := (blk_cell BKg5.out 0).trans rfl
  have hfg5_0 := blk_frozen BKg5.out 0
  have hcg5_1 : W5.cell? ⟨g5, 1, none⟩ = some (.int .i64 0) := (blk_cell BKg5.out 1).trans rfl
  have hfg5_1 := blk_frozen BKg5.out 1
  have hcg5_2 : W5.cell? ⟨g5, 2, none⟩ = some (.int .i64 0) := (blk_cell BKg5.out 2).trans rfl
  have hfg5_2 := blk_frozen BKg5.out 2
  have hcg5_3 : W5.cell? ⟨g5, 3, none⟩ = some (.int .i64 0) := (blk_cell BKg5.out 3).trans rfl
  have hfg5_3 := blk_frozen BKg5.out 3
  have hcg5_4 : W5.cell? ⟨g5, 4, none⟩ = some (.int .i64 0) := (blk_cell BKg5.out 4).trans rfl
  have hfg5_4 := blk_frozen BKg5.out 4
  have hcg5_5 : W5.cell? ⟨g5, 5, none⟩ = some (.int .i64 0) := (blk_cell BKg5.out 5).trans rfl
  have hfg5_5 := blk_frozen BKg5.out 5
  have hcg5_6 : W5.cell? ⟨g5, 6, none⟩ = some (.int .i64 0) := (blk_cell BKg5.out 6).trans rfl
  have hfg5_6 := blk_frozen BKg5.out 6
  have hcg5_7 : W5.cell? ⟨g5, 7, none⟩ = some (.int .i64 0) := (blk_cell BKg5.out 7).trans rfl
  have hfg5_7 := blk_frozen BKg5.out 7
  have hcg5_8 : W5.cell? ⟨g5, 8, none⟩ = some (.int .i64 0) := (blk_cell BKg5.out 8).trans rfl
  have hfg5_8 := blk_frozen BKg5.out 8
  go_wp2_with (first | ((with_reducible refine gate_dst (N := 6) rfl ?_); refine box_event ?hg (N := 6) ?hd (cs := #[.bool false, .int .i64 0, .int .i64 0, .int .i64 0, .int .i64 0, .int .i64 0, .int .i64 0, .int .i64 0, .int .i64 0]) (t := 60) ?hr ?_; (case hd => rfl); (case hg => rfl); (case hr => first | (go_simp; done) | (go_simp; rfl)); intro g6 hg_ W6 hbox_ hb_; have GEg6 := Aside0.mk ((by rw [hg_]; exact (below_size HB.out)) : w.heap.size ≤ g6); have NBg2_g6 : g2 ≠ g6 := (by rw [hg_]; exact Nat.ne_of_lt (blk_lt BKg2.out)); have NBg6_g2 : g6 ≠ g2 := Ne.symm NBg2_g6; have NBg3_g6 : g3 ≠ g6 := (by rw [hg_]; exact Nat.ne_of_lt (blk_lt BKg3.out)); have NBg6_g3 : g6 ≠ g3 := Ne.symm NBg3_g6; have NBg4_g6 : g4 ≠ g6 := (by rw [hg_]; exact Nat.ne_of_lt (blk_lt BKg4.out)); have NBg6_g4 : g6 ≠ g4 := Ne.symm NBg4_g6; have NBg5_g6 : g5 ≠ g6 := (by rw [hg_]; exact Nat.ne_of_lt (blk_lt BKg5.out)); have NBg6_g5 : g6 ≠ g5 := Ne.symm NBg5_g6; clear hg_; have n_ := Aside0.mk (blk_below BKg2.out hb_); clear BKg2; have BKg2 := n_; clear n_; clear hcg2_0 hfg2_0; clear hcg2_1 hfg2_1; clear hcg2_2 hfg2_2; clear hcg2_3 hfg2_3; clear hcg2_4 hfg2_4; clear hcg2_5 hfg2_5; clear hcg2_6 hfg2_6; clear hcg2_7 hfg2_7; clear hcg2_8 hfg2_8; have n_ := Aside0.mk (blk_below BKg3.out hb_); clear BKg3; have BKg3 := n_; clear n_; clear hcg3_0 hfg3_0; clear hcg3_1 hfg3_1; clear hcg3_2 hfg3_2; clear hcg3_3 hfg3_3; clear hcg3_4 hfg3_4; clear hcg3_5 hfg3_5; clear hcg3_6 hfg3_6; clear hcg3_7 hfg3_7; clear hcg3_8 hfg3_8; have n_ := Aside0.mk (blk_below BKg4.out hb_); clear BKg4; have BKg4 := n_; clear n_; clear hcg4_0 hfg4_0; clear hcg4_1 hfg4_1; clear hcg4_2 hfg4_2; clear hcg4_3 hfg4_3; clear hcg4_4 hfg4_4; clear hcg4_5 hfg4_5; clear hcg4_6 hfg4_6; clear hcg4_7 hfg4_7; clear hcg4_8 hfg4_8; have n_ := Aside0.mk (blk_below BKg5.out hb_); clear BKg5; have BKg5 := n_; clear n_; clear hcg5_0 hfg5_0; clear hcg5_1 hfg5_1; clear hcg5_2 hfg5_2; clear hcg5_3 hfg5_3; clear hcg5_4 hfg5_4; clear hcg5_5 hfg5_5; clear hcg5_6 hfg5_6; clear hcg5_7 hfg5_7; clear hcg5_8 hfg5_8; have n_ := Aside0.mk (below_step HB.out hb_); clear HB; have HB := n_; clear n_; have BKg6 := Aside0.mk hbox_; clear hbox_ hb_; have hcg2_0 : W6.cell? ⟨g2, 0, none⟩ = some (.bool ma) := (blk_cell BKg2.out 0).trans rfl; have hfg2_0 := blk_frozen BKg2.out 0; have hcg2_1 : W6.cell? ⟨g2, 1, none⟩ = some (.int .i64 ((cdig A) 0)) := (blk_cell BKg2.out 1).trans rfl; have hfg2_1 := blk_frozen BKg2.out 1; have hcg2_2 : W6.cell? ⟨g2, 2, none⟩ = some (.int .i64 ((cdig A) 1)) := (blk_cell BKg2.out 2).trans rfl; have hfg2_2 := blk_frozen BKg2.out 2; have hcg2_3 : W6.cell? ⟨g2, 3, none⟩ = some (.int .i64 ((cdig A) 2)) := (blk_cell BKg2.out 3).trans rfl; have hfg2_3 := blk_frozen BKg2.out 3; have hcg2_4 : W6.cell? ⟨g2, 4, none⟩ = some (.int .i64 ((cdig A) 3)) := (blk_cell BKg2.out 4).trans rfl; have hfg2_4 := blk_frozen BKg2.out 4; have hcg2_5 : W6.cell? ⟨g2, 5, none⟩ = some (.int .i64 ((cdig A) 4)) := (blk_cell BKg2.out 5).trans rfl; have hfg2_5 := blk_frozen BKg2.out 5; have hcg2_6 : W6.cell? ⟨g2, 6, none⟩ = some (.int .i64 ((cdig A) 5)) := (blk_cell BKg2.out 6).trans rfl; have hfg2_6 := blk_frozen BKg2.out 6; have hcg2_7 : W6.cell? ⟨g2, 7, none⟩ = some (.int .i64 ((cdig A) 6)) := (blk_cell BKg2.out 7).trans rfl; have hfg2_7 := blk_frozen BKg2.out 7; have hcg2_8 : W6.cell? ⟨g2, 8, none⟩ = some (.int .i64 ((cdig A) 7)) := (blk_cell BKg2.out 8).trans rfl; have hfg2_8 := blk_frozen BKg2.out 8; have hcg3_0 : W6.cell? ⟨g3, 0, none⟩ = some (.bool mb) := (blk_cell BKg3.out 0).trans rfl; have hfg3_0 := blk_frozen BKg3.out 0; have hcg3_1 : W6.cell? ⟨g3, 1, none⟩ = some (.int .i64 ((cdig B) 0)) := (blk_cell BKg3.out 1).trans rfl; have hfg3_1 := blk_frozen BKg3.out 1; have hcg3_2 : W6.cell? ⟨g3, 2, none⟩ = some (.int .i64 ((cdig B) 1)) := (blk_cell BKg3.out 2).trans rfl; have hfg3_2 := blk_frozen BKg3.out 2; have hcg3_3 : W6.cell? ⟨g3, 3, none⟩ = some (.int .i64 ((cdig B) 2)) := (blk_cell BKg3.out 3).trans rfl; have hfg3_3 := blk_frozen BKg3.out 3; have hcg3_4 : W6.cell? ⟨g3, 4, none⟩ = some (.int .i64 ((cdig B) 3)) := (blk_cell BKg3.out 4).trans rfl; have hfg3_4 := blk_frozen BKg3.out 4; have hcg3_5 : W6.cell? ⟨g3, 5, none⟩ = some (.int .i64 ((cdig B) 4)) := (blk_cell BKg3.out 5).trans rfl; have hfg3_5 := blk_frozen BKg3.out 5; have hcg3_6 : W6.cell? ⟨g3, 6, none⟩ = some (.int .i64 ((cdig B) 5)) := (blk_cell BKg3.out 6).trans rfl; have hfg3_6 := blk_frozen BKg3.out 6; have hcg3_7 : W6.cell? ⟨g3, 7, none⟩ = some (.int .i64 ((cdig B) 6)) := (blk_cell BKg3.out 7).trans rfl; have hfg3_7 := blk_frozen BKg3.out 7; have hcg3_8 : W6.cell? ⟨g3, 8, none⟩ = some (.int .i64 ((cdig B) 7)) := (blk_cell BKg3.out 8).trans rfl; have hfg3_8 := blk_frozen BKg3.out 8; have hcg4_0 : W6.cell? ⟨g4, 0, none⟩ = some (.bool false) := (blk_cell BKg4.out 0).trans rfl; have hfg4_0 := blk_frozen BKg4.out 0; have hcg4_1 : W6.cell? ⟨g4, 1, none⟩ = some (.int .i64 0) := (blk_cell BKg4.out 1).trans rfl; have hfg4_1 := blk_frozen BKg4.out 1; have hcg4_2 : W6.cell? ⟨g4, 2, none⟩ = some (.int .i64 0) := (blk_cell BKg4.out 2).trans rfl; have hfg4_2 := blk_frozen BKg4.out 2; have hcg4_3 : W6.cell? ⟨g4, 3, none⟩ = some (.int .i64 0) := (blk_cell BKg4.out 3).trans rfl; have hfg4_3 := blk_frozen BKg4.out 3; have hcg4_4 : W6.cell? ⟨g4, 4, none⟩ = some (.int .i64 0) := (blk_cell BKg4.out 4).trans rfl; have hfg4_4 := blk_frozen BKg4.out 4; have hcg4_5 : W6.cell? ⟨g4, 5, none⟩ = some (.int .i64 0) := (blk_cell BKg4.out 5).trans rfl; have hfg4_5 := blk_frozen BKg4.out 5; have hcg4_6 : W6.cell? ⟨g4, 6, none⟩ = some (.int .i64 0) := (blk_cell BKg4.out 6).trans rfl; have hfg4_6 := blk_frozen BKg4.out 6; have hcg4_7 : W6.cell? ⟨g4, 7, none⟩ = some (.int .i64 0) := (blk_cell BKg4.out 7).trans rfl; have hfg4_7 := blk_frozen BKg4.out 7; have hcg4_8 : W6.cell? ⟨g4, 8, none⟩ = some (.int .i64 0) := (blk_cell BKg4.out 8).trans rfl; have hfg4_8 := blk_frozen BKg4.out 8; have hcg5_0 : W6.cell? ⟨g5, 0, none⟩ = some (.bool (!(ma == mb))) := (blk_cell BKg5.out 0).trans rfl; have hfg5_0 := blk_frozen BKg5.out 0; have hcg5_1 : W6.cell? ⟨g5, 1, none⟩ = some (.int .i64 0) := (blk_cell BKg5.out 1).trans rfl; have hfg5_1 := blk_frozen BKg5.out 1; have hcg5_2 : W6.cell? ⟨g5, 2, none⟩ = some (.int .i64 0) := (blk_cell BKg5.out 2).trans rfl; have hfg5_2 := blk_frozen BKg5.out 2; have hcg5_3 : W6.cell? ⟨g5, 3, none⟩ = some (.int .i64 0) := (blk_cell BKg5.out 3).trans rfl; have hfg5_3 := blk_frozen BKg5.out 3; have hcg5_4 : W6.cell? ⟨g5, 4, none⟩ = some (.int .i64 0) := (blk_cell BKg5.out 4).trans rfl; have hfg5_4 := blk_frozen BKg5.out 4; have hcg5_5 : W6.cell? ⟨g5, 5, none⟩ = some (.int .i64 0) := (blk_cell BKg5.out 5).trans rfl; have hfg5_5 := blk_frozen BKg5.out 5; have hcg5_6 : W6.cell? ⟨g5, 6, none⟩ = some (.int .i64 0) := (blk_cell BKg5.out 6).trans rfl; have hfg5_6 := blk_frozen BKg5.out 6; have hcg5_7 : W6.cell? ⟨g5, 7, none⟩ = some (.int .i64 0) := (blk_cell BKg5.out 7).trans rfl; have hfg5_7 := blk_frozen BKg5.out 7; have hcg5_8 : W6.cell? ⟨g5, 8, none⟩ = some (.int .i64 0) := (blk_cell BKg5.out 8).trans rfl; have hfg5_8 := blk_frozen BKg5.out 8; have hcg6_0 : W6.cell? ⟨g6, 0, none⟩ = some (.bool false) := (blk_cell BKg6.out 0).trans rfl; have hfg6_0 := blk_frozen BKg6.out 0; have hcg6_1 : W6.cell? ⟨g6, 1, none⟩ = some (.int .i64 0) := (blk_cell BKg6.out 1).trans rfl; have hfg6_1 := blk_frozen BKg6.out 1; have hcg6_2 : W6.cell? ⟨g6, 2, none⟩ = some (.int .i64 0) := (blk_cell BKg6.out 2).trans rfl; have hfg6_2 := blk_frozen BKg6.out 2; have hcg6_3 : W6.cell? ⟨g6, 3, none⟩ = some (.int .i64 0) := (blk_cell BKg6.out 3).trans rfl; have hfg6_3 := blk_frozen BKg6.out 3; have hcg6_4 : W6.cell? ⟨g6, 4, none⟩ = some (.int .i64 0) := (blk_cell BKg6.out 4).trans rfl; have hfg6_4 := blk_frozen BKg6.out 4; have hcg6_5 : W6.cell? ⟨g6, 5, none⟩ = some (.int .i64 0) := (blk_cell BKg6.out 5).trans rfl; have hfg6_5 := blk_frozen BKg6.out 5; have hcg6_6 : W6.cell? ⟨g6, 6, none⟩ = some (.int .i64 0) := (blk_cell BKg6.out 6).trans rfl; have hfg6_6 := blk_frozen BKg6.out 6; have hcg6_7 : W6.cell? ⟨g6, 7, none⟩ = some (.int .i64 0) := (blk_cell BKg6.out 7).trans rfl; have hfg6_7 := blk_frozen BKg6.out 7; have hcg6_8 : W6.cell? ⟨g6, 8, none⟩ = some (.int .i64 0) := (blk_cell BKg6.out 8).trans rfl; have hfg6_8 := blk_frozen BKg6.out 8))
  go_loopw [7] (fun vi wr => ∃ (j : Nat) (q r : Int), vi = .int .i64 ((j : Int) - 1) ∧ Aside0 (j ≤ 128) ∧ Aside0 (OvR A B j q r) ∧ Aside0 (wr.heap[g6]? = some (.cells (bigA false (cdig r)) 60 (0, 0))) ∧ Aside0 (wr.heap[g5]? = some (.cells (bigA (!(ma == mb)) (cdig q)) 60 (0, 0))) ∧ Aside0 (wr.heap[g2]? = some (.cells (bigA ma (cdig A)) 60 (0, 0))) ∧ Aside0 (wr.heap[g3]? = some (.cells (bigA mb (cdig B)) 60 (0, 0))) ∧ Aside0 (wr.heap[g4]? = some (.cells #[.bool false, .int .i64 0, .int .i64 0, .int .i64 0, .int .i64 0, .int .i64 0, .int .i64 0, .int .i64 0, .int .i64 0] 60 (0, 0))) ∧ Aside0 (Below w.heap.size w wr)) (fun vi _ => (intOf vi + 1).toNat)
  case atStart => exact ⟨128, 0, 0, rfl, ⟨by omega⟩, ⟨OvR.start ha.nonneg ha.lt hB⟩, ⟨by rw [show bigA false (cdig 0) = #[.bool false, .int .i64 0, .int .i64 0, .int .i64 0, .int .i64 0, .int .i64 0, .int .i64 0, .int .i64 0, .int .i64 0] from by simp [bigA, cdig]]; exact BKg6.out⟩, ⟨by rw [show bigA (!(ma == mb)) (cdig 0) = #[.bool (!(ma == mb)), .int .i64 0, .int .i64 0, .int .i64 0, .int .i64 0, .int .i64 0, .int .i64 0, .int .i64 0, .int .i64 0] from by simp [bigA, cdig]]; exact BKg5.out⟩, BKg2, BKg3, BKg4, HB⟩
  case round =>
    clear BKg2 BKg3 BKg4 BKg5 BKg6 HB hcg2_0 hfg2_0 hcg2_1 hfg2_1 hcg2_2 hfg2_2 hcg2_3 hfg2_3 hcg2_4 hfg2_4 hcg2_5 hfg2_5 hcg2_6 hfg2_6 hcg2_7 hfg2_7 hcg2_8 hfg2_8 hcg3_0 hfg3_0 hcg3_1 hfg3_1 hcg3_2 hfg3_2 hcg3_3 hfg3_3 hcg3_4 hfg3_4 hcg3_5 hfg3_5 hcg3_6 hfg3_6 hcg3_7 hfg3_7 hcg3_8 hfg3_8 hcg4_0 hfg4_0 hcg4_1 hfg4_1 hcg4_2 hfg4_2 hcg4_3 hfg4_3 hcg4_4 hfg4_4 hcg4_5 hfg4_5 hcg4_6 hfg4_6 hcg4_7 hfg4_7 hcg4_8 hfg4_8 hcg5_0 hfg5_0 hcg5_1 hfg5_1 hcg5_2 hfg5_2 hcg5_3 hfg5_3 hcg5_4 hfg5_4 hcg5_5 hfg5_5 hcg5_6 hfg5_6 hcg5_7 hfg5_7 hcg5_8 hfg5_8 hcg6_0 hfg6_0 hcg6_1 hfg6_1 hcg6_2 hfg6_2 hcg6_3 hfg6_3 hcg6_4 hfg6_4 hcg6_5 hfg6_5 hcg6_6 hfg6_6 hcg6_7 hfg6_7 hcg6_8 hfg6_8
    obtain ⟨j, q, r, rfl, Hj, HR, BKg6, BKg5, BKg2, BKg3, BKg4, HB⟩ := hrel
    have hj := Hj.out
    cases j with
    | zero =>
      rw [show (((0 : Nat) : Int) - 1) = -1 from rfl]
      have hq := HR.out.fin
      have hcg5_0 : wr.cell? ⟨g5, 0, none⟩ = some (.bool (!(ma == mb))) := (blk_cell BKg5.out 0).trans rfl; have hfg5_0 := blk_frozen BKg5.out 0
      have hcg5_1 : wr.cell? ⟨g5, 1, none⟩ = some (.int .i64 ((cdig q) 0)) := (blk_cell BKg5.out 1).trans rfl; have hfg5_1 := blk_frozen BKg5.out 1
      have hcg5_2 : wr.cell? ⟨g5, 2, none⟩ = some (.int .i64 ((cdig q) 1)) := (blk_cell BKg5.out 2).trans rfl; have hfg5_2 := blk_frozen BKg5.out 2
      have hcg5_3 : wr.cell? ⟨g5, 3, none⟩ = some (.int .i64 ((cdig q) 2)) := (blk_cell BKg5.out 3).trans rfl; have hfg5_3 := blk_frozen BKg5.out 3
      have hcg5_4 : wr.cell? ⟨g5, 4, none⟩ = some (.int .i64 ((cdig q) 3)) := (blk_cell BKg5.out 4).trans rfl; have hfg5_4 := blk_frozen BKg5.out 4
      have hcg5_5 : wr.cell? ⟨g5, 5, none⟩ = some (.int .i64 ((cdig q) 4)) := (blk_cell BKg5.out 5).trans rfl; have hfg5_5 := blk_frozen BKg5.out 5
      have hcg5_6 : wr.cell? ⟨g5, 6, none⟩ = some (.int .i64 ((cdig q) 5)) := (blk_cell BKg5.out 6).trans rfl; have hfg5_6 := blk_frozen BKg5.out 6
      have hcg5_7 : wr.cell? ⟨g5, 7, none⟩ = some (.int .i64 ((cdig q) 6)) := (blk_cell BKg5.out 7).trans rfl; have hfg5_7 := blk_frozen BKg5.out 7
      have hcg5_8 : wr.cell? ⟨g5, 8, none⟩ = some (.int .i64 ((cdig q) 7)) := (blk_cell BKg5.out 8).trans rfl; have hfg5_8 := blk_frozen BKg5.out 8
      have hcg4_0 : wr.cell? ⟨g4, 0, none⟩ = some (.bool false) := (blk_cell BKg4.out 0).trans rfl; have hfg4_0 := blk_frozen BKg4.out 0
      have hcg4_1 : wr.cell? ⟨g4, 1, none⟩ = some (.int .i64 0) := (blk_cell BKg4.out 1).trans rfl; have hfg4_1 := blk_frozen BKg4.out 1
      have hcg4_2 : wr.cell? ⟨g4, 2, none⟩ = some (.int .i64 0) := (blk_cell BKg4.out 2).trans rfl; have hfg4_2 := blk_frozen BKg4.out 2
      have hcg4_3 : wr.cell? ⟨g4, 3, none⟩ = some (.int .i64 0) := (blk_cell BKg4.out 3).trans rfl; have hfg4_3 := blk_frozen BKg4.out 3
      have hcg4_4 : wr.cell? ⟨g4, 4, none⟩ = some (.int .i64 0) := (blk_cell BKg4.out 4).trans rfl; have hfg4_4 := blk_frozen BKg4.out 4
      have hcg4_5 : wr.cell? ⟨g4, 5, none⟩ = some (.int .i64 0) := (blk_cell BKg4.out 5).trans rfl; have hfg4_5 := blk_frozen BKg4.out 5
      have hcg4_6 : wr.cell? ⟨g4, 6, none⟩ = some (.int .i64 0) := (blk_cell BKg4.out 6).trans rfl; have hfg4_6 := blk_frozen BKg4.out 6
      have hcg4_7 : wr.cell? ⟨g4, 7, none⟩ = some (.int .i64 0) := (blk_cell BKg4.out 7).trans rfl; have hfg4_7 := blk_frozen BKg4.out 7
      have hcg4_8 : wr.cell? ⟨g4, 8, none⟩ = some (.int .i64 0) := (blk_cell BKg4.out 8).trans rfl; have hfg4_8 := blk_frozen BKg4.out 8
      have HQ := Lib.hid hq; clear hq
      go_wp2
      refine bodyPost_ret (results_cell_row rfl _ _ g4 60 #[.bool (!(ma == mb)), .int .i64 ((cdig q) 0), .int .i64 ((cdig q) 1), .int .i64 ((cdig q) 2), .int .i64 ((cdig q) 3), .int .i64 ((cdig q) 4), .int .i64 ((cdig q) 5), .int .i64 ((cdig q) 6), .int .i64 ((cdig q) 7)] (0, 0) _ rfl (by (with_reducible repeat (first | refine blk_drewN ?_ _ | refine blk_drew ?_ | refine blk_alloc ?_ _)); refine blk_put (cs := #[.bool (!(ma == mb)), .int .i64 ((cdig q) 0), .int .i64 ((cdig q) 1), .int .i64 ((cdig q) 2), .int .i64 ((cdig q) 3), .int .i64 ((cdig q) 4), .int .i64 ((cdig q) 5), .int .i64 ((cdig q) 6), .int .i64 0]) ?_ 8 _ rfl; (with_reducible repeat (first | refine blk_drewN ?_ _ | refine blk_drew ?_ | refine blk_alloc ?_ _)); refine blk_put (cs := #[.bool (!(ma == mb)), .int .i64 ((cdig q) 0), .int .i64 ((cdig q) 1), .int .i64 ((cdig q) 2), .int .i64 ((cdig q) 3), .int .i64 ((cdig q) 4), .int .i64 ((cdig q) 5), .int .i64 0, .int .i64 0]) ?_ 7 _ rfl; (with_reducible repeat (first | refine blk_drewN ?_ _ | refine blk_drew ?_ | refine blk_alloc ?_ _)); refine blk_put (cs := #[.bool (!(ma == mb)), .int .i64 ((cdig q) 0), .int .i64 ((cdig q) 1), .int .i64 ((cdig q) 2), .int .i64 ((cdig q) 3), .int .i64 ((cdig q) 4), .int .i64 0, .int .i64 0, .int .i64 0]) ?_ 6 _ rfl; (with_reducible repeat (first | refine blk_drewN ?_ _ | refine blk_drew ?_ | refine blk_alloc ?_ _)); refine blk_put (cs := #[.bool (!(ma == mb)), .int .i64 ((cdig q) 0), .int .i64 ((cdig q) 1), .int .i64 ((cdig q) 2), .int .i64 ((cdig q) 3), .int .i64 0, .int .i64 0, .int .i64 0, .int .i64 0]) ?_ 5 _ rfl; (with_reducible repeat (first | refine blk_drewN ?_ _ | refine blk_drew ?_ | refine blk_alloc ?_ _)); refine blk_put (cs := #[.bool (!(ma == mb)), .int .i64 ((cdig q) 0), .int .i64 ((cdig q) 1), .int .i64 ((cdig q) 2), .int .i64 0, .int .i64 0, .int .i64 0, .int .i64 0, .int .i64 0]) ?_ 4 _ rfl; (with_reducible repeat (first | refine blk_drewN ?_ _ | refine blk_drew ?_ | refine blk_alloc ?_ _)); refine blk_put (cs := #[.bool (!(ma == mb)), .int .i64 ((cdig q) 0), .int .i64 ((cdig q) 1), .int .i64 0, .int .i64 0, .int .i64 0, .int .i64 0, .int .i64 0, .int .i64 0]) ?_ 3 _ rfl; (with_reducible repeat (first | refine blk_drewN ?_ _ | refine blk_drew ?_ | refine blk_alloc ?_ _)); refine blk_put (cs := #[.bool (!(ma == mb)), .int .i64 ((cdig q) 0), .int .i64 0, .int .i64 0, .int .i64 0, .int .i64 0, .int .i64 0, .int .i64 0, .int .i64 0]) ?_ 2 _ rfl; (with_reducible repeat (first | refine blk_drewN ?_ _ | refine blk_drew ?_ | refine blk_alloc ?_ _)); refine blk_put (cs := #[.bool (!(ma == mb)), .int .i64 0, .int .i64 0, .int .i64 0, .int .i64 0, .int .i64 0, .int .i64 0, .int .i64 0, .int .i64 0]) ?_ 1 _ rfl; (with_reducible repeat (first | refine blk_drewN ?_ _ | refine blk_drew ?_ | refine blk_alloc ?_ _)); refine blk_put (cs := #[.bool false, .int .i64 0, .int .i64 0, .int .i64 0, .int .i64 0, .int .i64 0, .int .i64 0, .int .i64 0, .int .i64 0]) ?_ 0 _ rfl; (with_reducible repeat (first | refine blk_drewN ?_ _ | refine blk_drew ?_ | refine blk_alloc ?_ _)); exact BKg4.out) Tryd.underlying60 rfl (by kernel_rfl)) rfl ?_
      exact ⟨by rw [← HQ.out]; rfl, by repeat (first | (with_reducible first | exact HB.out | apply below_alloc | apply pw_below_drewN | apply below_drew1 | refine below_set ?_ GEg4.out) | exact HB.out)⟩
    | succ k =>
      rw [show (((k + 1 : Nat) : Int) - 1) = (k : Int) from by omega]
      obtain ⟨d, hd⟩ : ∃ d : Nat, d = k / 16 := ⟨_, rfl⟩
      obtain ⟨e, he⟩ : ∃ e : Nat, e = k % 16 := ⟨_, rfl⟩
      have hd8 : d < 8 := by omega
      have he16 : e < 16 := by omega
      have x1 : (k : Int) / 16 = (d : Int) := by omega
      have x2 : (k : Int) % 16 = (e : Int) := by omega
      have x3 : (k : Int).tdiv 16 = (d : Int) := by rw [Int.tdiv_eq_ediv_of_nonneg (by omega)]; exact x1
      have x4 : (k : Int).tmod 16 = (e : Int) := by rw [Int.tmod_eq_emod_of_nonneg (by omega)]; exact x2
      have x5 : IntKind.i64.wrap (d : Int) = (d : Int) := by rw [wrap_i64]; omega
      have x6 : IntKind.i64.wrap (e : Int) = (e : Int) := by rw [wrap_i64]; omega
      have x7 : (0 : Int) ≤ (d : Int) := by omega
      have x8 : (d : Int) < 8 := by omega
      obtain ⟨y, hy⟩ : ∃ y, y = cdig A d := ⟨_, rfl⟩
      have y01 := ha.dig d hd8; rw [← hy] at y01; obtain ⟨y0, y1⟩ := y01
      have c2 : wr.cell? ⟨g2, 1 + d, none⟩ = some (.int .i64 y) := (blk_cell BKg2.out (1 + d)).trans ((big_get ma (cdig A) hd8).trans (by rw [hy]))
      have HY := Lib.hid hy; have HD := Lib.hid hd; have HE := Lib.hid he; clear hy hd he
      have hcg6_0 : wr.cell? ⟨g6, 0, none⟩ = some (.bool false) := (blk_cell BKg6.out 0).trans rfl; have hfg6_0 := blk_frozen BKg6.out 0
      have hcg6_1 : wr.cell? ⟨g6, 1, none⟩ = some (.int .i64 ((cdig r) 0)) := (blk_cell BKg6.out 1).trans rfl; have hfg6_1 := blk_frozen BKg6.out 1
      have hcg6_2 : wr.cell? ⟨g6, 2, none⟩ = some (.int .i64 ((cdig r) 1)) := (blk_cell BKg6.out 2).trans rfl; have hfg6_2 := blk_frozen BKg6.out 2
      have hcg6_3 : wr.cell? ⟨g6, 3, none⟩ = some (.int .i64 ((cdig r) 2)) := (blk_cell BKg6.out 3).trans rfl; have hfg6_3 := blk_frozen BKg6.out 3
      have hcg6_4 : wr.cell? ⟨g6, 4, none⟩ = some (.int .i64 ((cdig r) 3)) := (blk_cell BKg6.out 4).trans rfl; have hfg6_4 := blk_frozen BKg6.out 4
      have hcg6_5 : wr.cell? ⟨g6, 5, none⟩ = some (.int .i64 ((cdig r) 4)) := (blk_cell BKg6.out 5).trans rfl; have hfg6_5 := blk_frozen BKg6.out 5
      have hcg6_6 : wr.cell? ⟨g6, 6, none⟩ = some (.int .i64 ((cdig r) 5)) := (blk_cell BKg6.out 6).trans rfl; have hfg6_6 := blk_frozen BKg6.out 6
      have hcg6_7 : wr.cell? ⟨g6, 7, none⟩ = some (.int .i64 ((cdig r) 6)) := (blk_cell BKg6.out 7).trans rfl; have hfg6_7 := blk_frozen BKg6.out 7
      have hcg6_8 : wr.cell? ⟨g6, 8, none⟩ = some (.int .i64 ((cdig r) 7)) := (blk_cell BKg6.out 8).trans rfl; have hfg6_8 := blk_frozen BKg6.out 8
      have hcg5_0 : wr.cell? ⟨g5, 0, none⟩ = some (.bool (!(ma == mb))) := (blk_cell BKg5.out 0).trans rfl; have hfg5_0 := blk_frozen BKg5.out 0
      have hcg5_1 : wr.cell? ⟨g5, 1, none⟩ = some (.int .i64 ((cdig q) 0)) := (blk_cell BKg5.out 1).trans rfl; have hfg5_1 := blk_frozen BKg5.out 1
      have hcg5_2 : wr.cell? ⟨g5, 2, none⟩ = some (.int .i64 ((cdig q) 1)) := (blk_cell BKg5.out 2).trans rfl; have hfg5_2 := blk_frozen BKg5.out 2
      have hcg5_3 : wr.cell? ⟨g5, 3, none⟩ = some (.int .i64 ((cdig q) 2)) := (blk_cell BKg5.out 3).trans rfl; have hfg5_3 := blk_frozen BKg5.out 3
      have hcg5_4 : wr.cell? ⟨g5, 4, none⟩ = some (.int .i64 ((cdig q) 3)) := (blk_cell BKg5.out 4).trans rfl; have hfg5_4 := blk_frozen BKg5.out 4
      have hcg5_5 : wr.cell? ⟨g5, 5, none⟩ = some (.int .i64 ((cdig q) 4)) := (blk_cell BKg5.out 5).trans rfl; have hfg5_5 := blk_frozen BKg5.out 5
      have hcg5_6 : wr.cell? ⟨g5, 6, none⟩ = some (.int .i64 ((cdig q) 5)) := (blk_cell BKg5.out 6).trans rfl; have hfg5_6 := blk_frozen BKg5.out 6
      have hcg5_7 : wr.cell? ⟨g5, 7, none⟩ = some (.int .i64 ((cdig q) 6)) := (blk_cell BKg5.out 7).trans rfl; have hfg5_7 := blk_frozen BKg5.out 7
      have hcg5_8 : wr.cell? ⟨g5, 8, none⟩ = some (.int .i64 ((cdig q) 7)) := (blk_cell BKg5.out 8).trans rfl; have hfg5_8 := blk_frozen BKg5.out 8
      have hcg2_0 : wr.cell? ⟨g2, 0, none⟩ = some (.bool ma) := (blk_cell BKg2.out 0).trans rfl; have hfg2_0 := blk_frozen BKg2.out 0
      have hcg2_1 : wr.cell? ⟨g2, 1, none⟩ = some (.int .i64 ((cdig A) 0)) := (blk_cell BKg2.out 1).trans rfl; have hfg2_1 := blk_frozen BKg2.out 1
      have hcg2_2 : wr.cell? ⟨g2, 2, none⟩ = some (.int .i64 ((cdig A) 1)) := (blk_cell BKg2.out 2).trans rfl; have hfg2_2 := blk_frozen BKg2.out 2
      have hcg2_3 : wr.cell? ⟨g2, 3, none⟩ = some (.int .i64 ((cdig A) 2)) := (blk_cell BKg2.out 3).trans rfl; have hfg2_3 := blk_frozen BKg2.out 3
      have hcg2_4 : wr.cell? ⟨g2, 4, none⟩ = some (.int .i64 ((cdig A) 3)) := (blk_cell BKg2.out 4).trans rfl; have hfg2_4 := blk_frozen BKg2.out 4
      have hcg2_5 : wr.cell? ⟨g2, 5, none⟩ = some (.int .i64 ((cdig A) 4)) := (blk_cell BKg2.out 5).trans rfl; have hfg2_5 := blk_frozen BKg2.out 5
      have hcg2_6 : wr.cell? ⟨g2, 6, none⟩ = some (.int .i64 ((cdig A) 5)) := (blk_cell BKg2.out 6).trans rfl; have hfg2_6 := blk_frozen BKg2.out 6
      have hcg2_7 : wr.cell? ⟨g2, 7, none⟩ = some (.int .i64 ((cdig A) 6)) := (blk_cell BKg2.out 7).trans rfl; have hfg2_7 := blk_frozen BKg2.out 7
      have hcg2_8 : wr.cell? ⟨g2, 8, none⟩ = some (.int .i64 ((cdig A) 7)) := (blk_cell BKg2.out 8).trans rfl; have hfg2_8 := blk_frozen BKg2.out 8
      have hcg3_0 : wr.cell? ⟨g3, 0, none⟩ = some (.bool mb) := (blk_cell BKg3.out 0).trans rfl; have hfg3_0 := blk_frozen BKg3.out 0
      have hcg3_1 : wr.cell? ⟨g3, 1, none⟩ = some (.int .i64 ((cdig B) 0)) := (blk_cell BKg3.out 1).trans rfl; have hfg3_1 := blk_frozen BKg3.out 1
      have hcg3_2 : wr.cell? ⟨g3, 2, none⟩ = some (.int .i64 ((cdig B) 1)) := (blk_cell BKg3.out 2).trans rfl; have hfg3_2 := blk_frozen BKg3.out 2
      have hcg3_3 : wr.cell? ⟨g3, 3, none⟩ = some (.int .i64 ((cdig B) 2)) := (blk_cell BKg3.out 3).trans rfl; have hfg3_3 := blk_frozen BKg3.out 3
      have hcg3_4 : wr.cell? ⟨g3, 4, none⟩ = some (.int .i64 ((cdig B) 3)) := (blk_cell BKg3.out 4).trans rfl; have hfg3_4 := blk_frozen BKg3.out 4
      have hcg3_5 : wr.cell? ⟨g3, 5, none⟩ = some (.int .i64 ((cdig B) 4)) := (blk_cell BKg3.out 5).trans rfl; have hfg3_5 := blk_frozen BKg3.out 5
      have hcg3_6 : wr.cell? ⟨g3, 6, none⟩ = some (.int .i64 ((cdig B) 5)) := (blk_cell BKg3.out 6).trans rfl; have hfg3_6 := blk_frozen BKg3.out 6
      have hcg3_7 : wr.cell? ⟨g3, 7, none⟩ = some (.int .i64 ((cdig B) 6)) := (blk_cell BKg3.out 7).trans rfl; have hfg3_7 := blk_frozen BKg3.out 7
      have hcg3_8 : wr.cell? ⟨g3, 8, none⟩ = some (.int .i64 ((cdig B) 7)) := (blk_cell BKg3.out 8).trans rfl; have hfg3_8 := blk_frozen BKg3.out 8
      have hcg4_0 : wr.cell? ⟨g4, 0, none⟩ = some (.bool false) := (blk_cell BKg4.out 0).trans rfl; have hfg4_0 := blk_frozen BKg4.out 0
      have hcg4_1 : wr.cell? ⟨g4, 1, none⟩ = some (.int .i64 0) := (blk_cell BKg4.out 1).trans rfl; have hfg4_1 := blk_frozen BKg4.out 1
      have hcg4_2 : wr.cell? ⟨g4, 2, none⟩ = some (.int .i64 0) := (blk_cell BKg4.out 2).trans rfl; have hfg4_2 := blk_frozen BKg4.out 2
      have hcg4_3 : wr.cell? ⟨g4, 3, none⟩ = some (.int .i64 0) := (blk_cell BKg4.out 3).trans rfl; have hfg4_3 := blk_frozen BKg4.out 3
      have hcg4_4 : wr.cell? ⟨g4, 4, none⟩ = some (.int .i64 0) := (blk_cell BKg4.out 4).trans rfl; have hfg4_4 := blk_frozen BKg4.out 4
      have hcg4_5 : wr.cell? ⟨g4, 5, none⟩ = some (.int .i64 0) := (blk_cell BKg4.out 5).trans rfl; have hfg4_5 := blk_frozen BKg4.out 5
      have hcg4_6 : wr.cell? ⟨g4, 6, none⟩ = some (.int .i64 0) := (blk_cell BKg4.out 6).trans rfl; have hfg4_6 := blk_frozen BKg4.out 6
      have hcg4_7 : wr.cell? ⟨g4, 7, none⟩ = some (.int .i64 0) := (blk_cell BKg4.out 7).trans rfl; have hfg4_7 := blk_frozen BKg4.out 7
      have hcg4_8 : wr.cell? ⟨g4, 8, none⟩ = some (.int .i64 0) := (blk_cell BKg4.out 8).trans rfl; have hfg4_8 := blk_frozen BKg4.out 8
      go_wp2
      obtain ⟨b01, hb01⟩ : ∃ b, b = A / 2 ^ k % 2 := ⟨_, rfl⟩
      have hrr : Rep (cdig r) r := rep_cdig HR.out.r0 (by have := HR.out.rB; omega)
      have hb0 : 0 ≤ b01 := by omega
      have hb1 : b01 ≤ 1 := by omega
      have hbb : 2 * r + b01 < 340282366920938463463374607431768211456 := by have := HR.out.rB; omega
      have xa : Go.bits .and .i64 (y / 2 ^ e) 1 = b01 := by rw [and_one, HY.out, HD.out, HE.out, bit_of, hb01]
      have HB01 := Lib.hid hb01; clear hb01
      obtain ⟨x, hx⟩ : ∃ x, x = 2 * r + b01 := ⟨_, rfl⟩
      have HX := Lib.hid hx; clear hx
      go_region_with (first | (go_at_call 64; (with_reducible refine (double_ex false r b01 x _ hrr hb0 hb1 hbb HX.out).mono ?_); rintro e_ W_ ⟨rfl, hb_⟩; clear c2; have n_ := Aside0.mk (blk_below (g := g6) (show _ from by first | exact BKg6.out | exact blk_drew BKg6.out) hb_); clear BKg6; have BKg6 := n_; clear n_; have n_ := Aside0.mk (blk_below (g := g5) (show _ from by first | exact BKg5.out | exact blk_drew BKg5.out) hb_); clear BKg5; have BKg5 := n_; clear n_; have n_ := Aside0.mk (blk_below (g := g2) (show _ from by first | exact BKg2.out | exact blk_drew BKg2.out) hb_); clear BKg2; have BKg2 := n_; clear n_; have n_ := Aside0.mk (blk_below (g := g3) (show _ from by first | exact BKg3.out | exact blk_drew BKg3.out) hb_); clear BKg3; have BKg3 := n_; clear n_; have n_ := Aside0.mk (blk_below (g := g4) (show _ from by first | exact BKg4.out | exact blk_drew BKg4.out) hb_); clear BKg4; have BKg4 := n_; clear n_; have n_ := Aside0.mk (below_step (by first | exact HB.out | exact below_drew1 HB.out) hb_); clear HB; have HB := n_; clear n_; clear hb_; clear hcg6_0 hfg6_0; clear hcg6_1 hfg6_1; clear hcg6_2 hfg6_2; clear hcg6_3 hfg6_3; clear hcg6_4 hfg6_4; clear hcg6_5 hfg6_5; clear hcg6_6 hfg6_6; clear hcg6_7 hfg6_7; clear hcg6_8 hfg6_8; clear hcg5_0 hfg5_0; clear hcg5_1 hfg5_1; clear hcg5_2 hfg5_2; clear hcg5_3 hfg5_3; clear hcg5_4 hfg5_4; clear hcg5_5 hfg5_5; clear hcg5_6 hfg5_6; clear hcg5_7 hfg5_7; clear hcg5_8 hfg5_8; clear hcg2_0 hfg2_0; clear hcg2_1 hfg2_1; clear hcg2_2 hfg2_2; clear hcg2_3 hfg2_3; clear hcg2_4 hfg2_4; clear hcg2_5 hfg2_5; clear hcg2_6 hfg2_6; clear hcg2_7 hfg2_7; clear hcg2_8 hfg2_8; clear hcg3_0 hfg3_0; clear hcg3_1 hfg3_1; clear hcg3_2 hfg3_2; clear hcg3_3 hfg3_3; clear hcg3_4 hfg3_4; clear hcg3_5 hfg3_5; clear hcg3_6 hfg3_6; clear hcg3_7 hfg3_7; clear hcg3_8 hfg3_8; clear hcg4_0 hfg4_0; clear hcg4_1 hfg4_1; clear hcg4_2 hfg4_2; clear hcg4_3 hfg4_3; clear hcg4_4 hfg4_4; clear hcg4_5 hfg4_5; clear hcg4_6 hfg4_6; clear hcg4_7 hfg4_7; clear hcg4_8 hfg4_8; have hcg6_0 : W_.cell? ⟨g6, 0, none⟩ = some (.bool false) := (blk_cell BKg6.out 0).trans rfl; have hfg6_0 := blk_frozen BKg6.out 0; have hcg6_1 : W_.cell? ⟨g6, 1, none⟩ = some (.int .i64 ((cdig r) 0)) := (blk_cell BKg6.out 1).trans rfl; have hfg6_1 := blk_frozen BKg6.out 1; have hcg6_2 : W_.cell? ⟨g6, 2, none⟩ = some (.int .i64 ((cdig r) 1)) := (blk_cell BKg6.out 2).trans rfl; have hfg6_2 := blk_frozen BKg6.out 2; have hcg6_3 : W_.cell? ⟨g6, 3, none⟩ = some (.int .i64 ((cdig r) 2)) := (blk_cell BKg6.out 3).trans rfl; have hfg6_3 := blk_frozen BKg6.out 3; have hcg6_4 : W_.cell? ⟨g6, 4, none⟩ = some (.int .i64 ((cdig r) 3)) := (blk_cell BKg6.out 4).trans rfl; have hfg6_4 := blk_frozen BKg6.out 4; have hcg6_5 : W_.cell? ⟨g6, 5, none⟩ = some (.int .i64 ((cdig r) 4)) := (blk_cell BKg6.out 5).trans rfl; have hfg6_5 := blk_frozen BKg6.out 5; have hcg6_6 : W_.cell? ⟨g6, 6, none⟩ = some (.int .i64 ((cdig r) 5)) := (blk_cell BKg6.out 6).trans rfl; have hfg6_6 := blk_frozen BKg6.out 6; have hcg6_7 : W_.cell? ⟨g6, 7, none⟩ = some (.int .i64 ((cdig r) 6)) := (blk_cell BKg6.out 7).trans rfl; have hfg6_7 := blk_frozen BKg6.out 7; have hcg6_8 : W_.cell? ⟨g6, 8, none⟩ = some (.int .i64 ((cdig r) 7)) := (blk_cell BKg6.out 8).trans rfl; have hfg6_8 := blk_frozen BKg6.out 8; have hcg5_0 : W_.cell? ⟨g5, 0, none⟩ = some (.bool (!(ma == mb))) := (blk_cell BKg5.out 0).trans rfl; have hfg5_0 := blk_frozen BKg5.out 0; have hcg5_1 : W_.cell? ⟨g5, 1, none⟩ = some (.int .i64 ((cdig q) 0)) := (blk_cell BKg5.out 1).trans rfl; have hfg5_1 := blk_frozen BKg5.out 1; have hcg5_2 : W_.cell? ⟨g5, 2, none⟩ = some (.int .i64 ((cdig q) 1)) := (blk_cell BKg5.out 2).trans rfl; have hfg5_2 := blk_frozen BKg5.out 2; have hcg5_3 : W_.cell? ⟨g5, 3, none⟩ = some (.int .i64 ((cdig q) 2)) := (blk_cell BKg5.out 3).trans rfl; have hfg5_3 := blk_frozen BKg5.out 3; have hcg5_4 : W_.cell? ⟨g5, 4, none⟩ = some (.int .i64 ((cdig q) 3)) := (blk_cell BKg5.out 4).trans rfl; have hfg5_4 := blk_frozen BKg5.out 4; have hcg5_5 : W_.cell? ⟨g5, 5, none⟩ = some (.int .i64 ((cdig q) 4)) := (blk_cell BKg5.out 5).trans rfl; have hfg5_5 := blk_frozen BKg5.out 5; have hcg5_6 : W_.cell? ⟨g5, 6, none⟩ = some (.int .i64 ((cdig q) 5)) := (blk_cell BKg5.out 6).trans rfl; have hfg5_6 := blk_frozen BKg5.out 6; have hcg5_7 : W_.cell? ⟨g5, 7, none⟩ = some (.int .i64 ((cdig q) 6)) := (blk_cell BKg5.out 7).trans rfl; have hfg5_7 := blk_frozen BKg5.out 7; have hcg5_8 : W_.cell? ⟨g5, 8, none⟩ = some (.int .i64 ((cdig q) 7)) := (blk_cell BKg5.out 8).trans rfl; have hfg5_8 := blk_frozen BKg5.out 8; have hcg2_0 : W_.cell? ⟨g2, 0, none⟩ = some (.bool ma) := (blk_cell BKg2.out 0).trans rfl; have hfg2_0 := blk_frozen BKg2.out 0; have hcg2_1 : W_.cell? ⟨g2, 1, none⟩ = some (.int .i64 ((cdig A) 0)) := (blk_cell BKg2.out 1).trans rfl; have hfg2_1 := blk_frozen BKg2.out 1; have hcg2_2 : W_.cell? ⟨g2, 2, none⟩ = some (.int .i64 ((cdig A) 1)) := (blk_cell BKg2.out 2).trans rfl; have hfg2_2 := blk_frozen BKg2.out 2; have hcg2_3 : W_.cell? ⟨g2, 3, none⟩ = some (.int .i64 ((cdig A) 2)) := (blk_cell BKg2.out 3).trans rfl; have hfg2_3 := blk_frozen BKg2.out 3; have hcg2_4 : W_.cell? ⟨g2, 4, none⟩ = some (.int .i64 ((cdig A) 3)) := (blk_cell BKg2.out 4).trans rfl; have hfg2_4 := blk_frozen BKg2.out 4; have hcg2_5 : W_.cell? ⟨g2, 5, none⟩ = some (.int .i64 ((cdig A) 4)) := (blk_cell BKg2.out 5).trans rfl; have hfg2_5 := blk_frozen BKg2.out 5; have hcg2_6 : W_.cell? ⟨g2, 6, none⟩ = some (.int .i64 ((cdig A) 5)) := (blk_cell BKg2.out 6).trans rfl; have hfg2_6 := blk_frozen BKg2.out 6; have hcg2_7 : W_.cell? ⟨g2, 7, none⟩ = some (.int .i64 ((cdig A) 6)) := (blk_cell BKg2.out 7).trans rfl; have hfg2_7 := blk_frozen BKg2.out 7; have hcg2_8 : W_.cell? ⟨g2, 8, none⟩ = some (.int .i64 ((cdig A) 7)) := (blk_cell BKg2.out 8).trans rfl; have hfg2_8 := blk_frozen BKg2.out 8; have hcg3_0 : W_.cell? ⟨g3, 0, none⟩ = some (.bool mb) := (blk_cell BKg3.out 0).trans rfl; have hfg3_0 := blk_frozen BKg3.out 0; have hcg3_1 : W_.cell? ⟨g3, 1, none⟩ = some (.int .i64 ((cdig B) 0)) := (blk_cell BKg3.out 1).trans rfl; have hfg3_1 := blk_frozen BKg3.out 1; have hcg3_2 : W_.cell? ⟨g3, 2, none⟩ = some (.int .i64 ((cdig B) 1)) := (blk_cell BKg3.out 2).trans rfl; have hfg3_2 := blk_frozen BKg3.out 2; have hcg3_3 : W_.cell? ⟨g3, 3, none⟩ = some (.int .i64 ((cdig B) 2)) := (blk_cell BKg3.out 3).trans rfl; have hfg3_3 := blk_frozen BKg3.out 3; have hcg3_4 : W_.cell? ⟨g3, 4, none⟩ = some (.int .i64 ((cdig B) 3)) := (blk_cell BKg3.out 4).trans rfl; have hfg3_4 := blk_frozen BKg3.out 4; have hcg3_5 : W_.cell? ⟨g3, 5, none⟩ = some (.int .i64 ((cdig B) 4)) := (blk_cell BKg3.out 5).trans rfl; have hfg3_5 := blk_frozen BKg3.out 5; have hcg3_6 : W_.cell? ⟨g3, 6, none⟩ = some (.int .i64 ((cdig B) 5)) := (blk_cell BKg3.out 6).trans rfl; have hfg3_6 := blk_frozen BKg3.out 6; have hcg3_7 : W_.cell? ⟨g3, 7, none⟩ = some (.int .i64 ((cdig B) 6)) := (blk_cell BKg3.out 7).trans rfl; have hfg3_7 := blk_frozen BKg3.out 7; have hcg3_8 : W_.cell? ⟨g3, 8, none⟩ = some (.int .i64 ((cdig B) 7)) := (blk_cell BKg3.out 8).trans rfl; have hfg3_8 := blk_frozen BKg3.out 8; have hcg4_0 : W_.cell? ⟨g4, 0, none⟩ = some (.bool false) := (blk_cell BKg4.out 0).trans rfl; have hfg4_0 := blk_frozen BKg4.out 0; have hcg4_1 : W_.cell? ⟨g4, 1, none⟩ = some (.int .i64 0) := (blk_cell BKg4.out 1).trans rfl; have hfg4_1 := blk_frozen BKg4.out 1; have hcg4_2 : W_.cell? ⟨g4, 2, none⟩ = some (.int .i64 0) := (blk_cell BKg4.out 2).trans rfl; have hfg4_2 := blk_frozen BKg4.out 2; have hcg4_3 : W_.cell? ⟨g4, 3, none⟩ = some (.int .i64 0) := (blk_cell BKg4.out 3).trans rfl; have hfg4_3 := blk_frozen BKg4.out 3; have hcg4_4 : W_.cell? ⟨g4, 4, none⟩ = some (.int .i64 0) := (blk_cell BKg4.out 4).trans rfl; have hfg4_4 := blk_frozen BKg4.out 4; have hcg4_5 : W_.cell? ⟨g4, 5, none⟩ = some (.int .i64 0) := (blk_cell BKg4.out 5).trans rfl; have hfg4_5 := blk_frozen BKg4.out 5; have hcg4_6 : W_.cell? ⟨g4, 6, none⟩ = some (.int .i64 0) := (blk_cell BKg4.out 6).trans rfl; have hfg4_6 := blk_frozen BKg4.out 6; have hcg4_7 : W_.cell? ⟨g4, 7, none⟩ = some (.int .i64 0) := (blk_cell BKg4.out 7).trans rfl; have hfg4_7 := blk_frozen BKg4.out 7; have hcg4_8 : W_.cell? ⟨g4, 8, none⟩ = some (.int .i64 0) := (blk_cell BKg4.out 8).trans rfl; have hfg4_8 := blk_frozen BKg4.out 8; have c2 : W_.cell? ⟨g2, 1 + d, none⟩ = some (.int .i64 y) := (blk_cell BKg2.out (1 + d)).trans ((big_get ma (cdig A) hd8).trans (by rw [HY.out]))))
      all_goals
        clear c2
        have n_ : Aside0 ((((((((((W_.setCell ⟨g6, 0, none⟩ (.bool false)).setCell ⟨g6, 1, none⟩ (.int .i64 ((cdig x) 0))).setCell ⟨g6, 2, none⟩ (.int .i64 ((cdig x) 1))).setCell ⟨g6, 3, none⟩ (.int .i64 ((cdig x) 2))).setCell ⟨g6, 4, none⟩ (.int .i64 ((cdig x) 3))).setCell ⟨g6, 5, none⟩ (.int .i64 ((cdig x) 4))).setCell ⟨g6, 6, none⟩ (.int .i64 ((cdig x) 5))).setCell ⟨g6, 7, none⟩ (.int .i64 ((cdig x) 6))).setCell ⟨g6, 8, none⟩ (.int .i64 ((cdig x) 7))).heap[g6]? = some (.cells #[.bool false, .int .i64 ((cdig x) 0), .int .i64 ((cdig x) 1), .int .i64 ((cdig x) 2), .int .i64 ((cdig x) 3), .int .i64 ((cdig x) 4), .int .i64 ((cdig x) 5), .int .i64 ((cdig x) 6), .int .i64 ((cdig x) 7)] 60 (0, 0))) := ⟨by refine blk_put (cs := #[.bool false, .int .i64 ((cdig x) 0), .int .i64 ((cdig x) 1), .int .i64 ((cdig x) 2), .int .i64 ((cdig x) 3), .int .i64 ((cdig x) 4), .int .i64 ((cdig x) 5), .int .i64 ((cdig x) 6), .int .i64 ((cdig r) 7)]) ?_ 8 _ rfl; refine blk_put (cs := #[.bool false, .int .i64 ((cdig x) 0), .int .i64 ((cdig x) 1), .int .i64 ((cdig x) 2), .int .i64 ((cdig x) 3), .int .i64 ((cdig x) 4), .int .i64 ((cdig x) 5), .int .i64 ((cdig r) 6), .int .i64 ((cdig r) 7)]) ?_ 7 _ rfl; refine blk_put (cs := #[.bool false, .int .i64 ((cdig x) 0), .int .i64 ((cdig x) 1), .int .i64 ((cdig x) 2), .int .i64 ((cdig x) 3), .int .i64 ((cdig x) 4), .int .i64 ((cdig r) 5), .int .i64 ((cdig r) 6), .int .i64 ((cdig r) 7)]) ?_ 6 _ rfl; refine blk_put (cs := #[.bool false, .int .i64 ((cdig x) 0), .int .i64 ((cdig x) 1), .int .i64 ((cdig x) 2), .int .i64 ((cdig x) 3), .int .i64 ((cdig r) 4), .int .i64 ((cdig r) 5), .int .i64 ((cdig r) 6), .int .i64 ((cdig r) 7)]) ?_ 5 _ rfl; refine blk_put (cs := #[.bool false, .int .i64 ((cdig x) 0), .int .i64 ((cdig x) 1), .int .i64 ((cdig x) 2), .int .i64 ((cdig r) 3), .int .i64 ((cdig r) 4), .int .i64 ((cdig r) 5), .int .i64 ((cdig r) 6), .int .i64 ((cdig r) 7)]) ?_ 4 _ rfl; refine blk_put (cs := #[.bool false, .int .i64 ((cdig x) 0), .int .i64 ((cdig x) 1), .int .i64 ((cdig r) 2), .int .i64 ((cdig r) 3), .int .i64 ((cdig r) 4), .int .i64 ((cdig r) 5), .int .i64 ((cdig r) 6), .int .i64 ((cdig r) 7)]) ?_ 3 _ rfl; refine blk_put (cs := #[.bool false, .int .i64 ((cdig x) 0), .int .i64 ((cdig r) 1), .int .i64 ((cdig r) 2), .int .i64 ((cdig r) 3), .int .i64 ((cdig r) 4), .int .i64 ((cdig r) 5), .int .i64 ((cdig r) 6), .int .i64 ((cdig r) 7)]) ?_ 2 _ rfl; refine blk_put (cs := #[.bool false, .int .i64 ((cdig r) 0), .int .i64 ((cdig r) 1), .int .i64 ((cdig r) 2), .int .i64 ((cdig r) 3), .int .i64 ((cdig r) 4), .int .i64 ((cdig r) 5), .int .i64 ((cdig r) 6), .int .i64 ((cdig r) 7)]) ?_ 1 _ rfl; refine blk_put (cs := #[.bool false, .int .i64 ((cdig r) 0), .int .i64 ((cdig r) 1), .int .i64 ((cdig r) 2), .int .i64 ((cdig r) 3), .int .i64 ((cdig r) 4), .int .i64 ((cdig r) 5), .int .i64 ((cdig r) 6), .int .i64 ((cdig r) 7)]) ?_ 0 _ rfl; exact BKg6.out⟩
        have m_ : Aside0 ((((((((((W_.setCell ⟨g6, 0, none⟩ (.bool false)).setCell ⟨g6, 1, none⟩ (.int .i64 ((cdig x) 0))).setCell ⟨g6, 2, none⟩ (.int .i64 ((cdig x) 1))).setCell ⟨g6, 3, none⟩ (.int .i64 ((cdig x) 2))).setCell ⟨g6, 4, none⟩ (.int .i64 ((cdig x) 3))).setCell ⟨g6, 5, none⟩ (.int .i64 ((cdig x) 4))).setCell ⟨g6, 6, none⟩ (.int .i64 ((cdig x) 5))).setCell ⟨g6, 7, none⟩ (.int .i64 ((cdig x) 6))).setCell ⟨g6, 8, none⟩ (.int .i64 ((cdig x) 7))).heap[g5]? = some (.cells (bigA (!(ma == mb)) (cdig q)) 60 (0, 0))) := ⟨(blk_far (blk_far (blk_far (blk_far (blk_far (blk_far (blk_far (blk_far (blk_far BKg5.out NBg5_g6 _) NBg5_g6 _) NBg5_g6 _) NBg5_g6 _) NBg5_g6 _) NBg5_g6 _) NBg5_g6 _) NBg5_g6 _) NBg5_g6 _)⟩
        clear BKg5; have BKg5 := m_; clear m_
        have m_ : Aside0 ((((((((((W_.setCell ⟨g6, 0, none⟩ (.bool false)).setCell ⟨g6, 1, none⟩ (.int .i64 ((cdig x) 0))).setCell ⟨g6, 2, none⟩ (.int .i64 ((cdig x) 1))).setCell ⟨g6, 3, none⟩ (.int .i64 ((cdig x) 2))).setCell ⟨g6, 4, none⟩ (.int .i64 ((cdig x) 3))).setCell ⟨g6, 5, none⟩ (.int .i64 ((cdig x) 4))).setCell ⟨g6, 6, none⟩ (.int .i64 ((cdig x) 5))).setCell ⟨g6, 7, none⟩ (.int .i64 ((cdig x) 6))).setCell ⟨g6, 8, none⟩ (.int .i64 ((cdig x) 7))).heap[g2]? = some (.cells (bigA ma (cdig A)) 60 (0, 0))) := ⟨(blk_far (blk_far (blk_far (blk_far (blk_far (blk_far (blk_far (blk_far (blk_far BKg2.out NBg2_g6 _) NBg2_g6 _) NBg2_g6 _) NBg2_g6 _) NBg2_g6 _) NBg2_g6 _) NBg2_g6 _) NBg2_g6 _) NBg2_g6 _)⟩
        clear BKg2; have BKg2 := m_; clear m_
        have m_ : Aside0 ((((((((((W_.setCell ⟨g6, 0, none⟩ (.bool false)).setCell ⟨g6, 1, none⟩ (.int .i64 ((cdig x) 0))).setCell ⟨g6, 2, none⟩ (.int .i64 ((cdig x) 1))).setCell ⟨g6, 3, none⟩ (.int .i64 ((cdig x) 2))).setCell ⟨g6, 4, none⟩ (.int .i64 ((cdig x) 3))).setCell ⟨g6, 5, none⟩ (.int .i64 ((cdig x) 4))).setCell ⟨g6, 6, none⟩ (.int .i64 ((cdig x) 5))).setCell ⟨g6, 7, none⟩ (.int .i64 ((cdig x) 6))).setCell ⟨g6, 8, none⟩ (.int .i64 ((cdig x) 7))).heap[g3]? = some (.cells (bigA mb (cdig B)) 60 (0, 0))) := ⟨(blk_far (blk_far (blk_far (blk_far (blk_far (blk_far (blk_far (blk_far (blk_far BKg3.out NBg3_g6 _) NBg3_g6 _) NBg3_g6 _) NBg3_g6 _) NBg3_g6 _) NBg3_g6 _) NBg3_g6 _) NBg3_g6 _) NBg3_g6 _)⟩
        clear BKg3; have BKg3 := m_; clear m_
        have m_ : Aside0 ((((((((((W_.setCell ⟨g6, 0, none⟩ (.bool false)).setCell ⟨g6, 1, none⟩ (.int .i64 ((cdig x) 0))).setCell ⟨g6, 2, none⟩ (.int .i64 ((cdig x) 1))).setCell ⟨g6, 3, none⟩ (.int .i64 ((cdig x) 2))).setCell ⟨g6, 4, none⟩ (.int .i64 ((cdig x) 3))).setCell ⟨g6, 5, none⟩ (.int .i64 ((cdig x) 4))).setCell ⟨g6, 6, none⟩ (.int .i64 ((cdig x) 5))).setCell ⟨g6, 7, none⟩ (.int .i64 ((cdig x) 6))).setCell ⟨g6, 8, none⟩ (.int .i64 ((cdig x) 7))).heap[g4]? = some (.cells #[.bool false, .int .i64 0, .int .i64 0, .int .i64 0, .int .i64 0, .int .i64 0, .int .i64 0, .int .i64 0, .int .i64 0] 60 (0, 0))) := ⟨(blk_far (blk_far (blk_far (blk_far (blk_far (blk_far (blk_far (blk_far (blk_far BKg4.out NBg4_g6 _) NBg4_g6 _) NBg4_g6 _) NBg4_g6 _) NBg4_g6 _) NBg4_g6 _) NBg4_g6 _) NBg4_g6 _) NBg4_g6 _)⟩
        clear BKg4; have BKg4 := m_; clear m_
        have b_ : Aside0 (Below w.heap.size w (((((((((W_.setCell ⟨g6, 0, none⟩ (.bool false)).setCell ⟨g6, 1, none⟩ (.int .i64 ((cdig x) 0))).setCell ⟨g6, 2, none⟩ (.int .i64 ((cdig x) 1))).setCell ⟨g6, 3, none⟩ (.int .i64 ((cdig x) 2))).setCell ⟨g6, 4, none⟩ (.int .i64 ((cdig x) 3))).setCell ⟨g6, 5, none⟩ (.int .i64 ((cdig x) 4))).setCell ⟨g6, 6, none⟩ (.int .i64 ((cdig x) 5))).setCell ⟨g6, 7, none⟩ (.int .i64 ((cdig x) 6))).setCell ⟨g6, 8, none⟩ (.int .i64 ((cdig x) 7)))) := ⟨(below_set (below_set (below_set (below_set (below_set (below_set (below_set (below_set (below_set HB.out GEg6.out) GEg6.out) GEg6.out) GEg6.out) GEg6.out) GEg6.out) GEg6.out) GEg6.out) GEg6.out)⟩
        clear BKg6 HB; have BKg6 := n_; have HB := b_; clear n_ b_
        clear hcg6_0 hfg6_0
        clear hcg6_1 hfg6_1
        clear hcg6_2 hfg6_2
        clear hcg6_3 hfg6_3
        clear hcg6_4 hfg6_4
        clear hcg6_5 hfg6_5
        clear hcg6_6 hfg6_6
        clear hcg6_7 hfg6_7
        clear hcg6_8 hfg6_8
        clear hcg5_0 hfg5_0
        clear hcg5_1 hfg5_1
        clear hcg5_2 hfg5_2
        clear hcg5_3 hfg5_3
        clear hcg5_4 hfg5_4
        clear hcg5_5 hfg5_5
        clear hcg5_6 hfg5_6
        clear hcg5_7 hfg5_7
        clear hcg5_8 hfg5_8
        clear hcg2_0 hfg2_0
        clear hcg2_1 hfg2_1
        clear hcg2_2 hfg2_2
        clear hcg2_3 hfg2_3
        clear hcg2_4 hfg2_4
        clear hcg2_5 hfg2_5
        clear hcg2_6 hfg2_6
        clear hcg2_7 hfg2_7
        clear hcg2_8 hfg2_8
        clear hcg3_0 hfg3_0
        clear hcg3_1 hfg3_1
        clear hcg3_2 hfg3_2
        clear hcg3_3 hfg3_3
        clear hcg3_4 hfg3_4
        clear hcg3_5 hfg3_5
        clear hcg3_6 hfg3_6
        clear hcg3_7 hfg3_7
        clear hcg3_8 hfg3_8
        clear hcg4_0 hfg4_0
        clear hcg4_1 hfg4_1
        clear hcg4_2 hfg4_2
        clear hcg4_3 hfg4_3
        clear hcg4_4 hfg4_4
        clear hcg4_5 hfg4_5
        clear hcg4_6 hfg4_6
        clear hcg4_7 hfg4_7
        clear hcg4_8 hfg4_8
        generalize (((((((((W_.setCell ⟨g6, 0, none⟩ (.bool false)).setCell ⟨g6, 1, none⟩ (.int .i64 ((cdig x) 0))).setCell ⟨g6, 2, none⟩ (.int .i64 ((cdig x) 1))).setCell ⟨g6, 3, none⟩ (.int .i64 ((cdig x) 2))).setCell ⟨g6, 4, none⟩ (.int .i64 ((cdig x) 3))).setCell ⟨g6, 5, none⟩ (.int .i64 ((cdig x) 4))).setCell ⟨g6, 6, none⟩ (.int .i64 ((cdig x) 5))).setCell ⟨g6, 7, none⟩ (.int .i64 ((cdig x) 6))).setCell ⟨g6, 8, none⟩ (.int .i64 ((cdig x) 7))) = W7 at *
        have hcg6_0 : W7.cell? ⟨g6, 0, none⟩ = some (.bool false) := (blk_cell BKg6.out 0).trans rfl
        have hfg6_0 := blk_frozen BKg6.out 0
        have hcg6_1 : W7.cell? ⟨g6, 1, none⟩ = some (.int .i64 ((cdig x) 0)) := (blk_cell BKg6.out 1).trans rfl
        have hfg6_1 := blk_frozen BKg6.out 1
        have hcg6_2 : W7.cell? ⟨g6, 2, none⟩ = some (.int .i64 ((cdig x) 1)) := (blk_cell BKg6.out 2).trans rfl
        have hfg6_2 := blk_frozen BKg6.out 2
        have hcg6_3 : W7.cell? ⟨g6, 3, none⟩ = some (.int .i64 ((cdig x) 2)) := (blk_cell BKg6.out 3).trans rfl
        have hfg6_3 := blk_frozen BKg6.out 3
        have hcg6_4 : W7.cell? ⟨g6, 4, none⟩ = some (.int .i64 ((cdig x) 3)) := (blk_cell BKg6.out 4).trans rfl
        have hfg6_4 := blk_frozen BKg6.out 4
        have hcg6_5 : W7.cell? ⟨g6, 5, none⟩ = some (.int .i64 ((cdig x) 4)) := (blk_cell BKg6.out 5).trans rfl
        have hfg6_5 := blk_frozen BKg6.out 5
        have hcg6_6 : W7.cell? ⟨g6, 6, none⟩ = some (.int .i64 ((cdig x) 5)) := (blk_cell BKg6.out 6).trans rfl
        have hfg6_6 := blk_frozen BKg6.out 6
        have hcg6_7 : W7.cell? ⟨g6, 7, none⟩ = some (.int .i64 ((cdig x) 6)) := (blk_cell BKg6.out 7).trans rfl
        have hfg6_7 := blk_frozen BKg6.out 7
        have hcg6_8 : W7.cell? ⟨g6, 8, none⟩ = some (.int .i64 ((cdig x) 7)) := (blk_cell BKg6.out 8).trans rfl
        have hfg6_8 := blk_frozen BKg6.out 8
        have hcg5_0 : W7.cell? ⟨g5, 0, none⟩ = some (.bool (!(ma == mb))) := (blk_cell BKg5.out 0).trans rfl
        have hfg5_0 := blk_frozen BKg5.out 0
        have hcg5_1 : W7.cell? ⟨g5, 1, none⟩ = some (.int .i64 ((cdig q) 0)) := (blk_cell BKg5.out 1).trans rfl
        have hfg5_1 := blk_frozen BKg5.out 1
        have hcg5_2 : W7.cell? ⟨g5, 2, none⟩ = some (.int .i64 ((cdig q) 1)) := (blk_cell BKg5.out 2).trans rfl
        have hfg5_2 := blk_frozen BKg5.out 2
        have hcg5_3 : W7.cell? ⟨g5, 3, none⟩ = some (.int .i64 ((cdig q) 2)) := (blk_cell BKg5.out 3).trans rfl
        have hfg5_3 := blk_frozen BKg5.out 3
        have hcg5_4 : W7.cell? ⟨g5, 4, none⟩ = some (.int .i64 ((cdig q) 3)) := (blk_cell BKg5.out 4).trans rfl
        have hfg5_4 := blk_frozen BKg5.out 4
        have hcg5_5 : W7.cell? ⟨g5, 5, none⟩ = some (.int .i64 ((cdig q) 4)) := (blk_cell BKg5.out 5).trans rfl
        have hfg5_5 := blk_frozen BKg5.out 5
        have hcg5_6 : W7.cell? ⟨g5, 6, none⟩ = some (.int .i64 ((cdig q) 5)) := (blk_cell BKg5.out 6).trans rfl
        have hfg5_6 := blk_frozen BKg5.out 6
        have hcg5_7 : W7.cell? ⟨g5, 7, none⟩ = some (.int .i64 ((cdig q) 6)) := (blk_cell BKg5.out 7).trans rfl
        have hfg5_7 := blk_frozen BKg5.out 7
        have hcg5_8 : W7.cell? ⟨g5, 8, none⟩ = some (.int .i64 ((cdig q) 7)) := (blk_cell BKg5.out 8).trans rfl
        have hfg5_8 := blk_frozen BKg5.out 8
        have hcg2_0 : W7.cell? ⟨g2, 0, none⟩ = some (.bool ma) := (blk_cell BKg2.out 0).trans rfl
        have hfg2_0 := blk_frozen BKg2.out 0
        have hcg2_1 : W7.cell? ⟨g2, 1, none⟩ = some (.int .i64 ((cdig A) 0)) := (blk_cell BKg2.out 1).trans rfl
        have hfg2_1 := blk_frozen BKg2.out 1
        have hcg2_2 : W7.cell? ⟨g2, 2, none⟩ = some (.int .i64 ((cdig A) 1)) := (blk_cell BKg2.out 2).trans rfl
        have hfg2_2 := blk_frozen BKg2.out 2
        have hcg2_3 : W7.cell? ⟨g2, 3, none⟩ = some (.int .i64 ((cdig A) 2)) := (blk_cell BKg2.out 3).trans rfl
        have hfg2_3 := blk_frozen BKg2.out 3
        have hcg2_4 : W7.cell? ⟨g2, 4, none⟩ = some (.int .i64 ((cdig A) 3)) := (blk_cell BKg2.out 4).trans rfl
        have hfg2_4 := blk_frozen BKg2.out 4
        have hcg2_5 : W7.cell? ⟨g2, 5, none⟩ = some (.int .i64 ((cdig A) 4)) := (blk_cell BKg2.out 5).trans rfl
        have hfg2_5 := blk_frozen BKg2.out 5
        have hcg2_6 : W7.cell? ⟨g2, 6, none⟩ = some (.int .i64 ((cdig A) 5)) := (blk_cell BKg2.out 6).trans rfl
        have hfg2_6 := blk_frozen BKg2.out 6
        have hcg2_7 : W7.cell? ⟨g2, 7, none⟩ = some (.int .i64 ((cdig A) 6)) := (blk_cell BKg2.out 7).trans rfl
        have hfg2_7 := blk_frozen BKg2.out 7
        have hcg2_8 : W7.cell? ⟨g2, 8, none⟩ = some (.int .i64 ((cdig A) 7)) := (blk_cell BKg2.out 8).trans rfl
        have hfg2_8 := blk_frozen BKg2.out 8
        have hcg3_0 : W7.cell? ⟨g3, 0, none⟩ = some (.bool mb) := (blk_cell BKg3.out 0).trans rfl
        have hfg3_0 := blk_frozen BKg3.out 0
        have hcg3_1 : W7.cell? ⟨g3, 1, none⟩ = some (.int .i64 ((cdig B) 0)) := (blk_cell BKg3.out 1).trans rfl
        have hfg3_1 := blk_frozen BKg3.out 1
        have hcg3_2 : W7.cell? ⟨g3, 2, none⟩ = some (.int .i64 ((cdig B) 1)) := (blk_cell BKg3.out 2).trans rfl
        have hfg3_2 := blk_frozen BKg3.out 2
        have hcg3_3 : W7.cell? ⟨g3, 3, none⟩ = some (.int .i64 ((cdig B) 2)) := (blk_cell BKg3.out 3).trans rfl
        have hfg3_3 := blk_frozen BKg3.out 3
        have hcg3_4 : W7.cell? ⟨g3, 4, none⟩ = some (.int .i64 ((cdig B) 3)) := (blk_cell BKg3.out 4).trans rfl
        have hfg3_4 := blk_frozen BKg3.out 4
        have hcg3_5 : W7.cell? ⟨g3, 5, none⟩ = some (.int .i64 ((cdig B) 4)) := (blk_cell BKg3.out 5).trans rfl
        have hfg3_5 := blk_frozen BKg3.out 5
        have hcg3_6 : W7.cell? ⟨g3, 6, none⟩ = some (.int .i64 ((cdig B) 5)) := (blk_cell BKg3.out 6).trans rfl
        have hfg3_6 := blk_frozen BKg3.out 6
        have hcg3_7 : W7.cell? ⟨g3, 7, none⟩ = some (.int .i64 ((cdig B) 6)) := (blk_cell BKg3.out 7).trans rfl
        have hfg3_7 := blk_frozen BKg3.out 7
        have hcg3_8 : W7.cell? ⟨g3, 8, none⟩ = some (.int .i64 ((cdig B) 7)) := (blk_cell BKg3.out 8).trans rfl
        have hfg3_8 := blk_frozen BKg3.out 8
        have hcg4_0 : W7.cell? ⟨g4, 0, none⟩ = some (.bool false) := (blk_cell BKg4.out 0).trans rfl
        have hfg4_0 := blk_frozen BKg4.out 0
        have hcg4_1 : W7.cell? ⟨g4, 1, none⟩ = some (.int .i64 0) := (blk_cell BKg4.out 1).trans rfl
        have hfg4_1 := blk_frozen BKg4.out 1
        have hcg4_2 : W7.cell? ⟨g4, 2, none⟩ = some (.int .i64 0) := (blk_cell BKg4.out 2).trans rfl
        have hfg4_2 := blk_frozen BKg4.out 2
        have hcg4_3 : W7.cell? ⟨g4, 3, none⟩ = some (.int .i64 0) := (blk_cell BKg4.out 3).trans rfl
        have hfg4_3 := blk_frozen BKg4.out 3
        have hcg4_4 : W7.cell? ⟨g4, 4, none⟩ = some (.int .i64 0) := (blk_cell BKg4.out 4).trans rfl
        have hfg4_4 := blk_frozen BKg4.out 4
        have hcg4_5 : W7.cell? ⟨g4, 5, none⟩ = some (.int .i64 0) := (blk_cell BKg4.out 5).trans rfl
        have hfg4_5 := blk_frozen BKg4.out 5
        have hcg4_6 : W7.cell? ⟨g4, 6, none⟩ = some (.int .i64 0) := (blk_cell BKg4.out 6).trans rfl
        have hfg4_6 := blk_frozen BKg4.out 6
        have hcg4_7 : W7.cell? ⟨g4, 7, none⟩ = some (.int .i64 0) := (blk_cell BKg4.out 7).trans rfl
        have hfg4_7 := blk_frozen BKg4.out 7
        have hcg4_8 : W7.cell? ⟨g4, 8, none⟩ = some (.int .i64 0) := (blk_cell BKg4.out 8).trans rfl
        have hfg4_8 := blk_frozen BKg4.out 8
        have hx0 : 0 ≤ x := by have := HR.out.r0; have := HX.out; omega
        have hx1 : x < 340282366920938463463374607431768211456 := by have := HX.out; omega
        have hxr : Rep (cdig x) x := rep_cdig hx0 hx1
        by_cases hc : B ≤ x
        ·
          have hd : decide (0 ≤ cmpI x B) = true := by unfold cmpI; rw [if_neg (by omega)]; split <;> rfl
          go_wp2_with fail
          ((with_reducible refine (compare_ex false mb x B _ hxr hb).mono ?_); rintro e_ W8 ⟨rfl, hb_⟩)
          have n_ := Aside0.mk (blk_below BKg6.out hb_); clear BKg6; have BKg6 := n_; clear n_
          clear hcg6_0 hfg6_0
          clear hcg6_1 hfg6_1
          clear hcg6_2 hfg6_2
          clear hcg6_3 hfg6_3
          clear hcg6_4 hfg6_4
          clear hcg6_5 hfg6_5
          clear hcg6_6 hfg6_6
          clear hcg6_7 hfg6_7
          clear hcg6_8 hfg6_8
          have n_ := Aside0.mk (blk_below BKg5.out hb_); clear BKg5; have BKg5 := n_; clear n_
          clear hcg5_0 hfg5_0
          clear hcg5_1 hfg5_1
          clear hcg5_2 hfg5_2
          clear hcg5_3 hfg5_3
          clear hcg5_4 hfg5_4
          clear hcg5_5 hfg5_5
          clear hcg5_6 hfg5_6
          clear hcg5_7 hfg5_7
          clear hcg5_8 hfg5_8
          have n_ := Aside0.mk (blk_below BKg2.out hb_); clear BKg2; have BKg2 := n_; clear n_
          clear hcg2_0 hfg2_0
          clear hcg2_1 hfg2_1
          clear hcg2_2 hfg2_2
          clear hcg2_3 hfg2_3
          clear hcg2_4 hfg2_4
          clear hcg2_5 hfg2_5
          clear hcg2_6 hfg2_6
          clear hcg2_7 hfg2_7
          clear hcg2_8 hfg2_8
          have n_ := Aside0.mk (blk_below BKg3.out hb_); clear BKg3; have BKg3 := n_; clear n_
          clear hcg3_0 hfg3_0
          clear hcg3_1 hfg3_1
          clear hcg3_2 hfg3_2
          clear hcg3_3 hfg3_3
          clear hcg3_4 hfg3_4
          clear hcg3_5 hfg3_5
          clear hcg3_6 hfg3_6
          clear hcg3_7 hfg3_7
          clear hcg3_8 hfg3_8
          have n_ := Aside0.mk (blk_below BKg4.out hb_); clear BKg4; have BKg4 := n_; clear n_
          clear hcg4_0 hfg4_0
          clear hcg4_1 hfg4_1
          clear hcg4_2 hfg4_2
          clear hcg4_3 hfg4_3
          clear hcg4_4 hfg4_4
          clear hcg4_5 hfg4_5
          clear hcg4_6 hfg4_6
          clear hcg4_7 hfg4_7
          clear hcg4_8 hfg4_8
          have n_ := Aside0.mk (below_step HB.out hb_); clear HB; have HB := n_; clear n_
          clear hb_
          have hcg6_0 : W8.cell? ⟨g6, 0, none⟩ = some (.bool false) := (blk_cell BKg6.out 0).trans rfl
          have hfg6_0 := blk_frozen BKg6.out 0
          have hcg6_1 : W8.cell? ⟨g6, 1, none⟩ = some (.int .i64 ((cdig x) 0)) := (blk_cell BKg6.out 1).trans rfl
          have hfg6_1 := blk_frozen BKg6.out 1
          have hcg6_2 : W8.cell? ⟨g6, 2, none⟩ = some (.int .i64 ((cdig x) 1)) := (blk_cell BKg6.out 2).trans rfl
          have hfg6_2 := blk_frozen BKg6.out 2
          have hcg6_3 : W8.cell? ⟨g6, 3, none⟩ = some (.int .i64 ((cdig x) 2)) := (blk_cell BKg6.out 3).trans rfl
          have hfg6_3 := blk_frozen BKg6.out 3
          have hcg6_4 : W8.cell? ⟨g6, 4, none⟩ = some (.int .i64 ((cdig x) 3)) := (blk_cell BKg6.out 4).trans rfl
          have hfg6_4 := blk_frozen BKg6.out 4
          have hcg6_5 : W8.cell? ⟨g6, 5, none⟩ = some (.int .i64 ((cdig x) 4)) := (blk_cell BKg6.out 5).trans rfl
          have hfg6_5 := blk_frozen BKg6.out 5
          have hcg6_6 : W8.cell? ⟨g6, 6, none⟩ = some (.int .i64 ((cdig x) 5)) := (blk_cell BKg6.out 6).trans rfl
          have hfg6_6 := blk_frozen BKg6.out 6
          have hcg6_7 : W8.cell? ⟨g6, 7, none⟩ = some (.int .i64 ((cdig x) 6)) := (blk_cell BKg6.out 7).trans rfl
          have hfg6_7 := blk_frozen BKg6.out 7
          have hcg6_8 : W8.cell? ⟨g6, 8, none⟩ = some (.int .i64 ((cdig x) 7)) := (blk_cell BKg6.out 8).trans rfl
          have hfg6_8 := blk_frozen BKg6.out 8
          have hcg5_0 : W8.cell? ⟨g5, 0, none⟩ = some (.bool (!(ma == mb))) := (blk_cell BKg5.out 0).trans rfl
          have hfg5_0 := blk_frozen BKg5.out 0
          have hcg5_1 : W8.cell? ⟨g5, 1, none⟩ = some (.int .i64 ((cdig q) 0)) := (blk_cell BKg5.out 1).trans rfl
          have hfg5_1 := blk_frozen BKg5.out 1
          have hcg5_2 : W8.cell? ⟨g5, 2, none⟩ = some (.int .i64 ((cdig q) 1)) := (blk_cell BKg5.out 2).trans rfl
          have hfg5_2 := blk_frozen BKg5.out 2
          have hcg5_3 : W8.cell? ⟨g5, 3, none⟩ = some (.int .i64 ((cdig q) 2)) := (blk_cell BKg5.out 3).trans rfl
          have hfg5_3 := blk_frozen BKg5.out 3
          have hcg5_4 : W8.cell? ⟨g5, 4, none⟩ = some (.int .i64 ((cdig q) 3)) := (blk_cell BKg5.out 4).trans rfl
          have hfg5_4 := blk_frozen BKg5.out 4
          have hcg5_5 : W8.cell? ⟨g5, 5, none⟩ = some (.int .i64 ((cdig q) 4)) := (blk_cell BKg5.out 5).trans rfl
          have hfg5_5 := blk_frozen BKg5.out 5
          have hcg5_6 : W8.cell? ⟨g5, 6, none⟩ = some (.int .i64 ((cdig q) 5)) := (blk_cell BKg5.out 6).trans rfl
          have hfg5_6 := blk_frozen BKg5.out 6
          have hcg5_7 : W8.cell? ⟨g5, 7, none⟩ = some (.int .i64 ((cdig q) 6)) := (blk_cell BKg5.out 7).trans rfl
          have hfg5_7 := blk_frozen BKg5.out 7
          have hcg5_8 : W8.cell? ⟨g5, 8, none⟩ = some (.int .i64 ((cdig q) 7)) := (blk_cell BKg5.out 8).trans rfl
          have hfg5_8 := blk_frozen BKg5.out 8
          have hcg2_0 : W8.cell? ⟨g2, 0, none⟩ = some (.bool ma) := (blk_cell BKg2.out 0).trans rfl
          have hfg2_0 := blk_frozen BKg2.out 0
          have hcg2_1 : W8.cell? ⟨g2, 1, none⟩ = some (.int .i64 ((cdig A) 0)) := (blk_cell BKg2.out 1).trans rfl
          have hfg2_1 := blk_frozen BKg2.out 1
          have hcg2_2 : W8.cell? ⟨g2, 2, none⟩ = some (.int .i64 ((cdig A) 1)) := (blk_cell BKg2.out 2).trans rfl
          have hfg2_2 := blk_frozen BKg2.out 2
          have hcg2_3 : W8.cell? ⟨g2, 3, none⟩ = some (.int .i64 ((cdig A) 2)) := (blk_cell BKg2.out 3).trans rfl
          have hfg2_3 := blk_frozen BKg2.out 3
          have hcg2_4 : W8.cell? ⟨g2, 4, none⟩ = some (.int .i64 ((cdig A) 3)) := (blk_cell BKg2.out 4).trans rfl
          have hfg2_4 := blk_frozen BKg2.out 4
          have hcg2_5 : W8.cell? ⟨g2, 5, none⟩ = some (.int .i64 ((cdig A) 4)) := (blk_cell BKg2.out 5).trans rfl
          have hfg2_5 := blk_frozen BKg2.out 5
          have hcg2_6 : W8.cell? ⟨g2, 6, none⟩ = some (.int .i64 ((cdig A) 5)) := (blk_cell BKg2.out 6).trans rfl
          have hfg2_6 := blk_frozen BKg2.out 6
          have hcg2_7 : W8.cell? ⟨g2, 7, none⟩ = some (.int .i64 ((cdig A) 6)) := (blk_cell BKg2.out 7).trans rfl
          have hfg2_7 := blk_frozen BKg2.out 7
          have hcg2_8 : W8.cell? ⟨g2, 8, none⟩ = some (.int .i64 ((cdig A) 7)) := (blk_cell BKg2.out 8).trans rfl
          have hfg2_8 := blk_frozen BKg2.out 8
          have hcg3_0 : W8.cell? ⟨g3, 0, none⟩ = some (.bool mb) := (blk_cell BKg3.out 0).trans rfl
          have hfg3_0 := blk_frozen BKg3.out 0
          have hcg3_1 : W8.cell? ⟨g3, 1, none⟩ = some (.int .i64 ((cdig B) 0)) := (blk_cell BKg3.out 1).trans rfl
          have hfg3_1 := blk_frozen BKg3.out 1
          have hcg3_2 : W8.cell? ⟨g3, 2, none⟩ = some (.int .i64 ((cdig B) 1)) := (blk_cell BKg3.out 2).trans rfl
          have hfg3_2 := blk_frozen BKg3.out 2
          have hcg3_3 : W8.cell? ⟨g3, 3, none⟩ = some (.int .i64 ((cdig B) 2)) := (blk_cell BKg3.out 3).trans rfl
          have hfg3_3 := blk_frozen BKg3.out 3
          have hcg3_4 : W8.cell? ⟨g3, 4, none⟩ = some (.int .i64 ((cdig B) 3)) := (blk_cell BKg3.out 4).trans rfl
          have hfg3_4 := blk_frozen BKg3.out 4
          have hcg3_5 : W8.cell? ⟨g3, 5, none⟩ = some (.int .i64 ((cdig B) 4)) := (blk_cell BKg3.out 5).trans rfl
          have hfg3_5 := blk_frozen BKg3.out 5
          have hcg3_6 : W8.cell? ⟨g3, 6, none⟩ = some (.int .i64 ((cdig B) 5)) := (blk_cell BKg3.out 6).trans rfl
          have hfg3_6 := blk_frozen BKg3.out 6
          have hcg3_7 : W8.cell? ⟨g3, 7, none⟩ = some (.int .i64 ((cdig B) 6)) := (blk_cell BKg3.out 7).trans rfl
          have hfg3_7 := blk_frozen BKg3.out 7
          have hcg3_8 : W8.cell? ⟨g3, 8, none⟩ = some (.int .i64 ((cdig B) 7)) := (blk_cell BKg3.out 8).trans rfl
          have hfg3_8 := blk_frozen BKg3.out 8
          have hcg4_0 : W8.cell? ⟨g4, 0, none⟩ = some (.bool false) := (blk_cell BKg4.out 0).trans rfl
          have hfg4_0 := blk_frozen BKg4.out 0
          have hcg4_1 : W8.cell? ⟨g4, 1, none⟩ = some (.int .i64 0) := (blk_cell BKg4.out 1).trans rfl
          have hfg4_1 := blk_frozen BKg4.out 1
          have hcg4_2 : W8.cell? ⟨g4, 2, none⟩ = some (.int .i64 0) := (blk_cell BKg4.out 2).trans rfl
          have hfg4_2 := blk_frozen BKg4.out 2
          have hcg4_3 : W8.cell? ⟨g4, 3, none⟩ = some (.int .i64 0) := (blk_cell BKg4.out 3).trans rfl
          have hfg4_3 := blk_frozen BKg4.out 3
          have hcg4_4 : W8.cell? ⟨g4, 4, none⟩ = some (.int .i64 0) := (blk_cell BKg4.out 4).trans rfl
          have hfg4_4 := blk_frozen BKg4.out 4
          have hcg4_5 : W8.cell? ⟨g4, 5, none⟩ = some (.int .i64 0) := (blk_cell BKg4.out 5).trans rfl
          have hfg4_5 := blk_frozen BKg4.out 5
          have hcg4_6 : W8.cell? ⟨g4, 6, none⟩ = some (.int .i64 0) := (blk_cell BKg4.out 6).trans rfl
          have hfg4_6 := blk_frozen BKg4.out 6
          have hcg4_7 : W8.cell? ⟨g4, 7, none⟩ = some (.int .i64 0) := (blk_cell BKg4.out 7).trans rfl
          have hfg4_7 := blk_frozen BKg4.out 7
          have hcg4_8 : W8.cell? ⟨g4, 8, none⟩ = some (.int .i64 0) := (blk_cell BKg4.out 8).trans rfl
          have hfg4_8 := blk_frozen BKg4.out 8
          go_wp2_with fail
          obtain ⟨z, hz⟩ : ∃ z, z = x - B := ⟨_, rfl⟩
          have HZ := Lib.hid hz; clear hz
          ((with_reducible refine (less_ex false mb x B z _ hxr hb hc HZ.out).mono ?_); rintro e_ W9 ⟨rfl, hb_⟩)
          have n_ := Aside0.mk (blk_below BKg6.out hb_); clear BKg6; have BKg6 := n_; clear n_
          clear hcg6_0 hfg6_0
          clear hcg6_1 hfg6_1
          clear hcg6_2 hfg6_2
          clear hcg6_3 hfg6_3
          clear hcg6_4 hfg6_4
          clear hcg6_5 hfg6_5
          clear hcg6_6 hfg6_6
          clear hcg6_7 hfg6_7
          clear hcg6_8 hfg6_8
          have n_ := Aside0.mk (blk_below BKg5.out hb_); clear BKg5; have BKg5 := n_; clear n_
          clear hcg5_0 hfg5_0
          clear hcg5_1 hfg5_1
          clear hcg5_2 hfg5_2
          clear hcg5_3 hfg5_3
          clear hcg5_4 hfg5_4
          clear hcg5_5 hfg5_5
          clear hcg5_6 hfg5_6
          clear hcg5_7 hfg5_7
          clear hcg5_8 hfg5_8
          have n_ := Aside0.mk (blk_below BKg2.out hb_); clear BKg2; have BKg2 := n_; clear n_
          clear hcg2_0 hfg2_0
          clear hcg2_1 hfg2_1
          clear hcg2_2 hfg2_2
          clear hcg2_3 hfg2_3
          clear hcg2_4 hfg2_4
          clear hcg2_5 hfg2_5
          clear hcg2_6 hfg2_6
          clear hcg2_7 hfg2_7
          clear hcg2_8 hfg2_8
          have n_ := Aside0.mk (blk_below BKg3.out hb_); clear BKg3; have BKg3 := n_; clear n_
          clear hcg3_0 hfg3_0
          clear hcg3_1 hfg3_1
          clear hcg3_2 hfg3_2
          clear hcg3_3 hfg3_3
          clear hcg3_4 hfg3_4
          clear hcg3_5 hfg3_5
          clear hcg3_6 hfg3_6
          clear hcg3_7 hfg3_7
          clear hcg3_8 hfg3_8
          have n_ := Aside0.mk (blk_below BKg4.out hb_); clear BKg4; have BKg4 := n_; clear n_
          clear hcg4_0 hfg4_0
          clear hcg4_1 hfg4_1
          clear hcg4_2 hfg4_2
          clear hcg4_3 hfg4_3
          clear hcg4_4 hfg4_4
          clear hcg4_5 hfg4_5
          clear hcg4_6 hfg4_6
          clear hcg4_7 hfg4_7
          clear hcg4_8 hfg4_8
          have n_ := Aside0.mk (below_step HB.out hb_); clear HB; have HB := n_; clear n_
          clear hb_
          have hcg6_0 : W9.cell? ⟨g6, 0, none⟩ = some (.bool false) := (blk_cell BKg6.out 0).trans rfl
          have hfg6_0 := blk_frozen BKg6.out 0
          have hcg6_1 : W9.cell? ⟨g6, 1, none⟩ = some (.int .i64 ((cdig x) 0)) := (blk_cell BKg6.out 1).trans rfl
          have hfg6_1 := blk_frozen BKg6.out 1
          have hcg6_2 : W9.cell? ⟨g6, 2, none⟩ = some (.int .i64 ((cdig x) 1)) := (blk_cell BKg6.out 2).trans rfl
          have hfg6_2 := blk_frozen BKg6.out 2
          have hcg6_3 : W9.cell? ⟨g6, 3, none⟩ = some (.int .i64 ((cdig x) 2)) := (blk_cell BKg6.out 3).trans rfl
          have hfg6_3 := blk_frozen BKg6.out 3
          have hcg6_4 : W9.cell? ⟨g6, 4, none⟩ = some (.int .i64 ((cdig x) 3)) := (blk_cell BKg6.out 4).trans rfl
          have hfg6_4 := blk_frozen BKg6.out 4
          have hcg6_5 : W9.cell? ⟨g6, 5, none⟩ = some (.int .i64 ((cdig x) 4)) := (blk_cell BKg6.out 5).trans rfl
          have hfg6_5 := blk_frozen BKg6.out 5
          have hcg6_6 : W9.cell? ⟨g6, 6, none⟩ = some (.int .i64 ((cdig x) 5)) := (blk_cell BKg6.out 6).trans rfl
          have hfg6_6 := blk_frozen BKg6.out 6
          have hcg6_7 : W9.cell? ⟨g6, 7, none⟩ = some (.int .i64 ((cdig x) 6)) := (blk_cell BKg6.out 7).trans rfl
          have hfg6_7 := blk_frozen BKg6.out 7
          have hcg6_8 : W9.cell? ⟨g6, 8, none⟩ = some (.int .i64 ((cdig x) 7)) := (blk_cell BKg6.out 8).trans rfl
          have hfg6_8 := blk_frozen BKg6.out 8
          have hcg5_0 : W9.cell? ⟨g5, 0, none⟩ = some (.bool (!(ma == mb))) := (blk_cell BKg5.out 0).trans rfl
          have hfg5_0 := blk_frozen BKg5.out 0
          have hcg5_1 : W9.cell? ⟨g5, 1, none⟩ = some (.int .i64 ((cdig q) 0)) := (blk_cell BKg5.out 1).trans rfl
          have hfg5_1 := blk_frozen BKg5.out 1
          have hcg5_2 : W9.cell? ⟨g5, 2, none⟩ = some (.int .i64 ((cdig q) 1)) := (blk_cell BKg5.out 2).trans rfl
          have hfg5_2 := blk_frozen BKg5.out 2
          have hcg5_3 : W9.cell? ⟨g5, 3, none⟩ = some (.int .i64 ((cdig q) 2)) := (blk_cell BKg5.out 3).trans rfl
          have hfg5_3 := blk_frozen BKg5.out 3
          have hcg5_4 : W9.cell? ⟨g5, 4, none⟩ = some (.int .i64 ((cdig q) 3)) := (blk_cell BKg5.out 4).trans rfl
          have hfg5_4 := blk_frozen BKg5.out 4
          have hcg5_5 : W9.cell? ⟨g5, 5, none⟩ = some (.int .i64 ((cdig q) 4)) := (blk_cell BKg5.out 5).trans rfl
          have hfg5_5 := blk_frozen BKg5.out 5
          have hcg5_6 : W9.cell? ⟨g5, 6, none⟩ = some (.int .i64 ((cdig q) 5)) := (blk_cell BKg5.out 6).trans rfl
          have hfg5_6 := blk_frozen BKg5.out 6
          have hcg5_7 : W9.cell? ⟨g5, 7, none⟩ = some (.int .i64 ((cdig q) 6)) := (blk_cell BKg5.out 7).trans rfl
          have hfg5_7 := blk_frozen BKg5.out 7
          have hcg5_8 : W9.cell? ⟨g5, 8, none⟩ = some (.int .i64 ((cdig q) 7)) := (blk_cell BKg5.out 8).trans rfl
          have hfg5_8 := blk_frozen BKg5.out 8
          have hcg2_0 : W9.cell? ⟨g2, 0, none⟩ = some (.bool ma) := (blk_cell BKg2.out 0).trans rfl
          have hfg2_0 := blk_frozen BKg2.out 0
          have hcg2_1 : W9.cell? ⟨g2, 1, none⟩ = some (.int .i64 ((cdig A) 0)) := (blk_cell BKg2.out 1).trans rfl
          have hfg2_1 := blk_frozen BKg2.out 1
          have hcg2_2 : W9.cell? ⟨g2, 2, none⟩ = some (.int .i64 ((cdig A) 1)) := (blk_cell BKg2.out 2).trans rfl
          have hfg2_2 := blk_frozen BKg2.out 2
          have hcg2_3 : W9.cell? ⟨g2, 3, none⟩ = some (.int .i64 ((cdig A) 2)) := (blk_cell BKg2.out 3).trans rfl
          have hfg2_3 := blk_frozen BKg2.out 3
          have hcg2_4 : W9.cell? ⟨g2, 4, none⟩ = some (.int .i64 ((cdig A) 3)) := (blk_cell BKg2.out 4).trans rfl
          have hfg2_4 := blk_frozen BKg2.out 4
          have hcg2_5 : W9.cell? ⟨g2, 5, none⟩ = some (.int .i64 ((cdig A) 4)) := (blk_cell BKg2.out 5).trans rfl
          have hfg2_5 := blk_frozen BKg2.out 5
          have hcg2_6 : W9.cell? ⟨g2, 6, none⟩ = some (.int .i64 ((cdig A) 5)) := (blk_cell BKg2.out 6).trans rfl
          have hfg2_6 := blk_frozen BKg2.out 6
          have hcg2_7 : W9.cell? ⟨g2, 7, none⟩ = some (.int .i64 ((cdig A) 6)) := (blk_cell BKg2.out 7).trans rfl
          have hfg2_7 := blk_frozen BKg2.out 7
          have hcg2_8 : W9.cell? ⟨g2, 8, none⟩ = some (.int .i64 ((cdig A) 7)) := (blk_cell BKg2.out 8).trans rfl
          have hfg2_8 := blk_frozen BKg2.out 8
          have hcg3_0 : W9.cell? ⟨g3, 0, none⟩ = some (.bool mb) := (blk_cell BKg3.out 0).trans rfl
          have hfg3_0 := blk_frozen BKg3.out 0
          have hcg3_1 : W9.cell? ⟨g3, 1, none⟩ = some (.int .i64 ((cdig B) 0)) := (blk_cell BKg3.out 1).trans rfl
          have hfg3_1 := blk_frozen BKg3.out 1
          have hcg3_2 : W9.cell? ⟨g3, 2, none⟩ = some (.int .i64 ((cdig B) 1)) := (blk_cell BKg3.out 2).trans rfl
          have hfg3_2 := blk_frozen BKg3.out 2
          have hcg3_3 : W9.cell? ⟨g3, 3, none⟩ = some (.int .i64 ((cdig B) 2)) := (blk_cell BKg3.out 3).trans rfl
          have hfg3_3 := blk_frozen BKg3.out 3
          have hcg3_4 : W9.cell? ⟨g3, 4, none⟩ = some (.int .i64 ((cdig B) 3)) := (blk_cell BKg3.out 4).trans rfl
          have hfg3_4 := blk_frozen BKg3.out 4
          have hcg3_5 : W9.cell? ⟨g3, 5, none⟩ = some (.int .i64 ((cdig B) 4)) := (blk_cell BKg3.out 5).trans rfl
          have hfg3_5 := blk_frozen BKg3.out 5
          have hcg3_6 : W9.cell? ⟨g3, 6, none⟩ = some (.int .i64 ((cdig B) 5)) := (blk_cell BKg3.out 6).trans rfl
          have hfg3_6 := blk_frozen BKg3.out 6
          have hcg3_7 : W9.cell? ⟨g3, 7, none⟩ = some (.int .i64 ((cdig B) 6)) := (blk_cell BKg3.out 7).trans rfl
          have hfg3_7 := blk_frozen BKg3.out 7
          have hcg3_8 : W9.cell? ⟨g3, 8, none⟩ = some (.int .i64 ((cdig B) 7)) := (blk_cell BKg3.out 8).trans rfl
          have hfg3_8 := blk_frozen BKg3.out 8
          have hcg4_0 : W9.cell? ⟨g4, 0, none⟩ = some (.bool false) := (blk_cell BKg4.out 0).trans rfl
          have hfg4_0 := blk_frozen BKg4.out 0
          have hcg4_1 : W9.cell? ⟨g4, 1, none⟩ = some (.int .i64 0) := (blk_cell BKg4.out 1).trans rfl
          have hfg4_1 := blk_frozen BKg4.out 1
          have hcg4_2 : W9.cell? ⟨g4, 2, none⟩ = some (.int .i64 0) := (blk_cell BKg4.out 2).trans rfl
          have hfg4_2 := blk_frozen BKg4.out 2
          have hcg4_3 : W9.cell? ⟨g4, 3, none⟩ = some (.int .i64 0) := (blk_cell BKg4.out 3).trans rfl
          have hfg4_3 := blk_frozen BKg4.out 3
          have hcg4_4 : W9.cell? ⟨g4, 4, none⟩ = some (.int .i64 0) := (blk_cell BKg4.out 4).trans rfl
          have hfg4_4 := blk_frozen BKg4.out 4
          have hcg4_5 : W9.cell? ⟨g4, 5, none⟩ = some (.int .i64 0) := (blk_cell BKg4.out 5).trans rfl
          have hfg4_5 := blk_frozen BKg4.out 5
          have hcg4_6 : W9.cell? ⟨g4, 6, none⟩ = some (.int .i64 0) := (blk_cell BKg4.out 6).trans rfl
          have hfg4_6 := blk_frozen BKg4.out 6
          have hcg4_7 : W9.cell? ⟨g4, 7, none⟩ = some (.int .i64 0) := (blk_cell BKg4.out 7).trans rfl
          have hfg4_7 := blk_frozen BKg4.out 7
          have hcg4_8 : W9.cell? ⟨g4, 8, none⟩ = some (.int .i64 0) := (blk_cell BKg4.out 8).trans rfl
          have hfg4_8 := blk_frozen BKg4.out 8
          go_upto_region 11 with (fail)
          have n_ : Aside0 ((((((((((W9.setCell ⟨g6, 0, none⟩ (.bool false)).setCell ⟨g6, 1, none⟩ (.int .i64 ((cdig z) 0))).setCell ⟨g6, 2, none⟩ (.int .i64 ((cdig z) 1))).setCell ⟨g6, 3, none⟩ (.int .i64 ((cdig z) 2))).setCell ⟨g6, 4, none⟩ (.int .i64 ((cdig z) 3))).setCell ⟨g6, 5, none⟩ (.int .i64 ((cdig z) 4))).setCell ⟨g6, 6, none⟩ (.int .i64 ((cdig z) 5))).setCell ⟨g6, 7, none⟩ (.int .i64 ((cdig z) 6))).setCell ⟨g6, 8, none⟩ (.int .i64 ((cdig z) 7))).heap[g6]? = some (.cells #[.bool false, .int .i64 ((cdig z) 0), .int .i64 ((cdig z) 1), .int .i64 ((cdig z) 2), .int .i64 ((cdig z) 3), .int .i64 ((cdig z) 4), .int .i64 ((cdig z) 5), .int .i64 ((cdig z) 6), .int .i64 ((cdig z) 7)] 60 (0, 0))) := ⟨by refine blk_put (cs := #[.bool false, .int .i64 ((cdig z) 0), .int .i64 ((cdig z) 1), .int .i64 ((cdig z) 2), .int .i64 ((cdig z) 3), .int .i64 ((cdig z) 4), .int .i64 ((cdig z) 5), .int .i64 ((cdig z) 6), .int .i64 ((cdig x) 7)]) ?_ 8 _ rfl; refine blk_put (cs := #[.bool false, .int .i64 ((cdig z) 0), .int .i64 ((cdig z) 1), .int .i64 ((cdig z) 2), .int .i64 ((cdig z) 3), .int .i64 ((cdig z) 4), .int .i64 ((cdig z) 5), .int .i64 ((cdig x) 6), .int .i64 ((cdig x) 7)]) ?_ 7 _ rfl; refine blk_put (cs := #[.bool false, .int .i64 ((cdig z) 0), .int .i64 ((cdig z) 1), .int .i64 ((cdig z) 2), .int .i64 ((cdig z) 3), .int .i64 ((cdig z) 4), .int .i64 ((cdig x) 5), .int .i64 ((cdig x) 6), .int .i64 ((cdig x) 7)]) ?_ 6 _ rfl; refine blk_put (cs := #[.bool false, .int .i64 ((cdig z) 0), .int .i64 ((cdig z) 1), .int .i64 ((cdig z) 2), .int .i64 ((cdig z) 3), .int .i64 ((cdig x) 4), .int .i64 ((cdig x) 5), .int .i64 ((cdig x) 6), .int .i64 ((cdig x) 7)]) ?_ 5 _ rfl; refine blk_put (cs := #[.bool false, .int .i64 ((cdig z) 0), .int .i64 ((cdig z) 1), .int .i64 ((cdig z) 2), .int .i64 ((cdig x) 3), .int .i64 ((cdig x) 4), .int .i64 ((cdig x) 5), .int .i64 ((cdig x) 6), .int .i64 ((cdig x) 7)]) ?_ 4 _ rfl; refine blk_put (cs := #[.bool false, .int .i64 ((cdig z) 0), .int .i64 ((cdig z) 1), .int .i64 ((cdig x) 2), .int .i64 ((cdig x) 3), .int .i64 ((cdig x) 4), .int .i64 ((cdig x) 5), .int .i64 ((cdig x) 6), .int .i64 ((cdig x) 7)]) ?_ 3 _ rfl; refine blk_put (cs := #[.bool false, .int .i64 ((cdig z) 0), .int .i64 ((cdig x) 1), .int .i64 ((cdig x) 2), .int .i64 ((cdig x) 3), .int .i64 ((cdig x) 4), .int .i64 ((cdig x) 5), .int .i64 ((cdig x) 6), .int .i64 ((cdig x) 7)]) ?_ 2 _ rfl; refine blk_put (cs := #[.bool false, .int .i64 ((cdig x) 0), .int .i64 ((cdig x) 1), .int .i64 ((cdig x) 2), .int .i64 ((cdig x) 3), .int .i64 ((cdig x) 4), .int .i64 ((cdig x) 5), .int .i64 ((cdig x) 6), .int .i64 ((cdig x) 7)]) ?_ 1 _ rfl; refine blk_put (cs := #[.bool false, .int .i64 ((cdig x) 0), .int .i64 ((cdig x) 1), .int .i64 ((cdig x) 2), .int .i64 ((cdig x) 3), .int .i64 ((cdig x) 4), .int .i64 ((cdig x) 5), .int .i64 ((cdig x) 6), .int .i64 ((cdig x) 7)]) ?_ 0 _ rfl; exact BKg6.out⟩
          have m_ : Aside0 ((((((((((W9.setCell ⟨g6, 0, none⟩ (.bool false)).setCell ⟨g6, 1, none⟩ (.int .i64 ((cdig z) 0))).setCell ⟨g6, 2, none⟩ (.int .i64 ((cdig z) 1))).setCell ⟨g6, 3, none⟩ (.int .i64 ((cdig z) 2))).setCell ⟨g6, 4, none⟩ (.int .i64 ((cdig z) 3))).setCell ⟨g6, 5, none⟩ (.int .i64 ((cdig z) 4))).setCell ⟨g6, 6, none⟩ (.int .i64 ((cdig z) 5))).setCell ⟨g6, 7, none⟩ (.int .i64 ((cdig z) 6))).setCell ⟨g6, 8, none⟩ (.int .i64 ((cdig z) 7))).heap[g5]? = some (.cells (bigA (!(ma == mb)) (cdig q)) 60 (0, 0))) := ⟨(blk_far (blk_far (blk_far (blk_far (blk_far (blk_far (blk_far (blk_far (blk_far BKg5.out NBg5_g6 _) NBg5_g6 _) NBg5_g6 _) NBg5_g6 _) NBg5_g6 _) NBg5_g6 _) NBg5_g6 _) NBg5_g6 _) NBg5_g6 _)⟩
          clear BKg5; have BKg5 := m_; clear m_
          have m_ : Aside0 ((((((((((W9.setCell ⟨g6, 0, none⟩ (.bool false)).setCell ⟨g6, 1, none⟩ (.int .i64 ((cdig z) 0))).setCell ⟨g6, 2, none⟩ (.int .i64 ((cdig z) 1))).setCell ⟨g6, 3, none⟩ (.int .i64 ((cdig z) 2))).setCell ⟨g6, 4, none⟩ (.int .i64 ((cdig z) 3))).setCell ⟨g6, 5, none⟩ (.int .i64 ((cdig z) 4))).setCell ⟨g6, 6, none⟩ (.int .i64 ((cdig z) 5))).setCell ⟨g6, 7, none⟩ (.int .i64 ((cdig z) 6))).setCell ⟨g6, 8, none⟩ (.int .i64 ((cdig z) 7))).heap[g2]? = some (.cells (bigA ma (cdig A)) 60 (0, 0))) := ⟨(blk_far (blk_far (blk_far (blk_far (blk_far (blk_far (blk_far (blk_far (blk_far BKg2.out NBg2_g6 _) NBg2_g6 _) NBg2_g6 _) NBg2_g6 _) NBg2_g6 _) NBg2_g6 _) NBg2_g6 _) NBg2_g6 _) NBg2_g6 _)⟩
          clear BKg2; have BKg2 := m_; clear m_
          have m_ : Aside0 ((((((((((W9.setCell ⟨g6, 0, none⟩ (.bool false)).setCell ⟨g6, 1, none⟩ (.int .i64 ((cdig z) 0))).setCell ⟨g6, 2, none⟩ (.int .i64 ((cdig z) 1))).setCell ⟨g6, 3, none⟩ (.int .i64 ((cdig z) 2))).setCell ⟨g6, 4, none⟩ (.int .i64 ((cdig z) 3))).setCell ⟨g6, 5, none⟩ (.int .i64 ((cdig z) 4))).setCell ⟨g6, 6, none⟩ (.int .i64 ((cdig z) 5))).setCell ⟨g6, 7, none⟩ (.int .i64 ((cdig z) 6))).setCell ⟨g6, 8, none⟩ (.int .i64 ((cdig z) 7))).heap[g3]? = some (.cells (bigA mb (cdig B)) 60 (0, 0))) := ⟨(blk_far (blk_far (blk_far (blk_far (blk_far (blk_far (blk_far (blk_far (blk_far BKg3.out NBg3_g6 _) NBg3_g6 _) NBg3_g6 _) NBg3_g6 _) NBg3_g6 _) NBg3_g6 _) NBg3_g6 _) NBg3_g6 _) NBg3_g6 _)⟩
          clear BKg3; have BKg3 := m_; clear m_
          have m_ : Aside0 ((((((((((W9.setCell ⟨g6, 0, none⟩ (.bool false)).setCell ⟨g6, 1, none⟩ (.int .i64 ((cdig z) 0))).setCell ⟨g6, 2, none⟩ (.int .i64 ((cdig z) 1))).setCell ⟨g6, 3, none⟩ (.int .i64 ((cdig z) 2))).setCell ⟨g6, 4, none⟩ (.int .i64 ((cdig z) 3))).setCell ⟨g6, 5, none⟩ (.int .i64 ((cdig z) 4))).setCell ⟨g6, 6, none⟩ (.int .i64 ((cdig z) 5))).setCell ⟨g6, 7, none⟩ (.int .i64 ((cdig z) 6))).setCell ⟨g6, 8, none⟩ (.int .i64 ((cdig z) 7))).heap[g4]? = some (.cells #[.bool false, .int .i64 0, .int .i64 0, .int .i64 0, .int .i64 0, .int .i64 0, .int .i64 0, .int .i64 0, .int .i64 0] 60 (0, 0))) := ⟨(blk_far (blk_far (blk_far (blk_far (blk_far (blk_far (blk_far (blk_far (blk_far BKg4.out NBg4_g6 _) NBg4_g6 _) NBg4_g6 _) NBg4_g6 _) NBg4_g6 _) NBg4_g6 _) NBg4_g6 _) NBg4_g6 _) NBg4_g6 _)⟩
          clear BKg4; have BKg4 := m_; clear m_
          have b_ : Aside0 (Below w.heap.size w (((((((((W9.setCell ⟨g6, 0, none⟩ (.bool false)).setCell ⟨g6, 1, none⟩ (.int .i64 ((cdig z) 0))).setCell ⟨g6, 2, none⟩ (.int .i64 ((cdig z) 1))).setCell ⟨g6, 3, none⟩ (.int .i64 ((cdig z) 2))).setCell ⟨g6, 4, none⟩ (.int .i64 ((cdig z) 3))).setCell ⟨g6, 5, none⟩ (.int .i64 ((cdig z) 4))).setCell ⟨g6, 6, none⟩ (.int .i64 ((cdig z) 5))).setCell ⟨g6, 7, none⟩ (.int .i64 ((cdig z) 6))).setCell ⟨g6, 8, none⟩ (.int .i64 ((cdig z) 7)))) := ⟨(below_set (below_set (below_set (below_set (below_set (below_set (below_set (below_set (below_set HB.out GEg6.out) GEg6.out) GEg6.out) GEg6.out) GEg6.out) GEg6.out) GEg6.out) GEg6.out) GEg6.out)⟩
          clear BKg6 HB; have BKg6 := n_; have HB := b_; clear n_ b_
          clear hcg6_0 hfg6_0
          clear hcg6_1 hfg6_1
          clear hcg6_2 hfg6_2
          clear hcg6_3 hfg6_3
          clear hcg6_4 hfg6_4
          clear hcg6_5 hfg6_5
          clear hcg6_6 hfg6_6
          clear hcg6_7 hfg6_7
          clear hcg6_8 hfg6_8
          clear hcg5_0 hfg5_0
          clear hcg5_1 hfg5_1
          clear hcg5_2 hfg5_2
          clear hcg5_3 hfg5_3
          clear hcg5_4 hfg5_4
          clear hcg5_5 hfg5_5
          clear hcg5_6 hfg5_6
          clear hcg5_7 hfg5_7
          clear hcg5_8 hfg5_8
          clear hcg2_0 hfg2_0
          clear hcg2_1 hfg2_1
          clear hcg2_2 hfg2_2
          clear hcg2_3 hfg2_3
          clear hcg2_4 hfg2_4
          clear hcg2_5 hfg2_5
          clear hcg2_6 hfg2_6
          clear hcg2_7 hfg2_7
          clear hcg2_8 hfg2_8
          clear hcg3_0 hfg3_0
          clear hcg3_1 hfg3_1
          clear hcg3_2 hfg3_2
          clear hcg3_3 hfg3_3
          clear hcg3_4 hfg3_4
          clear hcg3_5 hfg3_5
          clear hcg3_6 hfg3_6
          clear hcg3_7 hfg3_7
          clear hcg3_8 hfg3_8
          clear hcg4_0 hfg4_0
          clear hcg4_1 hfg4_1
          clear hcg4_2 hfg4_2
          clear hcg4_3 hfg4_3
          clear hcg4_4 hfg4_4
          clear hcg4_5 hfg4_5
          clear hcg4_6 hfg4_6
          clear hcg4_7 hfg4_7
          clear hcg4_8 hfg4_8
          generalize (((((((((W9.setCell ⟨g6, 0, none⟩ (.bool false)).setCell ⟨g6, 1, none⟩ (.int .i64 ((cdig z) 0))).setCell ⟨g6, 2, none⟩ (.int .i64 ((cdig z) 1))).setCell ⟨g6, 3, none⟩ (.int .i64 ((cdig z) 2))).setCell ⟨g6, 4, none⟩ (.int .i64 ((cdig z) 3))).setCell ⟨g6, 5, none⟩ (.int .i64 ((cdig z) 4))).setCell ⟨g6, 6, none⟩ (.int .i64 ((cdig z) 5))).setCell ⟨g6, 7, none⟩ (.int .i64 ((cdig z) 6))).setCell ⟨g6, 8, none⟩ (.int .i64 ((cdig z) 7))) = W10 at *
          have hcg6_0 : W10.cell? ⟨g6, 0, none⟩ = some (.bool false) := (blk_cell BKg6.out 0).trans rfl
          have hfg6_0 := blk_frozen BKg6.out 0
          have hcg6_1 : W10.cell? ⟨g6, 1, none⟩ = some (.int .i64 ((cdig z) 0)) := (blk_cell BKg6.out 1).trans rfl
          have hfg6_1 := blk_frozen BKg6.out 1
          have hcg6_2 : W10.cell? ⟨g6, 2, none⟩ = some (.int .i64 ((cdig z) 1)) := (blk_cell BKg6.out 2).trans rfl
          have hfg6_2 := blk_frozen BKg6.out 2
          have hcg6_3 : W10.cell? ⟨g6, 3, none⟩ = some (.int .i64 ((cdig z) 2)) := (blk_cell BKg6.out 3).trans rfl
          have hfg6_3 := blk_frozen BKg6.out 3
          have hcg6_4 : W10.cell? ⟨g6, 4, none⟩ = some (.int .i64 ((cdig z) 3)) := (blk_cell BKg6.out 4).trans rfl
          have hfg6_4 := blk_frozen BKg6.out 4
          have hcg6_5 : W10.cell? ⟨g6, 5, none⟩ = some (.int .i64 ((cdig z) 4)) := (blk_cell BKg6.out 5).trans rfl
          have hfg6_5 := blk_frozen BKg6.out 5
          have hcg6_6 : W10.cell? ⟨g6, 6, none⟩ = some (.int .i64 ((cdig z) 5)) := (blk_cell BKg6.out 6).trans rfl
          have hfg6_6 := blk_frozen BKg6.out 6
          have hcg6_7 : W10.cell? ⟨g6, 7, none⟩ = some (.int .i64 ((cdig z) 6)) := (blk_cell BKg6.out 7).trans rfl
          have hfg6_7 := blk_frozen BKg6.out 7
          have hcg6_8 : W10.cell? ⟨g6, 8, none⟩ = some (.int .i64 ((cdig z) 7)) := (blk_cell BKg6.out 8).trans rfl
          have hfg6_8 := blk_frozen BKg6.out 8
          have hcg5_0 : W10.cell? ⟨g5, 0, none⟩ = some (.bool (!(ma == mb))) := (blk_cell BKg5.out 0).trans rfl
          have hfg5_0 := blk_frozen BKg5.out 0
          have hcg5_1 : W10.cell? ⟨g5, 1, none⟩ = some (.int .i64 ((cdig q) 0)) := (blk_cell BKg5.out 1).trans rfl
          have hfg5_1 := blk_frozen BKg5.out 1
          have hcg5_2 : W10.cell? ⟨g5, 2, none⟩ = some (.int .i64 ((cdig q) 1)) := (blk_cell BKg5.out 2).trans rfl
          have hfg5_2 := blk_frozen BKg5.out 2
          have hcg5_3 : W10.cell? ⟨g5, 3, none⟩ = some (.int .i64 ((cdig q) 2)) := (blk_cell BKg5.out 3).trans rfl
          have hfg5_3 := blk_frozen BKg5.out 3
          have hcg5_4 : W10.cell? ⟨g5, 4, none⟩ = some (.int .i64 ((cdig q) 3)) := (blk_cell BKg5.out 4).trans rfl
          have hfg5_4 := blk_frozen BKg5.out 4
          have hcg5_5 : W10.cell? ⟨g5, 5, none⟩ = some (.int .i64 ((cdig q) 4)) := (blk_cell BKg5.out 5).trans rfl
          have hfg5_5 := blk_frozen BKg5.out 5
          have hcg5_6 : W10.cell? ⟨g5, 6, none⟩ = some (.int .i64 ((cdig q) 5)) := (blk_cell BKg5.out 6).trans rfl
          have hfg5_6 := blk_frozen BKg5.out 6
          have hcg5_7 : W10.cell? ⟨g5, 7, none⟩ = some (.int .i64 ((cdig q) 6)) := (blk_cell BKg5.out 7).trans rfl
          have hfg5_7 := blk_frozen BKg5.out 7
          have hcg5_8 : W10.cell? ⟨g5, 8, none⟩ = some (.int .i64 ((cdig q) 7)) := (blk_cell BKg5.out 8).trans rfl
          have hfg5_8 := blk_frozen BKg5.out 8
          have hcg2_0 : W10.cell? ⟨g2, 0, none⟩ = some (.bool ma) := (blk_cell BKg2.out 0).trans rfl
          have hfg2_0 := blk_frozen BKg2.out 0
          have hcg2_1 : W10.cell? ⟨g2, 1, none⟩ = some (.int .i64 ((cdig A) 0)) := (blk_cell BKg2.out 1).trans rfl
          have hfg2_1 := blk_frozen BKg2.out 1
          have hcg2_2 : W10.cell? ⟨g2, 2, none⟩ = some (.int .i64 ((cdig A) 1)) := (blk_cell BKg2.out 2).trans rfl
          have hfg2_2 := blk_frozen BKg2.out 2
          have hcg2_3 : W10.cell? ⟨g2, 3, none⟩ = some (.int .i64 ((cdig A) 2)) := (blk_cell BKg2.out 3).trans rfl
          have hfg2_3 := blk_frozen BKg2.out 3
          have hcg2_4 : W10.cell? ⟨g2, 4, none⟩ = some (.int .i64 ((cdig A) 3)) := (blk_cell BKg2.out 4).trans rfl
          have hfg2_4 := blk_frozen BKg2.out 4
          have hcg2_5 : W10.cell? ⟨g2, 5, none⟩ = some (.int .i64 ((cdig A) 4)) := (blk_cell BKg2.out 5).trans rfl
          have hfg2_5 := blk_frozen BKg2.out 5
          have hcg2_6 : W10.cell? ⟨g2, 6, none⟩ = some (.int .i64 ((cdig A) 5)) := (blk_cell BKg2.out 6).trans rfl
          have hfg2_6 := blk_frozen BKg2.out 6
          have hcg2_7 : W10.cell? ⟨g2, 7, none⟩ = some (.int .i64 ((cdig A) 6)) := (blk_cell BKg2.out 7).trans rfl
          have hfg2_7 := blk_frozen BKg2.out 7
          have hcg2_8 : W10.cell? ⟨g2, 8, none⟩ = some (.int .i64 ((cdig A) 7)) := (blk_cell BKg2.out 8).trans rfl
          have hfg2_8 := blk_frozen BKg2.out 8
          have hcg3_0 : W10.cell? ⟨g3, 0, none⟩ = some (.bool mb) := (blk_cell BKg3.out 0).trans rfl
          have hfg3_0 := blk_frozen BKg3.out 0
          have hcg3_1 : W10.cell? ⟨g3, 1, none⟩ = some (.int .i64 ((cdig B) 0)) := (blk_cell BKg3.out 1).trans rfl
          have hfg3_1 := blk_frozen BKg3.out 1
          have hcg3_2 : W10.cell? ⟨g3, 2, none⟩ = some (.int .i64 ((cdig B) 1)) := (blk_cell BKg3.out 2).trans rfl
          have hfg3_2 := blk_frozen BKg3.out 2
          have hcg3_3 : W10.cell? ⟨g3, 3, none⟩ = some (.int .i64 ((cdig B) 2)) := (blk_cell BKg3.out 3).trans rfl
          have hfg3_3 := blk_frozen BKg3.out 3
          have hcg3_4 : W10.cell? ⟨g3, 4, none⟩ = some (.int .i64 ((cdig B) 3)) := (blk_cell BKg3.out 4).trans rfl
          have hfg3_4 := blk_frozen BKg3.out 4
          have hcg3_5 : W10.cell? ⟨g3, 5, none⟩ = some (.int .i64 ((cdig B) 4)) := (blk_cell BKg3.out 5).trans rfl
          have hfg3_5 := blk_frozen BKg3.out 5
          have hcg3_6 : W10.cell? ⟨g3, 6, none⟩ = some (.int .i64 ((cdig B) 5)) := (blk_cell BKg3.out 6).trans rfl
          have hfg3_6 := blk_frozen BKg3.out 6
          have hcg3_7 : W10.cell? ⟨g3, 7, none⟩ = some (.int .i64 ((cdig B) 6)) := (blk_cell BKg3.out 7).trans rfl
          have hfg3_7 := blk_frozen BKg3.out 7
          have hcg3_8 : W10.cell? ⟨g3, 8, none⟩ = some (.int .i64 ((cdig B) 7)) := (blk_cell BKg3.out 8).trans rfl
          have hfg3_8 := blk_frozen BKg3.out 8
          have hcg4_0 : W10.cell? ⟨g4, 0, none⟩ = some (.bool false) := (blk_cell BKg4.out 0).trans rfl
          have hfg4_0 := blk_frozen BKg4.out 0
          have hcg4_1 : W10.cell? ⟨g4, 1, none⟩ = some (.int .i64 0) := (blk_cell BKg4.out 1).trans rfl
          have hfg4_1 := blk_frozen BKg4.out 1
          have hcg4_2 : W10.cell? ⟨g4, 2, none⟩ = some (.int .i64 0) := (blk_cell BKg4.out 2).trans rfl
          have hfg4_2 := blk_frozen BKg4.out 2
          have hcg4_3 : W10.cell? ⟨g4, 3, none⟩ = some (.int .i64 0) := (blk_cell BKg4.out 3).trans rfl
          have hfg4_3 := blk_frozen BKg4.out 3
          have hcg4_4 : W10.cell? ⟨g4, 4, none⟩ = some (.int .i64 0) := (blk_cell BKg4.out 4).trans rfl
          have hfg4_4 := blk_frozen BKg4.out 4
          have hcg4_5 : W10.cell? ⟨g4, 5, none⟩ = some (.int .i64 0) := (blk_cell BKg4.out 5).trans rfl
          have hfg4_5 := blk_frozen BKg4.out 5
          have hcg4_6 : W10.cell? ⟨g4, 6, none⟩ = some (.int .i64 0) := (blk_cell BKg4.out 6).trans rfl
          have hfg4_6 := blk_frozen BKg4.out 6
          have hcg4_7 : W10.cell? ⟨g4, 7, none⟩ = some (.int .i64 0) := (blk_cell BKg4.out 7).trans rfl
          have hfg4_7 := blk_frozen BKg4.out 7
          have hcg4_8 : W10.cell? ⟨g4, 8, none⟩ = some (.int .i64 0) := (blk_cell BKg4.out 8).trans rfl
          have hfg4_8 := blk_frozen BKg4.out 8
          have hqr : Rep (cdig q) q := rep_cdig HR.out.q0 (by have := HR.out.qA ha.nonneg; have := div_pow_le ha.nonneg (k + 1); have := ha.lt; omega)
          have hnx : OvR A B k (2 * q + 1) z := by have := HR.out.up (by rw [← HB01.out, ← HX.out]; exact hc); rw [← HB01.out, ← HX.out, ← HZ.out] at this; exact this
          have hqb : 2 * q + 1 < 340282366920938463463374607431768211456 := by have := hnx.qA ha.nonneg; have := div_pow_le ha.nonneg k; have := ha.lt; omega
          obtain ⟨q2, hq2⟩ : ∃ q2, q2 = 2 * q + 1 := ⟨_, rfl⟩
          rw [← hq2] at hnx
          have HN := Aside0.mk hnx; clear hnx; have HQ2 := Lib.hid hq2; clear hq2
          go_wp2_with fail
          ((with_reducible refine (double_ex (!(ma == mb)) q 1 q2 _ hqr (by decide) (by decide) hqb HQ2.out).mono ?_); rintro e_ W11 ⟨rfl, hb_⟩)
          have n_ := Aside0.mk (blk_below BKg6.out hb_); clear BKg6; have BKg6 := n_; clear n_
          clear hcg6_0 hfg6_0
          clear hcg6_1 hfg6_1
          clear hcg6_2 hfg6_2
          clear hcg6_3 hfg6_3
          clear hcg6_4 hfg6_4
          clear hcg6_5 hfg6_5
          clear hcg6_6 hfg6_6
          clear hcg6_7 hfg6_7
          clear hcg6_8 hfg6_8
          have n_ := Aside0.mk (blk_below BKg5.out hb_); clear BKg5; have BKg5 := n_; clear n_
          clear hcg5_0 hfg5_0
          clear hcg5_1 hfg5_1
          clear hcg5_2 hfg5_2
          clear hcg5_3 hfg5_3
          clear hcg5_4 hfg5_4
          clear hcg5_5 hfg5_5
          clear hcg5_6 hfg5_6
          clear hcg5_7 hfg5_7
          clear hcg5_8 hfg5_8
          have n_ := Aside0.mk (blk_below BKg2.out hb_); clear BKg2; have BKg2 := n_; clear n_
          clear hcg2_0 hfg2_0
          clear hcg2_1 hfg2_1
          clear hcg2_2 hfg2_2
          clear hcg2_3 hfg2_3
          clear hcg2_4 hfg2_4
          clear hcg2_5 hfg2_5
          clear hcg2_6 hfg2_6
          clear hcg2_7 hfg2_7
          clear hcg2_8 hfg2_8
          have n_ := Aside0.mk (blk_below BKg3.out hb_); clear BKg3; have BKg3 := n_; clear n_
          clear hcg3_0 hfg3_0
          clear hcg3_1 hfg3_1
          clear hcg3_2 hfg3_2
          clear hcg3_3 hfg3_3
          clear hcg3_4 hfg3_4
          clear hcg3_5 hfg3_5
          clear hcg3_6 hfg3_6
          clear hcg3_7 hfg3_7
          clear hcg3_8 hfg3_8
          have n_ := Aside0.mk (blk_below BKg4.out hb_); clear BKg4; have BKg4 := n_; clear n_
          clear hcg4_0 hfg4_0
          clear hcg4_1 hfg4_1
          clear hcg4_2 hfg4_2
          clear hcg4_3 hfg4_3
          clear hcg4_4 hfg4_4
          clear hcg4_5 hfg4_5
          clear hcg4_6 hfg4_6
          clear hcg4_7 hfg4_7
          clear hcg4_8 hfg4_8
          have n_ := Aside0.mk (below_step HB.out hb_); clear HB; have HB := n_; clear n_
          clear hb_
          have hcg6_0 : W11.cell? ⟨g6, 0, none⟩ = some (.bool false) := (blk_cell BKg6.out 0).trans rfl
          have hfg6_0 := blk_frozen BKg6.out 0
          have hcg6_1 : W11.cell? ⟨g6, 1, none⟩ = some (.int .i64 ((cdig z) 0)) := (blk_cell BKg6.out 1).trans rfl
          have hfg6_1 := blk_frozen BKg6.out 1
          have hcg6_2 : W11.cell? ⟨g6, 2, none⟩ = some (.int .i64 ((cdig z) 1)) := (blk_cell BKg6.out 2).trans rfl
          have hfg6_2 := blk_frozen BKg6.out 2
          have hcg6_3 : W11.cell? ⟨g6, 3, none⟩ = some (.int .i64 ((cdig z) 2)) := (blk_cell BKg6.out 3).trans rfl
          have hfg6_3 := blk_frozen BKg6.out 3
          have hcg6_4 : W11.cell? ⟨g6, 4, none⟩ = some (.int .i64 ((cdig z) 3)) := (blk_cell BKg6.out 4).trans rfl
          have hfg6_4 := blk_frozen BKg6.out 4
          have hcg6_5 : W11.cell? ⟨g6, 5, none⟩ = some (.int .i64 ((cdig z) 4)) := (blk_cell BKg6.out 5).trans rfl
          have hfg6_5 := blk_frozen BKg6.out 5
          have hcg6_6 : W11.cell? ⟨g6, 6, none⟩ = some (.int .i64 ((cdig z) 5)) := (blk_cell BKg6.out 6).trans rfl
          have hfg6_6 := blk_frozen BKg6.out 6
          have hcg6_7 : W11.cell? ⟨g6, 7, none⟩ = some (.int .i64 ((cdig z) 6)) := (blk_cell BKg6.out 7).trans rfl
          have hfg6_7 := blk_frozen BKg6.out 7
          have hcg6_8 : W11.cell? ⟨g6, 8, none⟩ = some (.int .i64 ((cdig z) 7)) := (blk_cell BKg6.out 8).trans rfl
          have hfg6_8 := blk_frozen BKg6.out 8
          have hcg5_0 : W11.cell? ⟨g5, 0, none⟩ = some (.bool (!(ma == mb))) := (blk_cell BKg5.out 0).trans rfl
          have hfg5_0 := blk_frozen BKg5.out 0
          have hcg5_1 : W11.cell? ⟨g5, 1, none⟩ = some (.int .i64 ((cdig q) 0)) := (blk_cell BKg5.out 1).trans rfl
          have hfg5_1 := blk_frozen BKg5.out 1
          have hcg5_2 : W11.cell? ⟨g5, 2, none⟩ = some (.int .i64 ((cdig q) 1)) := (blk_cell BKg5.out 2).trans rfl
          have hfg5_2 := blk_frozen BKg5.out 2
          have hcg5_3 : W11.cell? ⟨g5, 3, none⟩ = some (.int .i64 ((cdig q) 2)) := (blk_cell BKg5.out 3).trans rfl
          have hfg5_3 := blk_frozen BKg5.out 3
          have hcg5_4 : W11.cell? ⟨g5, 4, none⟩ = some (.int .i64 ((cdig q) 3)) := (blk_cell BKg5.out 4).trans rfl
          have hfg5_4 := blk_frozen BKg5.out 4
          have hcg5_5 : W11.cell? ⟨g5, 5, none⟩ = some (.int .i64 ((cdig q) 4)) := (blk_cell BKg5.out 5).trans rfl
          have hfg5_5 := blk_frozen BKg5.out 5
          have hcg5_6 : W11.cell? ⟨g5, 6, none⟩ = some (.int .i64 ((cdig q) 5)) := (blk_cell BKg5.out 6).trans rfl
          have hfg5_6 := blk_frozen BKg5.out 6
          have hcg5_7 : W11.cell? ⟨g5, 7, none⟩ = some (.int .i64 ((cdig q) 6)) := (blk_cell BKg5.out 7).trans rfl
          have hfg5_7 := blk_frozen BKg5.out 7
          have hcg5_8 : W11.cell? ⟨g5, 8, none⟩ = some (.int .i64 ((cdig q) 7)) := (blk_cell BKg5.out 8).trans rfl
          have hfg5_8 := blk_frozen BKg5.out 8
          have hcg2_0 : W11.cell? ⟨g2, 0, none⟩ = some (.bool ma) := (blk_cell BKg2.out 0).trans rfl
          have hfg2_0 := blk_frozen BKg2.out 0
          have hcg2_1 : W11.cell? ⟨g2, 1, none⟩ = some (.int .i64 ((cdig A) 0)) := (blk_cell BKg2.out 1).trans rfl
          have hfg2_1 := blk_frozen BKg2.out 1
          have hcg2_2 : W11.cell? ⟨g2, 2, none⟩ = some (.int .i64 ((cdig A) 1)) := (blk_cell BKg2.out 2).trans rfl
          have hfg2_2 := blk_frozen BKg2.out 2
          have hcg2_3 : W11.cell? ⟨g2, 3, none⟩ = some (.int .i64 ((cdig A) 2)) := (blk_cell BKg2.out 3).trans rfl
          have hfg2_3 := blk_frozen BKg2.out 3
          have hcg2_4 : W11.cell? ⟨g2, 4, none⟩ = some (.int .i64 ((cdig A) 3)) := (blk_cell BKg2.out 4).trans rfl
          have hfg2_4 := blk_frozen BKg2.out 4
          have hcg2_5 : W11.cell? ⟨g2, 5, none⟩ = some (.int .i64 ((cdig A) 4)) := (blk_cell BKg2.out 5).trans rfl
          have hfg2_5 := blk_frozen BKg2.out 5
          have hcg2_6 : W11.cell? ⟨g2, 6, none⟩ = some (.int .i64 ((cdig A) 5)) := (blk_cell BKg2.out 6).trans rfl
          have hfg2_6 := blk_frozen BKg2.out 6
          have hcg2_7 : W11.cell? ⟨g2, 7, none⟩ = some (.int .i64 ((cdig A) 6)) := (blk_cell BKg2.out 7).trans rfl
          have hfg2_7 := blk_frozen BKg2.out 7
          have hcg2_8 : W11.cell? ⟨g2, 8, none⟩ = some (.int .i64 ((cdig A) 7)) := (blk_cell BKg2.out 8).trans rfl
          have hfg2_8 := blk_frozen BKg2.out 8
          have hcg3_0 : W11.cell? ⟨g3, 0, none⟩ = some (.bool mb) := (blk_cell BKg3.out 0).trans rfl
          have hfg3_0 := blk_frozen BKg3.out 0
          have hcg3_1 : W11.cell? ⟨g3, 1, none⟩ = some (.int .i64 ((cdig B) 0)) := (blk_cell BKg3.out 1).trans rfl
          have hfg3_1 := blk_frozen BKg3.out 1
          have hcg3_2 : W11.cell? ⟨g3, 2, none⟩ = some (.int .i64 ((cdig B) 1)) := (blk_cell BKg3.out 2).trans rfl
          have hfg3_2 := blk_frozen BKg3.out 2
          have hcg3_3 : W11.cell? ⟨g3, 3, none⟩ = some (.int .i64 ((cdig B) 2)) := (blk_cell BKg3.out 3).trans rfl
          have hfg3_3 := blk_frozen BKg3.out 3
          have hcg3_4 : W11.cell? ⟨g3, 4, none⟩ = some (.int .i64 ((cdig B) 3)) := (blk_cell BKg3.out 4).trans rfl
          have hfg3_4 := blk_frozen BKg3.out 4
          have hcg3_5 : W11.cell? ⟨g3, 5, none⟩ = some (.int .i64 ((cdig B) 4)) := (blk_cell BKg3.out 5).trans rfl
          have hfg3_5 := blk_frozen BKg3.out 5
          have hcg3_6 : W11.cell? ⟨g3, 6, none⟩ = some (.int .i64 ((cdig B) 5)) := (blk_cell BKg3.out 6).trans rfl
          have hfg3_6 := blk_frozen BKg3.out 6
          have hcg3_7 : W11.cell? ⟨g3, 7, none⟩ = some (.int .i64 ((cdig B) 6)) := (blk_cell BKg3.out 7).trans rfl
          have hfg3_7 := blk_frozen BKg3.out 7
          have hcg3_8 : W11.cell? ⟨g3, 8, none⟩ = some (.int .i64 ((cdig B) 7)) := (blk_cell BKg3.out 8).trans rfl
          have hfg3_8 := blk_frozen BKg3.out 8
          have hcg4_0 : W11.cell? ⟨g4, 0, none⟩ = some (.bool false) := (blk_cell BKg4.out 0).trans rfl
          have hfg4_0 := blk_frozen BKg4.out 0
          have hcg4_1 : W11.cell? ⟨g4, 1, none⟩ = some (.int .i64 0) := (blk_cell BKg4.out 1).trans rfl
          have hfg4_1 := blk_frozen BKg4.out 1
          have hcg4_2 : W11.cell? ⟨g4, 2, none⟩ = some (.int .i64 0) := (blk_cell BKg4.out 2).trans rfl
          have hfg4_2 := blk_frozen BKg4.out 2
          have hcg4_3 : W11.cell? ⟨g4, 3, none⟩ = some (.int .i64 0) := (blk_cell BKg4.out 3).trans rfl
          have hfg4_3 := blk_frozen BKg4.out 3
          have hcg4_4 : W11.cell? ⟨g4, 4, none⟩ = some (.int .i64 0) := (blk_cell BKg4.out 4).trans rfl
          have hfg4_4 := blk_frozen BKg4.out 4
          have hcg4_5 : W11.cell? ⟨g4, 5, none⟩ = some (.int .i64 0) := (blk_cell BKg4.out 5).trans rfl
          have hfg4_5 := blk_frozen BKg4.out 5
          have hcg4_6 : W11.cell? ⟨g4, 6, none⟩ = some (.int .i64 0) := (blk_cell BKg4.out 6).trans rfl
          have hfg4_6 := blk_frozen BKg4.out 6
          have hcg4_7 : W11.cell? ⟨g4, 7, none⟩ = some (.int .i64 0) := (blk_cell BKg4.out 7).trans rfl
          have hfg4_7 := blk_frozen BKg4.out 7
          have hcg4_8 : W11.cell? ⟨g4, 8, none⟩ = some (.int .i64 0) := (blk_cell BKg4.out 8).trans rfl
          have hfg4_8 := blk_frozen BKg4.out 8
          go_wp2
          have n_ : Aside0 ((((((((((W11.setCell ⟨g5, 0, none⟩ (.bool (!(ma == mb)))).setCell ⟨g5, 1, none⟩ (.int .i64 ((cdig q2) 0))).setCell ⟨g5, 2, none⟩ (.int .i64 ((cdig q2) 1))).setCell ⟨g5, 3, none⟩ (.int .i64 ((cdig q2) 2))).setCell ⟨g5, 4, none⟩ (.int .i64 ((cdig q2) 3))).setCell ⟨g5, 5, none⟩ (.int .i64 ((cdig q2) 4))).setCell ⟨g5, 6, none⟩ (.int .i64 ((cdig q2) 5))).setCell ⟨g5, 7, none⟩ (.int .i64 ((cdig q2) 6))).setCell ⟨g5, 8, none⟩ (.int .i64 ((cdig q2) 7))).heap[g5]? = some (.cells #[.bool (!(ma == mb)), .int .i64 ((cdig q2) 0), .int .i64 ((cdig q2) 1), .int .i64 ((cdig q2) 2), .int .i64 ((cdig q2) 3), .int .i64 ((cdig q2) 4), .int .i64 ((cdig q2) 5), .int .i64 ((cdig q2) 6), .int .i64 ((cdig q2) 7)] 60 (0, 0))) := ⟨by refine blk_put (cs := #[.bool (!(ma == mb)), .int .i64 ((cdig q2) 0), .int .i64 ((cdig q2) 1), .int .i64 ((cdig q2) 2), .int .i64 ((cdig q2) 3), .int .i64 ((cdig q2) 4), .int .i64 ((cdig q2) 5), .int .i64 ((cdig q2) 6), .int .i64 ((cdig q) 7)]) ?_ 8 _ rfl; refine blk_put (cs := #[.bool (!(ma == mb)), .int .i64 ((cdig q2) 0), .int .i64 ((cdig q2) 1), .int .i64 ((cdig q2) 2), .int .i64 ((cdig q2) 3), .int .i64 ((cdig q2) 4), .int .i64 ((cdig q2) 5), .int .i64 ((cdig q) 6), .int .i64 ((cdig q) 7)]) ?_ 7 _ rfl; refine blk_put (cs := #[.bool (!(ma == mb)), .int .i64 ((cdig q2) 0), .int .i64 ((cdig q2) 1), .int .i64 ((cdig q2) 2), .int .i64 ((cdig q2) 3), .int .i64 ((cdig q2) 4), .int .i64 ((cdig q) 5), .int .i64 ((cdig q) 6), .int .i64 ((cdig q) 7)]) ?_ 6 _ rfl; refine blk_put (cs := #[.bool (!(ma == mb)), .int .i64 ((cdig q2) 0), .int .i64 ((cdig q2) 1), .int .i64 ((cdig q2) 2), .int .i64 ((cdig q2) 3), .int .i64 ((cdig q) 4), .int .i64 ((cdig q) 5), .int .i64 ((cdig q) 6), .int .i64 ((cdig q) 7)]) ?_ 5 _ rfl; refine blk_put (cs := #[.bool (!(ma == mb)), .int .i64 ((cdig q2) 0), .int .i64 ((cdig q2) 1), .int .i64 ((cdig q2) 2), .int .i64 ((cdig q) 3), .int .i64 ((cdig q) 4), .int .i64 ((cdig q) 5), .int .i64 ((cdig q) 6), .int .i64 ((cdig q) 7)]) ?_ 4 _ rfl; refine blk_put (cs := #[.bool (!(ma == mb)), .int .i64 ((cdig q2) 0), .int .i64 ((cdig q2) 1), .int .i64 ((cdig q) 2), .int .i64 ((cdig q) 3), .int .i64 ((cdig q) 4), .int .i64 ((cdig q) 5), .int .i64 ((cdig q) 6), .int .i64 ((cdig q) 7)]) ?_ 3 _ rfl; refine blk_put (cs := #[.bool (!(ma == mb)), .int .i64 ((cdig q2) 0), .int .i64 ((cdig q) 1), .int .i64 ((cdig q) 2), .int .i64 ((cdig q) 3), .int .i64 ((cdig q) 4), .int .i64 ((cdig q) 5), .int .i64 ((cdig q) 6), .int .i64 ((cdig q) 7)]) ?_ 2 _ rfl; refine blk_put (cs := #[.bool (!(ma == mb)), .int .i64 ((cdig q) 0), .int .i64 ((cdig q) 1), .int .i64 ((cdig q) 2), .int .i64 ((cdig q) 3), .int .i64 ((cdig q) 4), .int .i64 ((cdig q) 5), .int .i64 ((cdig q) 6), .int .i64 ((cdig q) 7)]) ?_ 1 _ rfl; refine blk_put (cs := #[.bool (!(ma == mb)), .int .i64 ((cdig q) 0), .int .i64 ((cdig q) 1), .int .i64 ((cdig q) 2), .int .i64 ((cdig q) 3), .int .i64 ((cdig q) 4), .int .i64 ((cdig q) 5), .int .i64 ((cdig q) 6), .int .i64 ((cdig q) 7)]) ?_ 0 _ rfl; exact BKg5.out⟩
          have m_ : Aside0 ((((((((((W11.setCell ⟨g5, 0, none⟩ (.bool (!(ma == mb)))).setCell ⟨g5, 1, none⟩ (.int .i64 ((cdig q2) 0))).setCell ⟨g5, 2, none⟩ (.int .i64 ((cdig q2) 1))).setCell ⟨g5, 3, none⟩ (.int .i64 ((cdig q2) 2))).setCell ⟨g5, 4, none⟩ (.int .i64 ((cdig q2) 3))).setCell ⟨g5, 5, none⟩ (.int .i64 ((cdig q2) 4))).setCell ⟨g5, 6, none⟩ (.int .i64 ((cdig q2) 5))).setCell ⟨g5, 7, none⟩ (.int .i64 ((cdig q2) 6))).setCell ⟨g5, 8, none⟩ (.int .i64 ((cdig q2) 7))).heap[g6]? = some (.cells #[.bool false, .int .i64 ((cdig z) 0), .int .i64 ((cdig z) 1), .int .i64 ((cdig z) 2), .int .i64 ((cdig z) 3), .int .i64 ((cdig z) 4), .int .i64 ((cdig z) 5), .int .i64 ((cdig z) 6), .int .i64 ((cdig z) 7)] 60 (0, 0))) := ⟨(blk_far (blk_far (blk_far (blk_far (blk_far (blk_far (blk_far (blk_far (blk_far BKg6.out NBg6_g5 _) NBg6_g5 _) NBg6_g5 _) NBg6_g5 _) NBg6_g5 _) NBg6_g5 _) NBg6_g5 _) NBg6_g5 _) NBg6_g5 _)⟩
          clear BKg6; have BKg6 := m_; clear m_
          have m_ : Aside0 ((((((((((W11.setCell ⟨g5, 0, none⟩ (.bool (!(ma == mb)))).setCell ⟨g5, 1, none⟩ (.int .i64 ((cdig q2) 0))).setCell ⟨g5, 2, none⟩ (.int .i64 ((cdig q2) 1))).setCell ⟨g5, 3, none⟩ (.int .i64 ((cdig q2) 2))).setCell ⟨g5, 4, none⟩ (.int .i64 ((cdig q2) 3))).setCell ⟨g5, 5, none⟩ (.int .i64 ((cdig q2) 4))).setCell ⟨g5, 6, none⟩ (.int .i64 ((cdig q2) 5))).setCell ⟨g5, 7, none⟩ (.int .i64 ((cdig q2) 6))).setCell ⟨g5, 8, none⟩ (.int .i64 ((cdig q2) 7))).heap[g2]? = some (.cells (bigA ma (cdig A)) 60 (0, 0))) := ⟨(blk_far (blk_far (blk_far (blk_far (blk_far (blk_far (blk_far (blk_far (blk_far BKg2.out NBg2_g5 _) NBg2_g5 _) NBg2_g5 _) NBg2_g5 _) NBg2_g5 _) NBg2_g5 _) NBg2_g5 _) NBg2_g5 _) NBg2_g5 _)⟩
          clear BKg2; have BKg2 := m_; clear m_
          have m_ : Aside0 ((((((((((W11.setCell ⟨g5, 0, none⟩ (.bool (!(ma == mb)))).setCell ⟨g5, 1, none⟩ (.int .i64 ((cdig q2) 0))).setCell ⟨g5, 2, none⟩ (.int .i64 ((cdig q2) 1))).setCell ⟨g5, 3, none⟩ (.int .i64 ((cdig q2) 2))).setCell ⟨g5, 4, none⟩ (.int .i64 ((cdig q2) 3))).setCell ⟨g5, 5, none⟩ (.int .i64 ((cdig q2) 4))).setCell ⟨g5, 6, none⟩ (.int .i64 ((cdig q2) 5))).setCell ⟨g5, 7, none⟩ (.int .i64 ((cdig q2) 6))).setCell ⟨g5, 8, none⟩ (.int .i64 ((cdig q2) 7))).heap[g3]? = some (.cells (bigA mb (cdig B)) 60 (0, 0))) := ⟨(blk_far (blk_far (blk_far (blk_far (blk_far (blk_far (blk_far (blk_far (blk_far BKg3.out NBg3_g5 _) NBg3_g5 _) NBg3_g5 _) NBg3_g5 _) NBg3_g5 _) NBg3_g5 _) NBg3_g5 _) NBg3_g5 _) NBg3_g5 _)⟩
          clear BKg3; have BKg3 := m_; clear m_
          have m_ : Aside0 ((((((((((W11.setCell ⟨g5, 0, none⟩ (.bool (!(ma == mb)))).setCell ⟨g5, 1, none⟩ (.int .i64 ((cdig q2) 0))).setCell ⟨g5, 2, none⟩ (.int .i64 ((cdig q2) 1))).setCell ⟨g5, 3, none⟩ (.int .i64 ((cdig q2) 2))).setCell ⟨g5, 4, none⟩ (.int .i64 ((cdig q2) 3))).setCell ⟨g5, 5, none⟩ (.int .i64 ((cdig q2) 4))).setCell ⟨g5, 6, none⟩ (.int .i64 ((cdig q2) 5))).setCell ⟨g5, 7, none⟩ (.int .i64 ((cdig q2) 6))).setCell ⟨g5, 8, none⟩ (.int .i64 ((cdig q2) 7))).heap[g4]? = some (.cells #[.bool false, .int .i64 0, .int .i64 0, .int .i64 0, .int .i64 0, .int .i64 0, .int .i64 0, .int .i64 0, .int .i64 0] 60 (0, 0))) := ⟨(blk_far (blk_far (blk_far (blk_far (blk_far (blk_far (blk_far (blk_far (blk_far BKg4.out NBg4_g5 _) NBg4_g5 _) NBg4_g5 _) NBg4_g5 _) NBg4_g5 _) NBg4_g5 _) NBg4_g5 _) NBg4_g5 _) NBg4_g5 _)⟩
          clear BKg4; have BKg4 := m_; clear m_
          have b_ : Aside0 (Below w.heap.size w (((((((((W11.setCell ⟨g5, 0, none⟩ (.bool (!(ma == mb)))).setCell ⟨g5, 1, none⟩ (.int .i64 ((cdig q2) 0))).setCell ⟨g5, 2, none⟩ (.int .i64 ((cdig q2) 1))).setCell ⟨g5, 3, none⟩ (.int .i64 ((cdig q2) 2))).setCell ⟨g5, 4, none⟩ (.int .i64 ((cdig q2) 3))).setCell ⟨g5, 5, none⟩ (.int .i64 ((cdig q2) 4))).setCell ⟨g5, 6, none⟩ (.int .i64 ((cdig q2) 5))).setCell ⟨g5, 7, none⟩ (.int .i64 ((cdig q2) 6))).setCell ⟨g5, 8, none⟩ (.int .i64 ((cdig q2) 7)))) := ⟨(below_set (below_set (below_set (below_set (below_set (below_set (below_set (below_set (below_set HB.out GEg5.out) GEg5.out) GEg5.out) GEg5.out) GEg5.out) GEg5.out) GEg5.out) GEg5.out) GEg5.out)⟩
          clear BKg5 HB; have BKg5 := n_; have HB := b_; clear n_ b_
          clear hcg6_0 hfg6_0
          clear hcg6_1 hfg6_1
          clear hcg6_2 hfg6_2
          clear hcg6_3 hfg6_3
          clear hcg6_4 hfg6_4
          clear hcg6_5 hfg6_5
          clear hcg6_6 hfg6_6
          clear hcg6_7 hfg6_7
          clear hcg6_8 hfg6_8
          clear hcg5_0 hfg5_0
          clear hcg5_1 hfg5_1
          clear hcg5_2 hfg5_2
          clear hcg5_3 hfg5_3
          clear hcg5_4 hfg5_4
          clear hcg5_5 hfg5_5
          clear hcg5_6 hfg5_6
          clear hcg5_7 hfg5_7
          clear hcg5_8 hfg5_8
          clear hcg2_0 hfg2_0
          clear hcg2_1 hfg2_1
          clear hcg2_2 hfg2_2
          clear hcg2_3 hfg2_3
          clear hcg2_4 hfg2_4
          clear hcg2_5 hfg2_5
          clear hcg2_6 hfg2_6
          clear hcg2_7 hfg2_7
          clear hcg2_8 hfg2_8
          clear hcg3_0 hfg3_0
          clear hcg3_1 hfg3_1
          clear hcg3_2 hfg3_2
          clear hcg3_3 hfg3_3
          clear hcg3_4 hfg3_4
          clear hcg3_5 hfg3_5
          clear hcg3_6 hfg3_6
          clear hcg3_7 hfg3_7
          clear hcg3_8 hfg3_8
          clear hcg4_0 hfg4_0
          clear hcg4_1 hfg4_1
          clear hcg4_2 hfg4_2
          clear hcg4_3 hfg4_3
          clear hcg4_4 hfg4_4
          clear hcg4_5 hfg4_5
          clear hcg4_6 hfg4_6
          clear hcg4_7 hfg4_7
          clear hcg4_8 hfg4_8
          generalize (((((((((W11.setCell ⟨g5, 0, none⟩ (.bool (!(ma == mb)))).setCell ⟨g5, 1, none⟩ (.int .i64 ((cdig q2) 0))).setCell ⟨g5, 2, none⟩ (.int .i64 ((cdig q2) 1))).setCell ⟨g5, 3, none⟩ (.int .i64 ((cdig q2) 2))).setCell ⟨g5, 4, none⟩ (.int .i64 ((cdig q2) 3))).setCell ⟨g5, 5, none⟩ (.int .i64 ((cdig q2) 4))).setCell ⟨g5, 6, none⟩ (.int .i64 ((cdig q2) 5))).setCell ⟨g5, 7, none⟩ (.int .i64 ((cdig q2) 6))).setCell ⟨g5, 8, none⟩ (.int .i64 ((cdig q2) 7))) = W12 at *
          have hcg6_0 : W12.cell? ⟨g6, 0, none⟩ = some (.bool false) := (blk_cell BKg6.out 0).trans rfl
          have hfg6_0 := blk_frozen BKg6.out 0
          have hcg6_1 : W12.cell? ⟨g6, 1, none⟩ = some (.int .i64 ((cdig z) 0)) := (blk_cell BKg6.out 1).trans rfl
          have hfg6_1 := blk_frozen BKg6.out 1
          have hcg6_2 : W12.cell? ⟨g6, 2, none⟩ = some (.int .i64 ((cdig z) 1)) := (blk_cell BKg6.out 2).trans rfl
          have hfg6_2 := blk_frozen BKg6.out 2
          have hcg6_3 : W12.cell? ⟨g6, 3, none⟩ = some (.int .i64 ((cdig z) 2)) := (blk_cell BKg6.out 3).trans rfl
          have hfg6_3 := blk_frozen BKg6.out 3
          have hcg6_4 : W12.cell? ⟨g6, 4, none⟩ = some (.int .i64 ((cdig z) 3)) := (blk_cell BKg6.out 4).trans rfl
          have hfg6_4 := blk_frozen BKg6.out 4
          have hcg6_5 : W12.cell? ⟨g6, 5, none⟩ = some (.int .i64 ((cdig z) 4)) := (blk_cell BKg6.out 5).trans rfl
          have hfg6_5 := blk_frozen BKg6.out 5
          have hcg6_6 : W12.cell? ⟨g6, 6, none⟩ = some (.int .i64 ((cdig z) 5)) := (blk_cell BKg6.out 6).trans rfl
          have hfg6_6 := blk_frozen BKg6.out 6
          have hcg6_7 : W12.cell? ⟨g6, 7, none⟩ = some (.int .i64 ((cdig z) 6)) := (blk_cell BKg6.out 7).trans rfl
          have hfg6_7 := blk_frozen BKg6.out 7
          have hcg6_8 : W12.cell? ⟨g6, 8, none⟩ = some (.int .i64 ((cdig z) 7)) := (blk_cell BKg6.out 8).trans rfl
          have hfg6_8 := blk_frozen BKg6.out 8
          have hcg5_0 : W12.cell? ⟨g5, 0, none⟩ = some (.bool (!(ma == mb))) := (blk_cell BKg5.out 0).trans rfl
          have hfg5_0 := blk_frozen BKg5.out 0
          have hcg5_1 : W12.cell? ⟨g5, 1, none⟩ = some (.int .i64 ((cdig q2) 0)) := (blk_cell BKg5.out 1).trans rfl
          have hfg5_1 := blk_frozen BKg5.out 1
          have hcg5_2 : W12.cell? ⟨g5, 2, none⟩ = some (.int .i64 ((cdig q2) 1)) := (blk_cell BKg5.out 2).trans rfl
          have hfg5_2 := blk_frozen BKg5.out 2
          have hcg5_3 : W12.cell? ⟨g5, 3, none⟩ = some (.int .i64 ((cdig q2) 2)) := (blk_cell BKg5.out 3).trans rfl
          have hfg5_3 := blk_frozen BKg5.out 3
          have hcg5_4 : W12.cell? ⟨g5, 4, none⟩ = some (.int .i64 ((cdig q2) 3)) := (blk_cell BKg5.out 4).trans rfl
          have hfg5_4 := blk_frozen BKg5.out 4
          have hcg5_5 : W12.cell? ⟨g5, 5, none⟩ = some (.int .i64 ((cdig q2) 4)) := (blk_cell BKg5.out 5).trans rfl
          have hfg5_5 := blk_frozen BKg5.out 5
          have hcg5_6 : W12.cell? ⟨g5, 6, none⟩ = some (.int .i64 ((cdig q2) 5)) := (blk_cell BKg5.out 6).trans rfl
          have hfg5_6 := blk_frozen BKg5.out 6
          have hcg5_7 : W12.cell? ⟨g5, 7, none⟩ = some (.int .i64 ((cdig q2) 6)) := (blk_cell BKg5.out 7).trans rfl
          have hfg5_7 := blk_frozen BKg5.out 7
          have hcg5_8 : W12.cell? ⟨g5, 8, none⟩ = some (.int .i64 ((cdig q2) 7)) := (blk_cell BKg5.out 8).trans rfl
          have hfg5_8 := blk_frozen BKg5.out 8
          have hcg2_0 : W12.cell? ⟨g2, 0, none⟩ = some (.bool ma) := (blk_cell BKg2.out 0).trans rfl
          have hfg2_0 := blk_frozen BKg2.out 0
          have hcg2_1 : W12.cell? ⟨g2, 1, none⟩ = some (.int .i64 ((cdig A) 0)) := (blk_cell BKg2.out 1).trans rfl
          have hfg2_1 := blk_frozen BKg2.out 1
          have hcg2_2 : W12.cell? ⟨g2, 2, none⟩ = some (.int .i64 ((cdig A) 1)) := (blk_cell BKg2.out 2).trans rfl
          have hfg2_2 := blk_frozen BKg2.out 2
          have hcg2_3 : W12.cell? ⟨g2, 3, none⟩ = some (.int .i64 ((cdig A) 2)) := (blk_cell BKg2.out 3).trans rfl
          have hfg2_3 := blk_frozen BKg2.out 3
          have hcg2_4 : W12.cell? ⟨g2, 4, none⟩ = some (.int .i64 ((cdig A) 3)) := (blk_cell BKg2.out 4).trans rfl
          have hfg2_4 := blk_frozen BKg2.out 4
          have hcg2_5 : W12.cell? ⟨g2, 5, none⟩ = some (.int .i64 ((cdig A) 4)) := (blk_cell BKg2.out 5).trans rfl
          have hfg2_5 := blk_frozen BKg2.out 5
          have hcg2_6 : W12.cell? ⟨g2, 6, none⟩ = some (.int .i64 ((cdig A) 5)) := (blk_cell BKg2.out 6).trans rfl
          have hfg2_6 := blk_frozen BKg2.out 6
          have hcg2_7 : W12.cell? ⟨g2, 7, none⟩ = some (.int .i64 ((cdig A) 6)) := (blk_cell BKg2.out 7).trans rfl
          have hfg2_7 := blk_frozen BKg2.out 7
          have hcg2_8 : W12.cell? ⟨g2, 8, none⟩ = some (.int .i64 ((cdig A) 7)) := (blk_cell BKg2.out 8).trans rfl
          have hfg2_8 := blk_frozen BKg2.out 8
          have hcg3_0 : W12.cell? ⟨g3, 0, none⟩ = some (.bool mb) := (blk_cell BKg3.out 0).trans rfl
          have hfg3_0 := blk_frozen BKg3.out 0
          have hcg3_1 : W12.cell? ⟨g3, 1, none⟩ = some (.int .i64 ((cdig B) 0)) := (blk_cell BKg3.out 1).trans rfl
          have hfg3_1 := blk_frozen BKg3.out 1
          have hcg3_2 : W12.cell? ⟨g3, 2, none⟩ = some (.int .i64 ((cdig B) 1)) := (blk_cell BKg3.out 2).trans rfl
          have hfg3_2 := blk_frozen BKg3.out 2
          have hcg3_3 : W12.cell? ⟨g3, 3, none⟩ = some (.int .i64 ((cdig B) 2)) := (blk_cell BKg3.out 3).trans rfl
          have hfg3_3 := blk_frozen BKg3.out 3
          have hcg3_4 : W12.cell? ⟨g3, 4, none⟩ = some (.int .i64 ((cdig B) 3)) := (blk_cell BKg3.out 4).trans rfl
          have hfg3_4 := blk_frozen BKg3.out 4
          have hcg3_5 : W12.cell? ⟨g3, 5, none⟩ = some (.int .i64 ((cdig B) 4)) := (blk_cell BKg3.out 5).trans rfl
          have hfg3_5 := blk_frozen BKg3.out 5
          have hcg3_6 : W12.cell? ⟨g3, 6, none⟩ = some (.int .i64 ((cdig B) 5)) := (blk_cell BKg3.out 6).trans rfl
          have hfg3_6 := blk_frozen BKg3.out 6
          have hcg3_7 : W12.cell? ⟨g3, 7, none⟩ = some (.int .i64 ((cdig B) 6)) := (blk_cell BKg3.out 7).trans rfl
          have hfg3_7 := blk_frozen BKg3.out 7
          have hcg3_8 : W12.cell? ⟨g3, 8, none⟩ = some (.int .i64 ((cdig B) 7)) := (blk_cell BKg3.out 8).trans rfl
          have hfg3_8 := blk_frozen BKg3.out 8
          have hcg4_0 : W12.cell? ⟨g4, 0, none⟩ = some (.bool false) := (blk_cell BKg4.out 0).trans rfl
          have hfg4_0 := blk_frozen BKg4.out 0
          have hcg4_1 : W12.cell? ⟨g4, 1, none⟩ = some (.int .i64 0) := (blk_cell BKg4.out 1).trans rfl
          have hfg4_1 := blk_frozen BKg4.out 1
          have hcg4_2 : W12.cell? ⟨g4, 2, none⟩ = some (.int .i64 0) := (blk_cell BKg4.out 2).trans rfl
          have hfg4_2 := blk_frozen BKg4.out 2
          have hcg4_3 : W12.cell? ⟨g4, 3, none⟩ = some (.int .i64 0) := (blk_cell BKg4.out 3).trans rfl
          have hfg4_3 := blk_frozen BKg4.out 3
          have hcg4_4 : W12.cell? ⟨g4, 4, none⟩ = some (.int .i64 0) := (blk_cell BKg4.out 4).trans rfl
          have hfg4_4 := blk_frozen BKg4.out 4
          have hcg4_5 : W12.cell? ⟨g4, 5, none⟩ = some (.int .i64 0) := (blk_cell BKg4.out 5).trans rfl
          have hfg4_5 := blk_frozen BKg4.out 5
          have hcg4_6 : W12.cell? ⟨g4, 6, none⟩ = some (.int .i64 0) := (blk_cell BKg4.out 6).trans rfl
          have hfg4_6 := blk_frozen BKg4.out 6
          have hcg4_7 : W12.cell? ⟨g4, 7, none⟩ = some (.int .i64 0) := (blk_cell BKg4.out 7).trans rfl
          have hfg4_7 := blk_frozen BKg4.out 7
          have hcg4_8 : W12.cell? ⟨g4, 8, none⟩ = some (.int .i64 0) := (blk_cell BKg4.out 8).trans rfl
          have hfg4_8 := blk_frozen BKg4.out 8
          exact ⟨⟨k, q2, z, rfl, ⟨by omega⟩, HN, BKg6, BKg5, BKg2, BKg3, BKg4, HB⟩, by simp [intOf]⟩
        ·
          have hd : decide (0 ≤ cmpI x B) = false := by unfold cmpI; rw [if_pos (by omega)]; rfl
          go_wp2_with fail
          ((with_reducible refine (compare_ex false mb x B _ hxr hb).mono ?_); rintro e_ W28 ⟨rfl, hb_⟩)
          have n_ := Aside0.mk (blk_below BKg6.out hb_); clear BKg6; have BKg6 := n_; clear n_
          clear hcg6_0 hfg6_0
          clear hcg6_1 hfg6_1
          clear hcg6_2 hfg6_2
          clear hcg6_3 hfg6_3
          clear hcg6_4 hfg6_4
          clear hcg6_5 hfg6_5
          clear hcg6_6 hfg6_6
          clear hcg6_7 hfg6_7
          clear hcg6_8 hfg6_8
          have n_ := Aside0.mk (blk_below BKg5.out hb_); clear BKg5; have BKg5 := n_; clear n_
          clear hcg5_0 hfg5_0
          clear hcg5_1 hfg5_1
          clear hcg5_2 hfg5_2
          clear hcg5_3 hfg5_3
          clear hcg5_4 hfg5_4
          clear hcg5_5 hfg5_5
          clear hcg5_6 hfg5_6
          clear hcg5_7 hfg5_7
          clear hcg5_8 hfg5_8
          have n_ := Aside0.mk (blk_below BKg2.out hb_); clear BKg2; have BKg2 := n_; clear n_
          clear hcg2_0 hfg2_0
          clear hcg2_1 hfg2_1
          clear hcg2_2 hfg2_2
          clear hcg2_3 hfg2_3
          clear hcg2_4 hfg2_4
          clear hcg2_5 hfg2_5
          clear hcg2_6 hfg2_6
          clear hcg2_7 hfg2_7
          clear hcg2_8 hfg2_8
          have n_ := Aside0.mk (blk_below BKg3.out hb_); clear BKg3; have BKg3 := n_; clear n_
          clear hcg3_0 hfg3_0
          clear hcg3_1 hfg3_1
          clear hcg3_2 hfg3_2
          clear hcg3_3 hfg3_3
          clear hcg3_4 hfg3_4
          clear hcg3_5 hfg3_5
          clear hcg3_6 hfg3_6
          clear hcg3_7 hfg3_7
          clear hcg3_8 hfg3_8
          have n_ := Aside0.mk (blk_below BKg4.out hb_); clear BKg4; have BKg4 := n_; clear n_
          clear hcg4_0 hfg4_0
          clear hcg4_1 hfg4_1
          clear hcg4_2 hfg4_2
          clear hcg4_3 hfg4_3
          clear hcg4_4 hfg4_4
          clear hcg4_5 hfg4_5
          clear hcg4_6 hfg4_6
          clear hcg4_7 hfg4_7
          clear hcg4_8 hfg4_8
          have n_ := Aside0.mk (below_step HB.out hb_); clear HB; have HB := n_; clear n_
          clear hb_
          have hcg6_0 : W28.cell? ⟨g6, 0, none⟩ = some (.bool false) := (blk_cell BKg6.out 0).trans rfl
          have hfg6_0 := blk_frozen BKg6.out 0
          have hcg6_1 : W28.cell? ⟨g6, 1, none⟩ = some (.int .i64 ((cdig x) 0)) := (blk_cell BKg6.out 1).trans rfl
          have hfg6_1 := blk_frozen BKg6.out 1
          have hcg6_2 : W28.cell? ⟨g6, 2, none⟩ = some (.int .i64 ((cdig x) 1)) := (blk_cell BKg6.out 2).trans rfl
          have hfg6_2 := blk_frozen BKg6.out 2
          have hcg6_3 : W28.cell? ⟨g6, 3, none⟩ = some (.int .i64 ((cdig x) 2)) := (blk_cell BKg6.out 3).trans rfl
          have hfg6_3 := blk_frozen BKg6.out 3
          have hcg6_4 : W28.cell? ⟨g6, 4, none⟩ = some (.int .i64 ((cdig x) 3)) := (blk_cell BKg6.out 4).trans rfl
          have hfg6_4 := blk_frozen BKg6.out 4
          have hcg6_5 : W28.cell? ⟨g6, 5, none⟩ = some (.int .i64 ((cdig x) 4)) := (blk_cell BKg6.out 5).trans rfl
          have hfg6_5 := blk_frozen BKg6.out 5
          have hcg6_6 : W28.cell? ⟨g6, 6, none⟩ = some (.int .i64 ((cdig x) 5)) := (blk_cell BKg6.out 6).trans rfl
          have hfg6_6 := blk_frozen BKg6.out 6
          have hcg6_7 : W28.cell? ⟨g6, 7, none⟩ = some (.int .i64 ((cdig x) 6)) := (blk_cell BKg6.out 7).trans rfl
          have hfg6_7 := blk_frozen BKg6.out 7
          have hcg6_8 : W28.cell? ⟨g6, 8, none⟩ = some (.int .i64 ((cdig x) 7)) := (blk_cell BKg6.out 8).trans rfl
          have hfg6_8 := blk_frozen BKg6.out 8
          have hcg5_0 : W28.cell? ⟨g5, 0, none⟩ = some (.bool (!(ma == mb))) := (blk_cell BKg5.out 0).trans rfl
          have hfg5_0 := blk_frozen BKg5.out 0
          have hcg5_1 : W28.cell? ⟨g5, 1, none⟩ = some (.int .i64 ((cdig q) 0)) := (blk_cell BKg5.out 1).trans rfl
          have hfg5_1 := blk_frozen BKg5.out 1
          have hcg5_2 : W28.cell? ⟨g5, 2, none⟩ = some (.int .i64 ((cdig q) 1)) := (blk_cell BKg5.out 2).trans rfl
          have hfg5_2 := blk_frozen BKg5.out 2
          have hcg5_3 : W28.cell? ⟨g5, 3, none⟩ = some (.int .i64 ((cdig q) 2)) := (blk_cell BKg5.out 3).trans rfl
          have hfg5_3 := blk_frozen BKg5.out 3
          have hcg5_4 : W28.cell? ⟨g5, 4, none⟩ = some (.int .i64 ((cdig q) 3)) := (blk_cell BKg5.out 4).trans rfl
          have hfg5_4 := blk_frozen BKg5.out 4
          have hcg5_5 : W28.cell? ⟨g5, 5, none⟩ = some (.int .i64 ((cdig q) 4)) := (blk_cell BKg5.out 5).trans rfl
          have hfg5_5 := blk_frozen BKg5.out 5
          have hcg5_6 : W28.cell? ⟨g5, 6, none⟩ = some (.int .i64 ((cdig q) 5)) := (blk_cell BKg5.out 6).trans rfl
          have hfg5_6 := blk_frozen BKg5.out 6
          have hcg5_7 : W28.cell? ⟨g5, 7, none⟩ = some (.int .i64 ((cdig q) 6)) := (blk_cell BKg5.out 7).trans rfl
          have hfg5_7 := blk_frozen BKg5.out 7
          have hcg5_8 : W28.cell? ⟨g5, 8, none⟩ = some (.int .i64 ((cdig q) 7)) := (blk_cell BKg5.out 8).trans rfl
          have hfg5_8 := blk_frozen BKg5.out 8
          have hcg2_0 : W28.cell? ⟨g2, 0, none⟩ = some (.bool ma) := (blk_cell BKg2.out 0).trans rfl
          have hfg2_0 := blk_frozen BKg2.out 0
          have hcg2_1 : W28.cell? ⟨g2, 1, none⟩ = some (.int .i64 ((cdig A) 0)) := (blk_cell BKg2.out 1).trans rfl
          have hfg2_1 := blk_frozen BKg2.out 1
          have hcg2_2 : W28.cell? ⟨g2, 2, none⟩ = some (.int .i64 ((cdig A) 1)) := (blk_cell BKg2.out 2).trans rfl
          have hfg2_2 := blk_frozen BKg2.out 2
          have hcg2_3 : W28.cell? ⟨g2, 3, none⟩ = some (.int .i64 ((cdig A) 2)) := (blk_cell BKg2.out 3).trans rfl
          have hfg2_3 := blk_frozen BKg2.out 3
          have hcg2_4 : W28.cell? ⟨g2, 4, none⟩ = some (.int .i64 ((cdig A) 3)) := (blk_cell BKg2.out 4).trans rfl
          have hfg2_4 := blk_frozen BKg2.out 4
          have hcg2_5 : W28.cell? ⟨g2, 5, none⟩ = some (.int .i64 ((cdig A) 4)) := (blk_cell BKg2.out 5).trans rfl
          have hfg2_5 := blk_frozen BKg2.out 5
          have hcg2_6 : W28.cell? ⟨g2, 6, none⟩ = some (.int .i64 ((cdig A) 5)) := (blk_cell BKg2.out 6).trans rfl
          have hfg2_6 := blk_frozen BKg2.out 6
          have hcg2_7 : W28.cell? ⟨g2, 7, none⟩ = some (.int .i64 ((cdig A) 6)) := (blk_cell BKg2.out 7).trans rfl
          have hfg2_7 := blk_frozen BKg2.out 7
          have hcg2_8 : W28.cell? ⟨g2, 8, none⟩ = some (.int .i64 ((cdig A) 7)) := (blk_cell BKg2.out 8).trans rfl
          have hfg2_8 := blk_frozen BKg2.out 8
          have hcg3_0 : W28.cell? ⟨g3, 0, none⟩ = some (.bool mb) := (blk_cell BKg3.out 0).trans rfl
          have hfg3_0 := blk_frozen BKg3.out 0
          have hcg3_1 : W28.cell? ⟨g3, 1, none⟩ = some (.int .i64 ((cdig B) 0)) := (blk_cell BKg3.out 1).trans rfl
          have hfg3_1 := blk_frozen BKg3.out 1
          have hcg3_2 : W28.cell? ⟨g3, 2, none⟩ = some (.int .i64 ((cdig B) 1)) := (blk_cell BKg3.out 2).trans rfl
          have hfg3_2 := blk_frozen BKg3.out 2
          have hcg3_3 : W28.cell? ⟨g3, 3, none⟩ = some (.int .i64 ((cdig B) 2)) := (blk_cell BKg3.out 3).trans rfl
          have hfg3_3 := blk_frozen BKg3.out 3
          have hcg3_4 : W28.cell? ⟨g3, 4, none⟩ = some (.int .i64 ((cdig B) 3)) := (blk_cell BKg3.out 4).trans rfl
          have hfg3_4 := blk_frozen BKg3.out 4
          have hcg3_5 : W28.cell? ⟨g3, 5, none⟩ = some (.int .i64 ((cdig B) 4)) := (blk_cell BKg3.out 5).trans rfl
          have hfg3_5 := blk_frozen BKg3.out 5
          have hcg3_6 : W28.cell? ⟨g3, 6, none⟩ = some (.int .i64 ((cdig B) 5)) := (blk_cell BKg3.out 6).trans rfl
          have hfg3_6 := blk_frozen BKg3.out 6
          have hcg3_7 : W28.cell? ⟨g3, 7, none⟩ = some (.int .i64 ((cdig B) 6)) := (blk_cell BKg3.out 7).trans rfl
          have hfg3_7 := blk_frozen BKg3.out 7
          have hcg3_8 : W28.cell? ⟨g3, 8, none⟩ = some (.int .i64 ((cdig B) 7)) := (blk_cell BKg3.out 8).trans rfl
          have hfg3_8 := blk_frozen BKg3.out 8
          have hcg4_0 : W28.cell? ⟨g4, 0, none⟩ = some (.bool false) := (blk_cell BKg4.out 0).trans rfl
          have hfg4_0 := blk_frozen BKg4.out 0
          have hcg4_1 : W28.cell? ⟨g4, 1, none⟩ = some (.int .i64 0) := (blk_cell BKg4.out 1).trans rfl
          have hfg4_1 := blk_frozen BKg4.out 1
          have hcg4_2 : W28.cell? ⟨g4, 2, none⟩ = some (.int .i64 0) := (blk_cell BKg4.out 2).trans rfl
          have hfg4_2 := blk_frozen BKg4.out 2
          have hcg4_3 : W28.cell? ⟨g4, 3, none⟩ = some (.int .i64 0) := (blk_cell BKg4.out 3).trans rfl
          have hfg4_3 := blk_frozen BKg4.out 3
          have hcg4_4 : W28.cell? ⟨g4, 4, none⟩ = some (.int .i64 0) := (blk_cell BKg4.out 4).trans rfl
          have hfg4_4 := blk_frozen BKg4.out 4
          have hcg4_5 : W28.cell? ⟨g4, 5, none⟩ = some (.int .i64 0) := (blk_cell BKg4.out 5).trans rfl
          have hfg4_5 := blk_frozen BKg4.out 5
          have hcg4_6 : W28.cell? ⟨g4, 6, none⟩ = some (.int .i64 0) := (blk_cell BKg4.out 6).trans rfl
          have hfg4_6 := blk_frozen BKg4.out 6
          have hcg4_7 : W28.cell? ⟨g4, 7, none⟩ = some (.int .i64 0) := (blk_cell BKg4.out 7).trans rfl
          have hfg4_7 := blk_frozen BKg4.out 7
          have hcg4_8 : W28.cell? ⟨g4, 8, none⟩ = some (.int .i64 0) := (blk_cell BKg4.out 8).trans rfl
          have hfg4_8 := blk_frozen BKg4.out 8
          go_wp2_with fail
          have hqr : Rep (cdig q) q := rep_cdig HR.out.q0 (by have := HR.out.qA ha.nonneg; have := div_pow_le ha.nonneg (k + 1); have := ha.lt; omega)
          have hnx : OvR A B k (2 * q + 0) x := by have := HR.out.stay (by rw [← HB01.out, ← HX.out]; omega); rw [← HB01.out, ← HX.out] at this; exact this
          have hqb : 2 * q + 0 < 340282366920938463463374607431768211456 := by have := hnx.qA ha.nonneg; have := div_pow_le ha.nonneg k; have := ha.lt; omega
          obtain ⟨q2, hq2⟩ : ∃ q2, q2 = 2 * q + 0 := ⟨_, rfl⟩
          rw [← hq2] at hnx
          have HN := Aside0.mk hnx; clear hnx; have HQ2 := Lib.hid hq2; clear hq2
          ((with_reducible refine (double_ex (!(ma == mb)) q 0 q2 _ hqr (by decide) (by decide) hqb HQ2.out).mono ?_); rintro e_ W29 ⟨rfl, hb_⟩)
          have n_ := Aside0.mk (blk_below BKg6.out hb_); clear BKg6; have BKg6 := n_; clear n_
          clear hcg6_0 hfg6_0
          clear hcg6_1 hfg6_1
          clear hcg6_2 hfg6_2
          clear hcg6_3 hfg6_3
          clear hcg6_4 hfg6_4
          clear hcg6_5 hfg6_5
          clear hcg6_6 hfg6_6
          clear hcg6_7 hfg6_7
          clear hcg6_8 hfg6_8
          have n_ := Aside0.mk (blk_below BKg5.out hb_); clear BKg5; have BKg5 := n_; clear n_
          clear hcg5_0 hfg5_0
          clear hcg5_1 hfg5_1
          clear hcg5_2 hfg5_2
          clear hcg5_3 hfg5_3
          clear hcg5_4 hfg5_4
          clear hcg5_5 hfg5_5
          clear hcg5_6 hfg5_6
          clear hcg5_7 hfg5_7
          clear hcg5_8 hfg5_8
          have n_ := Aside0.mk (blk_below BKg2.out hb_); clear BKg2; have BKg2 := n_; clear n_
          clear hcg2_0 hfg2_0
          clear hcg2_1 hfg2_1
          clear hcg2_2 hfg2_2
          clear hcg2_3 hfg2_3
          clear hcg2_4 hfg2_4
          clear hcg2_5 hfg2_5
          clear hcg2_6 hfg2_6
          clear hcg2_7 hfg2_7
          clear hcg2_8 hfg2_8
          have n_ := Aside0.mk (blk_below BKg3.out hb_); clear BKg3; have BKg3 := n_; clear n_
          clear hcg3_0 hfg3_0
          clear hcg3_1 hfg3_1
          clear hcg3_2 hfg3_2
          clear hcg3_3 hfg3_3
          clear hcg3_4 hfg3_4
          clear hcg3_5 hfg3_5
          clear hcg3_6 hfg3_6
          clear hcg3_7 hfg3_7
          clear hcg3_8 hfg3_8
          have n_ := Aside0.mk (blk_below BKg4.out hb_); clear BKg4; have BKg4 := n_; clear n_
          clear hcg4_0 hfg4_0
          clear hcg4_1 hfg4_1
          clear hcg4_2 hfg4_2
          clear hcg4_3 hfg4_3
          clear hcg4_4 hfg4_4
          clear hcg4_5 hfg4_5
          clear hcg4_6 hfg4_6
          clear hcg4_7 hfg4_7
          clear hcg4_8 hfg4_8
          have n_ := Aside0.mk (below_step HB.out hb_); clear HB; have HB := n_; clear n_
          clear hb_
          have hcg6_0 : W29.cell? ⟨g6, 0, none⟩ = some (.bool false) := (blk_cell BKg6.out 0).trans rfl
          have hfg6_0 := blk_frozen BKg6.out 0
          have hcg6_1 : W29.cell? ⟨g6, 1, none⟩ = some (.int .i64 ((cdig x) 0)) := (blk_cell BKg6.out 1).trans rfl
          have hfg6_1 := blk_frozen BKg6.out 1
          have hcg6_2 : W29.cell? ⟨g6, 2, none⟩ = some (.int .i64 ((cdig x) 1)) := (blk_cell BKg6.out 2).trans rfl
          have hfg6_2 := blk_frozen BKg6.out 2
          have hcg6_3 : W29.cell? ⟨g6, 3, none⟩ = some (.int .i64 ((cdig x) 2)) := (blk_cell BKg6.out 3).trans rfl
          have hfg6_3 := blk_frozen BKg6.out 3
          have hcg6_4 : W29.cell? ⟨g6, 4, none⟩ = some (.int .i64 ((cdig x) 3)) := (blk_cell BKg6.out 4).trans rfl
          have hfg6_4 := blk_frozen BKg6.out 4
          have hcg6_5 : W29.cell? ⟨g6, 5, none⟩ = some (.int .i64 ((cdig x) 4)) := (blk_cell BKg6.out 5).trans rfl
          have hfg6_5 := blk_frozen BKg6.out 5
          have hcg6_6 : W29.cell? ⟨g6, 6, none⟩ = some (.int .i64 ((cdig x) 5)) := (blk_cell BKg6.out 6).trans rfl
          have hfg6_6 := blk_frozen BKg6.out 6
          have hcg6_7 : W29.cell? ⟨g6, 7, none⟩ = some (.int .i64 ((cdig x) 6)) := (blk_cell BKg6.out 7).trans rfl
          have hfg6_7 := blk_frozen BKg6.out 7
          have hcg6_8 : W29.cell? ⟨g6, 8, none⟩ = some (.int .i64 ((cdig x) 7)) := (blk_cell BKg6.out 8).trans rfl
          have hfg6_8 := blk_frozen BKg6.out 8
          have hcg5_0 : W29.cell? ⟨g5, 0, none⟩ = some (.bool (!(ma == mb))) := (blk_cell BKg5.out 0).trans rfl
          have hfg5_0 := blk_frozen BKg5.out 0
          have hcg5_1 : W29.cell? ⟨g5, 1, none⟩ = some (.int .i64 ((cdig q) 0)) := (blk_cell BKg5.out 1).trans rfl
          have hfg5_1 := blk_frozen BKg5.out 1
          have hcg5_2 : W29.cell? ⟨g5, 2, none⟩ = some (.int .i64 ((cdig q) 1)) := (blk_cell BKg5.out 2).trans rfl
          have hfg5_2 := blk_frozen BKg5.out 2
          have hcg5_3 : W29.cell? ⟨g5, 3, none⟩ = some (.int .i64 ((cdig q) 2)) := (blk_cell BKg5.out 3).trans rfl
          have hfg5_3 := blk_frozen BKg5.out 3
          have hcg5_4 : W29.cell? ⟨g5, 4, none⟩ = some (.int .i64 ((cdig q) 3)) := (blk_cell BKg5.out 4).trans rfl
          have hfg5_4 := blk_frozen BKg5.out 4
          have hcg5_5 : W29.cell? ⟨g5, 5, none⟩ = some (.int .i64 ((cdig q) 4)) := (blk_cell BKg5.out 5).trans rfl
          have hfg5_5 := blk_frozen BKg5.out 5
          have hcg5_6 : W29.cell? ⟨g5, 6, none⟩ = some (.int .i64 ((cdig q) 5)) := (blk_cell BKg5.out 6).trans rfl
          have hfg5_6 := blk_frozen BKg5.out 6
          have hcg5_7 : W29.cell? ⟨g5, 7, none⟩ = some (.int .i64 ((cdig q) 6)) := (blk_cell BKg5.out 7).trans rfl
          have hfg5_7 := blk_frozen BKg5.out 7
          have hcg5_8 : W29.cell? ⟨g5, 8, none⟩ = some (.int .i64 ((cdig q) 7)) := (blk_cell BKg5.out 8).trans rfl
          have hfg5_8 := blk_frozen BKg5.out 8
          have hcg2_0 : W29.cell? ⟨g2, 0, none⟩ = some (.bool ma) := (blk_cell BKg2.out 0).trans rfl
          have hfg2_0 := blk_frozen BKg2.out 0
          have hcg2_1 : W29.cell? ⟨g2, 1, none⟩ = some (.int .i64 ((cdig A) 0)) := (blk_cell BKg2.out 1).trans rfl
          have hfg2_1 := blk_frozen BKg2.out 1
          have hcg2_2 : W29.cell? ⟨g2, 2, none⟩ = some (.int .i64 ((cdig A) 1)) := (blk_cell BKg2.out 2).trans rfl
          have hfg2_2 := blk_frozen BKg2.out 2
          have hcg2_3 : W29.cell? ⟨g2, 3, none⟩ = some (.int .i64 ((cdig A) 2)) := (blk_cell BKg2.out 3).trans rfl
          have hfg2_3 := blk_frozen BKg2.out 3
          have hcg2_4 : W29.cell? ⟨g2, 4, none⟩ = some (.int .i64 ((cdig A) 3)) := (blk_cell BKg2.out 4).trans rfl
          have hfg2_4 := blk_frozen BKg2.out 4
          have hcg2_5 : W29.cell? ⟨g2, 5, none⟩ = some (.int .i64 ((cdig A) 4)) := (blk_cell BKg2.out 5).trans rfl
          have hfg2_5 := blk_frozen BKg2.out 5
          have hcg2_6 : W29.cell? ⟨g2, 6, none⟩ = some (.int .i64 ((cdig A) 5)) := (blk_cell BKg2.out 6).trans rfl
          have hfg2_6 := blk_frozen BKg2.out 6
          have hcg2_7 : W29.cell? ⟨g2, 7, none⟩ = some (.int .i64 ((cdig A) 6)) := (blk_cell BKg2.out 7).trans rfl
          have hfg2_7 := blk_frozen BKg2.out 7
          have hcg2_8 : W29.cell? ⟨g2, 8, none⟩ = some (.int .i64 ((cdig A) 7)) := (blk_cell BKg2.out 8).trans rfl
          have hfg2_8 := blk_frozen BKg2.out 8
          have hcg3_0 : W29.cell? ⟨g3, 0, none⟩ = some (.bool mb) := (blk_cell BKg3.out 0).trans rfl
          have hfg3_0 := blk_frozen BKg3.out 0
          have hcg3_1 : W29.cell? ⟨g3, 1, none⟩ = some (.int .i64 ((cdig B) 0)) := (blk_cell BKg3.out 1).trans rfl
          have hfg3_1 := blk_frozen BKg3.out 1
          have hcg3_2 : W29.cell? ⟨g3, 2, none⟩ = some (.int .i64 ((cdig B) 1)) := (blk_cell BKg3.out 2).trans rfl
          have hfg3_2 := blk_frozen BKg3.out 2
          have hcg3_3 : W29.cell? ⟨g3, 3, none⟩ = some (.int .i64 ((cdig B) 2)) := (blk_cell BKg3.out 3).trans rfl
          have hfg3_3 := blk_frozen BKg3.out 3
          have hcg3_4 : W29.cell? ⟨g3, 4, none⟩ = some (.int .i64 ((cdig B) 3)) := (blk_cell BKg3.out 4).trans rfl
          have hfg3_4 := blk_frozen BKg3.out 4
          have hcg3_5 : W29.cell? ⟨g3, 5, none⟩ = some (.int .i64 ((cdig B) 4)) := (blk_cell BKg3.out 5).trans rfl
          have hfg3_5 := blk_frozen BKg3.out 5
          have hcg3_6 : W29.cell? ⟨g3, 6, none⟩ = some (.int .i64 ((cdig B) 5)) := (blk_cell BKg3.out 6).trans rfl
          have hfg3_6 := blk_frozen BKg3.out 6
          have hcg3_7 : W29.cell? ⟨g3, 7, none⟩ = some (.int .i64 ((cdig B) 6)) := (blk_cell BKg3.out 7).trans rfl
          have hfg3_7 := blk_frozen BKg3.out 7
          have hcg3_8 : W29.cell? ⟨g3, 8, none⟩ = some (.int .i64 ((cdig B) 7)) := (blk_cell BKg3.out 8).trans rfl
          have hfg3_8 := blk_frozen BKg3.out 8
          have hcg4_0 : W29.cell? ⟨g4, 0, none⟩ = some (.bool false) := (blk_cell BKg4.out 0).trans rfl
          have hfg4_0 := blk_frozen BKg4.out 0
          have hcg4_1 : W29.cell? ⟨g4, 1, none⟩ = some (.int .i64 0) := (blk_cell BKg4.out 1).trans rfl
          have hfg4_1 := blk_frozen BKg4.out 1
          have hcg4_2 : W29.cell? ⟨g4, 2, none⟩ = some (.int .i64 0) := (blk_cell BKg4.out 2).trans rfl
          have hfg4_2 := blk_frozen BKg4.out 2
          have hcg4_3 : W29.cell? ⟨g4, 3, none⟩ = some (.int .i64 0) := (blk_cell BKg4.out 3).trans rfl
          have hfg4_3 := blk_frozen BKg4.out 3
          have hcg4_4 : W29.cell? ⟨g4, 4, none⟩ = some (.int .i64 0) := (blk_cell BKg4.out 4).trans rfl
          have hfg4_4 := blk_frozen BKg4.out 4
          have hcg4_5 : W29.cell? ⟨g4, 5, none⟩ = some (.int .i64 0) := (blk_cell BKg4.out 5).trans rfl
          have hfg4_5 := blk_frozen BKg4.out 5
          have hcg4_6 : W29.cell? ⟨g4, 6, none⟩ = some (.int .i64 0) := (blk_cell BKg4.out 6).trans rfl
          have hfg4_6 := blk_frozen BKg4.out 6
          have hcg4_7 : W29.cell? ⟨g4, 7, none⟩ = some (.int .i64 0) := (blk_cell BKg4.out 7).trans rfl
          have hfg4_7 := blk_frozen BKg4.out 7
          have hcg4_8 : W29.cell? ⟨g4, 8, none⟩ = some (.int .i64 0) := (blk_cell BKg4.out 8).trans rfl
          have hfg4_8 := blk_frozen BKg4.out 8
          go_wp2
          have n_ : Aside0 ((((((((((W29.setCell ⟨g5, 0, none⟩ (.bool (!(ma == mb)))).setCell ⟨g5, 1, none⟩ (.int .i64 ((cdig q2) 0))).setCell ⟨g5, 2, none⟩ (.int .i64 ((cdig q2) 1))).setCell ⟨g5, 3, none⟩ (.int .i64 ((cdig q2) 2))).setCell ⟨g5, 4, none⟩ (.int .i64 ((cdig q2) 3))).setCell ⟨g5, 5, none⟩ (.int .i64 ((cdig q2) 4))).setCell ⟨g5, 6, none⟩ (.int .i64 ((cdig q2) 5))).setCell ⟨g5, 7, none⟩ (.int .i64 ((cdig q2) 6))).setCell ⟨g5, 8, none⟩ (.int .i64 ((cdig q2) 7))).heap[g5]? = some (.cells #[.bool (!(ma == mb)), .int .i64 ((cdig q2) 0), .int .i64 ((cdig q2) 1), .int .i64 ((cdig q2) 2), .int .i64 ((cdig q2) 3), .int .i64 ((cdig q2) 4), .int .i64 ((cdig q2) 5), .int .i64 ((cdig q2) 6), .int .i64 ((cdig q2) 7)] 60 (0, 0))) := ⟨by refine blk_put (cs := #[.bool (!(ma == mb)), .int .i64 ((cdig q2) 0), .int .i64 ((cdig q2) 1), .int .i64 ((cdig q2) 2), .int .i64 ((cdig q2) 3), .int .i64 ((cdig q2) 4), .int .i64 ((cdig q2) 5), .int .i64 ((cdig q2) 6), .int .i64 ((cdig q) 7)]) ?_ 8 _ rfl; refine blk_put (cs := #[.bool (!(ma == mb)), .int .i64 ((cdig q2) 0), .int .i64 ((cdig q2) 1), .int .i64 ((cdig q2) 2), .int .i64 ((cdig q2) 3), .int .i64 ((cdig q2) 4), .int .i64 ((cdig q2) 5), .int .i64 ((cdig q) 6), .int .i64 ((cdig q) 7)]) ?_ 7 _ rfl; refine blk_put (cs := #[.bool (!(ma == mb)), .int .i64 ((cdig q2) 0), .int .i64 ((cdig q2) 1), .int .i64 ((cdig q2) 2), .int .i64 ((cdig q2) 3), .int .i64 ((cdig q2) 4), .int .i64 ((cdig q) 5), .int .i64 ((cdig q) 6), .int .i64 ((cdig q) 7)]) ?_ 6 _ rfl; refine blk_put (cs := #[.bool (!(ma == mb)), .int .i64 ((cdig q2) 0), .int .i64 ((cdig q2) 1), .int .i64 ((cdig q2) 2), .int .i64 ((cdig q2) 3), .int .i64 ((cdig q) 4), .int .i64 ((cdig q) 5), .int .i64 ((cdig q) 6), .int .i64 ((cdig q) 7)]) ?_ 5 _ rfl; refine blk_put (cs := #[.bool (!(ma == mb)), .int .i64 ((cdig q2) 0), .int .i64 ((cdig q2) 1), .int .i64 ((cdig q2) 2), .int .i64 ((cdig q) 3), .int .i64 ((cdig q) 4), .int .i64 ((cdig q) 5), .int .i64 ((cdig q) 6), .int .i64 ((cdig q) 7)]) ?_ 4 _ rfl; refine blk_put (cs := #[.bool (!(ma == mb)), .int .i64 ((cdig q2) 0), .int .i64 ((cdig q2) 1), .int .i64 ((cdig q) 2), .int .i64 ((cdig q) 3), .int .i64 ((cdig q) 4), .int .i64 ((cdig q) 5), .int .i64 ((cdig q) 6), .int .i64 ((cdig q) 7)]) ?_ 3 _ rfl; refine blk_put (cs := #[.bool (!(ma == mb)), .int .i64 ((cdig q2) 0), .int .i64 ((cdig q) 1), .int .i64 ((cdig q) 2), .int .i64 ((cdig q) 3), .int .i64 ((cdig q) 4), .int .i64 ((cdig q) 5), .int .i64 ((cdig q) 6), .int .i64 ((cdig q) 7)]) ?_ 2 _ rfl; refine blk_put (cs := #[.bool (!(ma == mb)), .int .i64 ((cdig q) 0), .int .i64 ((cdig q) 1), .int .i64 ((cdig q) 2), .int .i64 ((cdig q) 3), .int .i64 ((cdig q) 4), .int .i64 ((cdig q) 5), .int .i64 ((cdig q) 6), .int .i64 ((cdig q) 7)]) ?_ 1 _ rfl; refine blk_put (cs := #[.bool (!(ma == mb)), .int .i64 ((cdig q) 0), .int .i64 ((cdig q) 1), .int .i64 ((cdig q) 2), .int .i64 ((cdig q) 3), .int .i64 ((cdig q) 4), .int .i64 ((cdig q) 5), .int .i64 ((cdig q) 6), .int .i64 ((cdig q) 7)]) ?_ 0 _ rfl; exact BKg5.out⟩
          have m_ : Aside0 ((((((((((W29.setCell ⟨g5, 0, none⟩ (.bool (!(ma == mb)))).setCell ⟨g5, 1, none⟩ (.int .i64 ((cdig q2) 0))).setCell ⟨g5, 2, none⟩ (.int .i64 ((cdig q2) 1))).setCell ⟨g5, 3, none⟩ (.int .i64 ((cdig q2) 2))).setCell ⟨g5, 4, none⟩ (.int .i64 ((cdig q2) 3))).setCell ⟨g5, 5, none⟩ (.int .i64 ((cdig q2) 4))).setCell ⟨g5, 6, none⟩ (.int .i64 ((cdig q2) 5))).setCell ⟨g5, 7, none⟩ (.int .i64 ((cdig q2) 6))).setCell ⟨g5, 8, none⟩ (.int .i64 ((cdig q2) 7))).heap[g6]? = some (.cells #[.bool false, .int .i64 ((cdig x) 0), .int .i64 ((cdig x) 1), .int .i64 ((cdig x) 2), .int .i64 ((cdig x) 3), .int .i64 ((cdig x) 4), .int .i64 ((cdig x) 5), .int .i64 ((cdig x) 6), .int .i64 ((cdig x) 7)] 60 (0, 0))) := ⟨(blk_far (blk_far (blk_far (blk_far (blk_far (blk_far (blk_far (blk_far (blk_far BKg6.out NBg6_g5 _) NBg6_g5 _) NBg6_g5 _) NBg6_g5 _) NBg6_g5 _) NBg6_g5 _) NBg6_g5 _) NBg6_g5 _) NBg6_g5 _)⟩
          clear BKg6; have BKg6 := m_; clear m_
          have m_ : Aside0 ((((((((((W29.setCell ⟨g5, 0, none⟩ (.bool (!(ma == mb)))).setCell ⟨g5, 1, none⟩ (.int .i64 ((cdig q2) 0))).setCell ⟨g5, 2, none⟩ (.int .i64 ((cdig q2) 1))).setCell ⟨g5, 3, none⟩ (.int .i64 ((cdig q2) 2))).setCell ⟨g5, 4, none⟩ (.int .i64 ((cdig q2) 3))).setCell ⟨g5, 5, none⟩ (.int .i64 ((cdig q2) 4))).setCell ⟨g5, 6, none⟩ (.int .i64 ((cdig q2) 5))).setCell ⟨g5, 7, none⟩ (.int .i64 ((cdig q2) 6))).setCell ⟨g5, 8, none⟩ (.int .i64 ((cdig q2) 7))).heap[g2]? = some (.cells (bigA ma (cdig A)) 60 (0, 0))) := ⟨(blk_far (blk_far (blk_far (blk_far (blk_far (blk_far (blk_far (blk_far (blk_far BKg2.out NBg2_g5 _) NBg2_g5 _) NBg2_g5 _) NBg2_g5 _) NBg2_g5 _) NBg2_g5 _) NBg2_g5 _) NBg2_g5 _) NBg2_g5 _)⟩
          clear BKg2; have BKg2 := m_; clear m_
          have m_ : Aside0 ((((((((((W29.setCell ⟨g5, 0, none⟩ (.bool (!(ma == mb)))).setCell ⟨g5, 1, none⟩ (.int .i64 ((cdig q2) 0))).setCell ⟨g5, 2, none⟩ (.int .i64 ((cdig q2) 1))).setCell ⟨g5, 3, none⟩ (.int .i64 ((cdig q2) 2))).setCell ⟨g5, 4, none⟩ (.int .i64 ((cdig q2) 3))).setCell ⟨g5, 5, none⟩ (.int .i64 ((cdig q2) 4))).setCell ⟨g5, 6, none⟩ (.int .i64 ((cdig q2) 5))).setCell ⟨g5, 7, none⟩ (.int .i64 ((cdig q2) 6))).setCell ⟨g5, 8, none⟩ (.int .i64 ((cdig q2) 7))).heap[g3]? = some (.cells (bigA mb (cdig B)) 60 (0, 0))) := ⟨(blk_far (blk_far (blk_far (blk_far (blk_far (blk_far (blk_far (blk_far (blk_far BKg3.out NBg3_g5 _) NBg3_g5 _) NBg3_g5 _) NBg3_g5 _) NBg3_g5 _) NBg3_g5 _) NBg3_g5 _) NBg3_g5 _) NBg3_g5 _)⟩
          clear BKg3; have BKg3 := m_; clear m_
          have m_ : Aside0 ((((((((((W29.setCell ⟨g5, 0, none⟩ (.bool (!(ma == mb)))).setCell ⟨g5, 1, none⟩ (.int .i64 ((cdig q2) 0))).setCell ⟨g5, 2, none⟩ (.int .i64 ((cdig q2) 1))).setCell ⟨g5, 3, none⟩ (.int .i64 ((cdig q2) 2))).setCell ⟨g5, 4, none⟩ (.int .i64 ((cdig q2) 3))).setCell ⟨g5, 5, none⟩ (.int .i64 ((cdig q2) 4))).setCell ⟨g5, 6, none⟩ (.int .i64 ((cdig q2) 5))).setCell ⟨g5, 7, none⟩ (.int .i64 ((cdig q2) 6))).setCell ⟨g5, 8, none⟩ (.int .i64 ((cdig q2) 7))).heap[g4]? = some (.cells #[.bool false, .int .i64 0, .int .i64 0, .int .i64 0, .int .i64 0, .int .i64 0, .int .i64 0, .int .i64 0, .int .i64 0] 60 (0, 0))) := ⟨(blk_far (blk_far (blk_far (blk_far (blk_far (blk_far (blk_far (blk_far (blk_far BKg4.out NBg4_g5 _) NBg4_g5 _) NBg4_g5 _) NBg4_g5 _) NBg4_g5 _) NBg4_g5 _) NBg4_g5 _) NBg4_g5 _) NBg4_g5 _)⟩
          clear BKg4; have BKg4 := m_; clear m_
          have b_ : Aside0 (Below w.heap.size w (((((((((W29.setCell ⟨g5, 0, none⟩ (.bool (!(ma == mb)))).setCell ⟨g5, 1, none⟩ (.int .i64 ((cdig q2) 0))).setCell ⟨g5, 2, none⟩ (.int .i64 ((cdig q2) 1))).setCell ⟨g5, 3, none⟩ (.int .i64 ((cdig q2) 2))).setCell ⟨g5, 4, none⟩ (.int .i64 ((cdig q2) 3))).setCell ⟨g5, 5, none⟩ (.int .i64 ((cdig q2) 4))).setCell ⟨g5, 6, none⟩ (.int .i64 ((cdig q2) 5))).setCell ⟨g5, 7, none⟩ (.int .i64 ((cdig q2) 6))).setCell ⟨g5, 8, none⟩ (.int .i64 ((cdig q2) 7)))) := ⟨(below_set (below_set (below_set (below_set (below_set (below_set (below_set (below_set (below_set HB.out GEg5.out) GEg5.out) GEg5.out) GEg5.out) GEg5.out) GEg5.out) GEg5.out) GEg5.out) GEg5.out)⟩
          clear BKg5 HB; have BKg5 := n_; have HB := b_; clear n_ b_
          clear hcg6_0 hfg6_0
          clear hcg6_1 hfg6_1
          clear hcg6_2 hfg6_2
          clear hcg6_3 hfg6_3
          clear hcg6_4 hfg6_4
          clear hcg6_5 hfg6_5
          clear hcg6_6 hfg6_6
          clear hcg6_7 hfg6_7
          clear hcg6_8 hfg6_8
          clear hcg5_0 hfg5_0
          clear hcg5_1 hfg5_1
          clear hcg5_2 hfg5_2
          clear hcg5_3 hfg5_3
          clear hcg5_4 hfg5_4
          clear hcg5_5 hfg5_5
          clear hcg5_6 hfg5_6
          clear hcg5_7 hfg5_7
          clear hcg5_8 hfg5_8
          clear hcg2_0 hfg2_0
          clear hcg2_1 hfg2_1
          clear hcg2_2 hfg2_2
          clear hcg2_3 hfg2_3
          clear hcg2_4 hfg2_4
          clear hcg2_5 hfg2_5
          clear hcg2_6 hfg2_6
          clear hcg2_7 hfg2_7
          clear hcg2_8 hfg2_8
          clear hcg3_0 hfg3_0
          clear hcg3_1 hfg3_1
          clear hcg3_2 hfg3_2
          clear hcg3_3 hfg3_3
          clear hcg3_4 hfg3_4
          clear hcg3_5 hfg3_5
          clear hcg3_6 hfg3_6
          clear hcg3_7 hfg3_7
          clear hcg3_8 hfg3_8
          clear hcg4_0 hfg4_0
          clear hcg4_1 hfg4_1
          clear hcg4_2 hfg4_2
          clear hcg4_3 hfg4_3
          clear hcg4_4 hfg4_4
          clear hcg4_5 hfg4_5
          clear hcg4_6 hfg4_6
          clear hcg4_7 hfg4_7
          clear hcg4_8 hfg4_8
          generalize (((((((((W29.setCell ⟨g5, 0, none⟩ (.bool (!(ma == mb)))).setCell ⟨g5, 1, none⟩ (.int .i64 ((cdig q2) 0))).setCell ⟨g5, 2, none⟩ (.int .i64 ((cdig q2) 1))).setCell ⟨g5, 3, none⟩ (.int .i64 ((cdig q2) 2))).setCell ⟨g5, 4, none⟩ (.int .i64 ((cdig q2) 3))).setCell ⟨g5, 5, none⟩ (.int .i64 ((cdig q2) 4))).setCell ⟨g5, 6, none⟩ (.int .i64 ((cdig q2) 5))).setCell ⟨g5, 7, none⟩ (.int .i64 ((cdig q2) 6))).setCell ⟨g5, 8, none⟩ (.int .i64 ((cdig q2) 7))) = W30 at *
          have hcg6_0 : W30.cell? ⟨g6, 0, none⟩ = some (.bool false) := (blk_cell BKg6.out 0).trans rfl
          have hfg6_0 := blk_frozen BKg6.out 0
          have hcg6_1 : W30.cell? ⟨g6, 1, none⟩ = some (.int .i64 ((cdig x) 0)) := (blk_cell BKg6.out 1).trans rfl
          have hfg6_1 := blk_frozen BKg6.out 1
          have hcg6_2 : W30.cell? ⟨g6, 2, none⟩ = some (.int .i64 ((cdig x) 1)) := (blk_cell BKg6.out 2).trans rfl
          have hfg6_2 := blk_frozen BKg6.out 2
          have hcg6_3 : W30.cell? ⟨g6, 3, none⟩ = some (.int .i64 ((cdig x) 2)) := (blk_cell BKg6.out 3).trans rfl
          have hfg6_3 := blk_frozen BKg6.out 3
          have hcg6_4 : W30.cell? ⟨g6, 4, none⟩ = some (.int .i64 ((cdig x) 3)) := (blk_cell BKg6.out 4).trans rfl
          have hfg6_4 := blk_frozen BKg6.out 4
          have hcg6_5 : W30.cell? ⟨g6, 5, none⟩ = some (.int .i64 ((cdig x) 4)) := (blk_cell BKg6.out 5).trans rfl
          have hfg6_5 := blk_frozen BKg6.out 5
          have hcg6_6 : W30.cell? ⟨g6, 6, none⟩ = some (.int .i64 ((cdig x) 5)) := (blk_cell BKg6.out 6).trans rfl
          have hfg6_6 := blk_frozen BKg6.out 6
          have hcg6_7 : W30.cell? ⟨g6, 7, none⟩ = some (.int .i64 ((cdig x) 6)) := (blk_cell BKg6.out 7).trans rfl
          have hfg6_7 := blk_frozen BKg6.out 7
          have hcg6_8 : W30.cell? ⟨g6, 8, none⟩ = some (.int .i64 ((cdig x) 7)) := (blk_cell BKg6.out 8).trans rfl
          have hfg6_8 := blk_frozen BKg6.out 8
          have hcg5_0 : W30.cell? ⟨g5, 0, none⟩ = some (.bool (!(ma == mb))) := (blk_cell BKg5.out 0).trans rfl
          have hfg5_0 := blk_frozen BKg5.out 0
          have hcg5_1 : W30.cell? ⟨g5, 1, none⟩ = some (.int .i64 ((cdig q2) 0)) := (blk_cell BKg5.out 1).trans rfl
          have hfg5_1 := blk_frozen BKg5.out 1
          have hcg5_2 : W30.cell? ⟨g5, 2, none⟩ = some (.int .i64 ((cdig q2) 1)) := (blk_cell BKg5.out 2).trans rfl
          have hfg5_2 := blk_frozen BKg5.out 2
          have hcg5_3 : W30.cell? ⟨g5, 3, none⟩ = some (.int .i64 ((cdig q2) 2)) := (blk_cell BKg5.out 3).trans rfl
          have hfg5_3 := blk_frozen BKg5.out 3
          have hcg5_4 : W30.cell? ⟨g5, 4, none⟩ = some (.int .i64 ((cdig q2) 3)) := (blk_cell BKg5.out 4).trans rfl
          have hfg5_4 := blk_frozen BKg5.out 4
          have hcg5_5 : W30.cell? ⟨g5, 5, none⟩ = some (.int .i64 ((cdig q2) 4)) := (blk_cell BKg5.out 5).trans rfl
          have hfg5_5 := blk_frozen BKg5.out 5
          have hcg5_6 : W30.cell? ⟨g5, 6, none⟩ = some (.int .i64 ((cdig q2) 5)) := (blk_cell BKg5.out 6).trans rfl
          have hfg5_6 := blk_frozen BKg5.out 6
          have hcg5_7 : W30.cell? ⟨g5, 7, none⟩ = some (.int .i64 ((cdig q2) 6)) := (blk_cell BKg5.out 7).trans rfl
          have hfg5_7 := blk_frozen BKg5.out 7
          have hcg5_8 : W30.cell? ⟨g5, 8, none⟩ = some (.int .i64 ((cdig q2) 7)) := (blk_cell BKg5.out 8).trans rfl
          have hfg5_8 := blk_frozen BKg5.out 8
          have hcg2_0 : W30.cell? ⟨g2, 0, none⟩ = some (.bool ma) := (blk_cell BKg2.out 0).trans rfl
          have hfg2_0 := blk_frozen BKg2.out 0
          have hcg2_1 : W30.cell? ⟨g2, 1, none⟩ = some (.int .i64 ((cdig A) 0)) := (blk_cell BKg2.out 1).trans rfl
          have hfg2_1 := blk_frozen BKg2.out 1
          have hcg2_2 : W30.cell? ⟨g2, 2, none⟩ = some (.int .i64 ((cdig A) 1)) := (blk_cell BKg2.out 2).trans rfl
          have hfg2_2 := blk_frozen BKg2.out 2
          have hcg2_3 : W30.cell? ⟨g2, 3, none⟩ = some (.int .i64 ((cdig A) 2)) := (blk_cell BKg2.out 3).trans rfl
          have hfg2_3 := blk_frozen BKg2.out 3
          have hcg2_4 : W30.cell? ⟨g2, 4, none⟩ = some (.int .i64 ((cdig A) 3)) := (blk_cell BKg2.out 4).trans rfl
          have hfg2_4 := blk_frozen BKg2.out 4
          have hcg2_5 : W30.cell? ⟨g2, 5, none⟩ = some (.int .i64 ((cdig A) 4)) := (blk_cell BKg2.out 5).trans rfl
          have hfg2_5 := blk_frozen BKg2.out 5
          have hcg2_6 : W30.cell? ⟨g2, 6, none⟩ = some (.int .i64 ((cdig A) 5)) := (blk_cell BKg2.out 6).trans rfl
          have hfg2_6 := blk_frozen BKg2.out 6
          have hcg2_7 : W30.cell? ⟨g2, 7, none⟩ = some (.int .i64 ((cdig A) 6)) := (blk_cell BKg2.out 7).trans rfl
          have hfg2_7 := blk_frozen BKg2.out 7
          have hcg2_8 : W30.cell? ⟨g2, 8, none⟩ = some (.int .i64 ((cdig A) 7)) := (blk_cell BKg2.out 8).trans rfl
          have hfg2_8 := blk_frozen BKg2.out 8
          have hcg3_0 : W30.cell? ⟨g3, 0, none⟩ = some (.bool mb) := (blk_cell BKg3.out 0).trans rfl
          have hfg3_0 := blk_frozen BKg3.out 0
          have hcg3_1 : W30.cell? ⟨g3, 1, none⟩ = some (.int .i64 ((cdig B) 0)) := (blk_cell BKg3.out 1).trans rfl
          have hfg3_1 := blk_frozen BKg3.out 1
          have hcg3_2 : W30.cell? ⟨g3, 2, none⟩ = some (.int .i64 ((cdig B) 1)) := (blk_cell BKg3.out 2).trans rfl
          have hfg3_2 := blk_frozen BKg3.out 2
          have hcg3_3 : W30.cell? ⟨g3, 3, none⟩ = some (.int .i64 ((cdig B) 2)) := (blk_cell BKg3.out 3).trans rfl
          have hfg3_3 := blk_frozen BKg3.out 3
          have hcg3_4 : W30.cell? ⟨g3, 4, none⟩ = some (.int .i64 ((cdig B) 3)) := (blk_cell BKg3.out 4).trans rfl
          have hfg3_4 := blk_frozen BKg3.out 4
          have hcg3_5 : W30.cell? ⟨g3, 5, none⟩ = some (.int .i64 ((cdig B) 4)) := (blk_cell BKg3.out 5).trans rfl
          have hfg3_5 := blk_frozen BKg3.out 5
          have hcg3_6 : W30.cell? ⟨g3, 6, none⟩ = some (.int .i64 ((cdig B) 5)) := (blk_cell BKg3.out 6).trans rfl
          have hfg3_6 := blk_frozen BKg3.out 6
          have hcg3_7 : W30.cell? ⟨g3, 7, none⟩ = some (.int .i64 ((cdig B) 6)) := (blk_cell BKg3.out 7).trans rfl
          have hfg3_7 := blk_frozen BKg3.out 7
          have hcg3_8 : W30.cell? ⟨g3, 8, none⟩ = some (.int .i64 ((cdig B) 7)) := (blk_cell BKg3.out 8).trans rfl
          have hfg3_8 := blk_frozen BKg3.out 8
          have hcg4_0 : W30.cell? ⟨g4, 0, none⟩ = some (.bool false) := (blk_cell BKg4.out 0).trans rfl
          have hfg4_0 := blk_frozen BKg4.out 0
          have hcg4_1 : W30.cell? ⟨g4, 1, none⟩ = some (.int .i64 0) := (blk_cell BKg4.out 1).trans rfl
          have hfg4_1 := blk_frozen BKg4.out 1
          have hcg4_2 : W30.cell? ⟨g4, 2, none⟩ = some (.int .i64 0) := (blk_cell BKg4.out 2).trans rfl
          have hfg4_2 := blk_frozen BKg4.out 2
          have hcg4_3 : W30.cell? ⟨g4, 3, none⟩ = some (.int .i64 0) := (blk_cell BKg4.out 3).trans rfl
          have hfg4_3 := blk_frozen BKg4.out 3
          have hcg4_4 : W30.cell? ⟨g4, 4, none⟩ = some (.int .i64 0) := (blk_cell BKg4.out 4).trans rfl
          have hfg4_4 := blk_frozen BKg4.out 4
          have hcg4_5 : W30.cell? ⟨g4, 5, none⟩ = some (.int .i64 0) := (blk_cell BKg4.out 5).trans rfl
          have hfg4_5 := blk_frozen BKg4.out 5
          have hcg4_6 : W30.cell? ⟨g4, 6, none⟩ = some (.int .i64 0) := (blk_cell BKg4.out 6).trans rfl
          have hfg4_6 := blk_frozen BKg4.out 6
          have hcg4_7 : W30.cell? ⟨g4, 7, none⟩ = some (.int .i64 0) := (blk_cell BKg4.out 7).trans rfl
          have hfg4_7 := blk_frozen BKg4.out 7
          have hcg4_8 : W30.cell? ⟨g4, 8, none⟩ = some (.int .i64 0) := (blk_cell BKg4.out 8).trans rfl
          have hfg4_8 := blk_frozen BKg4.out 8
          exact ⟨⟨k, q2, x, rfl, ⟨by omega⟩, HN, BKg6, BKg5, BKg2, BKg3, BKg4, HB⟩, by simp [intOf]⟩
end Go.Proofs.YtcnibfancjofhaaDoor
