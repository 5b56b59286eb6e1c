/- Taken together by a program of mine: what the proof names, out of the texts of this seat (its words as the print wrote them), part 4. -/
import Derived.Test.YteidgpaakoeefaaDoorV3
import Derived.Recover
import Derived.Defers
import Derived.WalkLawsBesides
namespace Go.Proofs.YteidgpaakoeefaaDoor.PIm
open Go.RowKit Go.Proofs.YteidgpaakoeefaaDoorW.PrintWords Go.Proofs.YteidgpaakoeefaaDoorW.PrintLast Go.Proofs.YteidgpaakoeefaaDoorW.PrintMore
attribute [local go_sem] max2_int min2_int max_two min_two max_three min_three max_four min_four   -- for this text's walks alone
set_option linter.unusedVariables false
set_option linter.unusedSimpArgs false
def image_ok.f (l0_0 : List (S48)) (l0_1 : List (S54)) : Option (Bool) := if (l0_0.length : Int) ≤ 64 then (if (l0_1.length : Int) ≤ 64 then ((api_Glob_52.f l0_0 53).bind fun t162 => (if t162 = true then (some false) else ((api_Fn_55.f l0_1 56).bind fun t163 => (some (!t163))))) else (some false)) else (some false)
set_option maxHeartbeats 8000000 in
set_option maxRecDepth 100000 in
theorem image_ok.calls (A0_0 : Option Addr) (c0_0 : Nat) (l0_0 : List (S48)) (A0_1 : Option Addr) (c0_1 : Nat) (l0_1 : List (S54)) (r : Bool) (w : World) (hr0_0 : Kd.C k48 w A0_0 l0_0.length l0_0) (hc0_0 : l0_0.length ≤ c0_0) (hr0_1 : Kd.C k54 w A0_1 l0_1.length l0_1) (hc0_1 : l0_1.length ≤ c0_1) (h : image_ok.f l0_0 l0_1 = some r) :
    Calls Tryd.prog 22 #[.agg #[.slice A0_0 l0_0.length c0_0, .slice A0_1 l0_1.length c0_1]] w fun e w' => e = .returned (.bool r) ∧ Below w.heap.size w w' := by
  have hu25 := Tryd.underlying25
  have HR0_0 := Aside0.mk hr0_0
  have HC0_0 := Aside0.mk hc0_0
  clear hr0_0 hc0_0
  have HR0_1 := Aside0.mk hr0_1
  have HC0_1 := Aside0.mk hc0_1
  clear hr0_1 hc0_1
  have HB := Aside0.mk (Below.refl w.heap.size w)
  have H : (if (l0_0.length : Int) ≤ 64 then (if (l0_1.length : Int) ≤ 64 then ((api_Glob_52.f l0_0 53).bind fun t162 => (if t162 = true then (some false) else ((api_Fn_55.f l0_1 56).bind fun t163 => (some (!t163))))) else (some false)) else (some false)) = some r := h
  clear h
  by_cases c2 : (l0_0.length : Int) ≤ 64
  · rw [if_pos c2] at H
    have c2b0 : decide ((l0_0.length : Int) ≤ 64) = true := decide_eq_true c2
    have c2b1 : decide (l0_0.length ≤ 64) = true := decide_eq_true (by omega)
    clear c2
    by_cases c3 : (l0_1.length : Int) ≤ 64
    · rw [if_pos c3] at H
      have c3b0 : decide ((l0_1.length : Int) ≤ 64) = true := decide_eq_true c3
      have c3b1 : decide (l0_1.length ≤ 64) = true := decide_eq_true (by omega)
      clear c3
      replace H := Option.bind_eq_some_iff.mp H
      obtain ⟨t162, A40, H⟩ := H
      replace H : (if t162 = true then (some false) else ((api_Fn_55.f l0_1 56).bind fun t163 => (some (!t163)))) = some r := H
      have A4 := Aside0.mk A40
      clear A40
      by_cases c5 : t162 = true
      · subst c5
        have H1 : (some false) = some r := by rw [if_pos rfl] at H; exact H
        clear H
        have H := H1
        clear H1
        obtain rfl := Option.some.inj H
        go_enter Tryd.func22, Tryd.ntmps22
        go_wp2_with (first | ((with_reducible refine gate_dst (N := 1) rfl ?_); (try (refine gate_guard (by rfl) ?_; dsimp only)); refine box_event ?hg (N := 1) ?hd (cs := #[.slice A0_0 l0_0.length c0_0, .slice A0_1 l0_1.length c0_1]) (t := 25) ?hr ?_; (case hd => rfl); (case hg => rfl); (case hr => first | (go_simp; done) | (go_simp; rfl)); intro gb161 hg w6 hbox hb; have n0_ := Aside0.mk (below_step (by repeat (first | (with_reducible first | exact HB.out | apply below_alloc | apply pw_below_drewN | apply below_drew1) | exact HB.out)) hb); have n1_ := Aside0.mk (hbox); have n2_ := Aside0.mk ((by rw [hg]; exact (below_size (by repeat (first | (with_reducible first | exact HB.out | apply below_alloc | apply pw_below_drewN | apply below_drew1) | exact HB.out))) : w.heap.size ≤ gb161)); have n3_ := Aside0.mk ((by rw [hg]; exact (below_size (by repeat (first | (with_reducible first | exact HB.out | apply below_alloc | apply pw_below_drewN | apply below_drew1) | exact HB.out))) : w.heap.size ≤ gb161)); clear HB; have HB := n0_; have BK161 := n1_; have GW161 := n2_; have GE161 := n3_; clear n0_ n1_ n2_ n3_; clear hb hbox hg; have hcz7_0 : w6.cell? ⟨gb161, 0, none⟩ = some (.slice A0_0 l0_0.length c0_0) := (blk_cell BK161.out 0).trans rfl; have hcz7_1 : w6.cell? ⟨gb161, 1, none⟩ = some (.slice A0_1 l0_1.length c0_1) := (blk_cell BK161.out 1).trans rfl; have hfz7_0 := blk_frozen BK161.out 0; have hfz7_1 := blk_frozen BK161.out 1) | (go_at_call 52; (with_reducible refine (api_Glob_52.calls _ _ l0_0 53 true _ ?side1 ?side2 A4.out).mono ?_); (case side1 => repeat (first | exact (Kd.C_below HR0_0.out HB.out) | (with_reducible refine Kd.C_alloc ?_ _) | (with_reducible refine Kd.C_drewN ?_ _) | (with_reducible refine Kd.C_drew ?_))); (case side2 => exact HC0_0.out); rintro e w8 ⟨rfl, hb⟩; have n0_ := Aside0.mk (blk_below (g := gb161) (o := .cells #[.slice A0_0 l0_0.length c0_0, .slice A0_1 l0_1.length c0_1] 25 (0, 0)) (by (with_reducible repeat (first | refine blk_drewN ?_ _ | refine blk_drew ?_ | refine blk_alloc ?_ _)); exact BK161.out) hb); have n1_ := Aside0.mk (below_step (by repeat (first | (with_reducible first | exact HB.out | apply below_alloc | apply pw_below_drewN | apply below_drew1 | refine below_set ?_ GE161.out) | exact HB.out)) hb); clear BK161; clear HB; have BK161 := n0_; have HB := n1_; clear n0_ n1_; (try clear hb); (try clear hb2); (try clear hk); (try clear hi)))
        go_ret
        exact ⟨by first | rfl | (simp [errW_none, errW_some] <;> rfl) | (simp [*, errW_none, errW_some] <;> rfl), by repeat (first | (with_reducible first | exact HB.out | apply below_alloc | apply pw_below_drewN | apply below_drew1 | refine below_set ?_ GE161.out) | exact HB.out)⟩
      · replace c5 := Bool.eq_false_iff.mpr c5
        subst c5
        have H1 : ((api_Fn_55.f l0_1 56).bind fun t163 => (some (!t163))) = some r := by rw [if_neg (show ¬ (false = true) by decide)] at H; exact H
        clear H
        have H := H1
        clear H1
        replace H := Option.bind_eq_some_iff.mp H
        obtain ⟨t163, A90, H⟩ := H
        replace H : (some (!t163)) = some r := H
        have A9 := Aside0.mk A90
        clear A90
        obtain rfl := Option.some.inj H
        go_enter Tryd.func22, Tryd.ntmps22
        go_wp2_with (first | ((with_reducible refine gate_dst (N := 1) rfl ?_); (try (refine gate_guard (by rfl) ?_; dsimp only)); refine box_event ?hg (N := 1) ?hd (cs := #[.slice A0_0 l0_0.length c0_0, .slice A0_1 l0_1.length c0_1]) (t := 25) ?hr ?_; (case hd => rfl); (case hg => rfl); (case hr => first | (go_simp; done) | (go_simp; rfl)); intro gb161 hg w10 hbox hb; have n0_ := Aside0.mk (below_step (by repeat (first | (with_reducible first | exact HB.out | apply below_alloc | apply pw_below_drewN | apply below_drew1) | exact HB.out)) hb); have n1_ := Aside0.mk (hbox); have n2_ := Aside0.mk ((by rw [hg]; exact (below_size (by repeat (first | (with_reducible first | exact HB.out | apply below_alloc | apply pw_below_drewN | apply below_drew1) | exact HB.out))) : w.heap.size ≤ gb161)); have n3_ := Aside0.mk ((by rw [hg]; exact (below_size (by repeat (first | (with_reducible first | exact HB.out | apply below_alloc | apply pw_below_drewN | apply below_drew1) | exact HB.out))) : w.heap.size ≤ gb161)); clear HB; have HB := n0_; have BK161 := n1_; have GW161 := n2_; have GE161 := n3_; clear n0_ n1_ n2_ n3_; clear hb hbox hg; have hcz11_0 : w10.cell? ⟨gb161, 0, none⟩ = some (.slice A0_0 l0_0.length c0_0) := (blk_cell BK161.out 0).trans rfl; have hcz11_1 : w10.cell? ⟨gb161, 1, none⟩ = some (.slice A0_1 l0_1.length c0_1) := (blk_cell BK161.out 1).trans rfl; have hfz11_0 := blk_frozen BK161.out 0; have hfz11_1 := blk_frozen BK161.out 1) | (go_at_call 52; (with_reducible refine (api_Glob_52.calls _ _ l0_0 53 false _ ?side1 ?side2 A4.out).mono ?_); (case side1 => repeat (first | exact (Kd.C_below HR0_0.out HB.out) | (with_reducible refine Kd.C_alloc ?_ _) | (with_reducible refine Kd.C_drewN ?_ _) | (with_reducible refine Kd.C_drew ?_))); (case side2 => exact HC0_0.out); rintro e w12 ⟨rfl, hb⟩; have n0_ := Aside0.mk (blk_below (g := gb161) (o := .cells #[.slice A0_0 l0_0.length c0_0, .slice A0_1 l0_1.length c0_1] 25 (0, 0)) (by (with_reducible repeat (first | refine blk_drewN ?_ _ | refine blk_drew ?_ | refine blk_alloc ?_ _)); exact BK161.out) hb); have n1_ := Aside0.mk (below_step (by repeat (first | (with_reducible first | exact HB.out | apply below_alloc | apply pw_below_drewN | apply below_drew1 | refine below_set ?_ GE161.out) | exact HB.out)) hb); clear BK161; clear HB; have BK161 := n0_; have HB := n1_; clear n0_ n1_; (try clear hb); (try clear hb2); (try clear hk); (try clear hi); have hcz13_0 : w12.cell? ⟨gb161, 0, none⟩ = some (.slice A0_0 l0_0.length c0_0) := (blk_cell BK161.out 0).trans rfl; have hcz13_1 : w12.cell? ⟨gb161, 1, none⟩ = some (.slice A0_1 l0_1.length c0_1) := (blk_cell BK161.out 1).trans rfl; have hfz13_0 := blk_frozen BK161.out 0; have hfz13_1 := blk_frozen BK161.out 1) | (go_at_call 55; (with_reducible refine (api_Fn_55.calls _ _ l0_1 56 t163 _ ?side1 ?side2 A9.out).mono ?_); (case side1 => repeat (first | exact (Kd.C_below HR0_1.out HB.out) | (with_reducible refine Kd.C_alloc ?_ _) | (with_reducible refine Kd.C_drewN ?_ _) | (with_reducible refine Kd.C_drew ?_))); (case side2 => exact HC0_1.out); rintro e w14 ⟨rfl, hb⟩; have n0_ := Aside0.mk (blk_below (g := gb161) (o := .cells #[.slice A0_0 l0_0.length c0_0, .slice A0_1 l0_1.length c0_1] 25 (0, 0)) (by (with_reducible repeat (first | refine blk_drewN ?_ _ | refine blk_drew ?_ | refine blk_alloc ?_ _)); exact BK161.out) hb); have n1_ := Aside0.mk (below_step (by repeat (first | (with_reducible first | exact HB.out | apply below_alloc | apply pw_below_drewN | apply below_drew1 | refine below_set ?_ GE161.out) | exact HB.out)) hb); clear BK161; clear HB; have BK161 := n0_; have HB := n1_; clear n0_ n1_; (try clear hb); (try clear hb2); (try clear hk); (try clear hi)))
        go_ret
        exact ⟨by first | rfl | (simp [errW_none, errW_some] <;> rfl) | (simp [*, errW_none, errW_some] <;> rfl), by repeat (first | (with_reducible first | exact HB.out | apply below_alloc | apply pw_below_drewN | apply below_drew1 | refine below_set ?_ GE161.out) | exact HB.out)⟩
    · rw [if_neg c3] at H
      have c3b0 : decide ((l0_1.length : Int) ≤ 64) = false := decide_eq_false c3
      have c3b1 : decide (l0_1.length ≤ 64) = false := decide_eq_false (by omega)
      clear c3
      obtain rfl := Option.some.inj H
      go_enter Tryd.func22, Tryd.ntmps22
      go_wp2_with (first | ((with_reducible refine gate_dst (N := 1) rfl ?_); (try (refine gate_guard (by rfl) ?_; dsimp only)); refine box_event ?hg (N := 1) ?hd (cs := #[.slice A0_0 l0_0.length c0_0, .slice A0_1 l0_1.length c0_1]) (t := 25) ?hr ?_; (case hd => rfl); (case hg => rfl); (case hr => first | (go_simp; done) | (go_simp; rfl)); intro gb161 hg w15 hbox hb; have n0_ := Aside0.mk (below_step (by repeat (first | (with_reducible first | exact HB.out | apply below_alloc | apply pw_below_drewN | apply below_drew1) | exact HB.out)) hb); have n1_ := Aside0.mk (hbox); have n2_ := Aside0.mk ((by rw [hg]; exact (below_size (by repeat (first | (with_reducible first | exact HB.out | apply below_alloc | apply pw_below_drewN | apply below_drew1) | exact HB.out))) : w.heap.size ≤ gb161)); have n3_ := Aside0.mk ((by rw [hg]; exact (below_size (by repeat (first | (with_reducible first | exact HB.out | apply below_alloc | apply pw_below_drewN | apply below_drew1) | exact HB.out))) : w.heap.size ≤ gb161)); clear HB; have HB := n0_; have BK161 := n1_; have GW161 := n2_; have GE161 := n3_; clear n0_ n1_ n2_ n3_; clear hb hbox hg; have hcz16_0 : w15.cell? ⟨gb161, 0, none⟩ = some (.slice A0_0 l0_0.length c0_0) := (blk_cell BK161.out 0).trans rfl; have hcz16_1 : w15.cell? ⟨gb161, 1, none⟩ = some (.slice A0_1 l0_1.length c0_1) := (blk_cell BK161.out 1).trans rfl; have hfz16_0 := blk_frozen BK161.out 0; have hfz16_1 := blk_frozen BK161.out 1))
      go_ret
      exact ⟨by first | rfl | (simp [errW_none, errW_some] <;> rfl) | (simp [*, errW_none, errW_some] <;> rfl), by repeat (first | (with_reducible first | exact HB.out | apply below_alloc | apply pw_below_drewN | apply below_drew1 | refine below_set ?_ GE161.out) | exact HB.out)⟩
  · rw [if_neg c2] at H
    have c2b0 : decide ((l0_0.length : Int) ≤ 64) = false := decide_eq_false c2
    have c2b1 : decide (l0_0.length ≤ 64) = false := decide_eq_false (by omega)
    clear c2
    obtain rfl := Option.some.inj H
    go_enter Tryd.func22, Tryd.ntmps22
    go_wp2_with (first | ((with_reducible refine gate_dst (N := 1) rfl ?_); (try (refine gate_guard (by rfl) ?_; dsimp only)); refine box_event ?hg (N := 1) ?hd (cs := #[.slice A0_0 l0_0.length c0_0, .slice A0_1 l0_1.length c0_1]) (t := 25) ?hr ?_; (case hd => rfl); (case hg => rfl); (case hr => first | (go_simp; done) | (go_simp; rfl)); intro gb161 hg w17 hbox hb; have n0_ := Aside0.mk (below_step (by repeat (first | (with_reducible first | exact HB.out | apply below_alloc | apply pw_below_drewN | apply below_drew1) | exact HB.out)) hb); have n1_ := Aside0.mk (hbox); have n2_ := Aside0.mk ((by rw [hg]; exact (below_size (by repeat (first | (with_reducible first | exact HB.out | apply below_alloc | apply pw_below_drewN | apply below_drew1) | exact HB.out))) : w.heap.size ≤ gb161)); have n3_ := Aside0.mk ((by rw [hg]; exact (below_size (by repeat (first | (with_reducible first | exact HB.out | apply below_alloc | apply pw_below_drewN | apply below_drew1) | exact HB.out))) : w.heap.size ≤ gb161)); clear HB; have HB := n0_; have BK161 := n1_; have GW161 := n2_; have GE161 := n3_; clear n0_ n1_ n2_ n3_; clear hb hbox hg; have hcz18_0 : w17.cell? ⟨gb161, 0, none⟩ = some (.slice A0_0 l0_0.length c0_0) := (blk_cell BK161.out 0).trans rfl; have hcz18_1 : w17.cell? ⟨gb161, 1, none⟩ = some (.slice A0_1 l0_1.length c0_1) := (blk_cell BK161.out 1).trans rfl; have hfz18_0 := blk_frozen BK161.out 0; have hfz18_1 := blk_frozen BK161.out 1))
    go_ret
    exact ⟨by first | rfl | (simp [errW_none, errW_some] <;> rfl) | (simp [*, errW_none, errW_some] <;> rfl), by repeat (first | (with_reducible first | exact HB.out | apply below_alloc | apply pw_below_drewN | apply below_drew1 | refine below_set ?_ GE161.out) | exact HB.out)⟩
def image_Encode.f (l0_0 : List (S48)) (l0_1 : List (S54)) : Option (List Int × Int) := (image_ok.f l0_0 l0_1).bind fun t165 => (if t165 = true then ((api_Glob_23.f (([84, 73, 76, 84] : List Int)) l0_0 24).bind fun t169 => ((api_Fn_27.f t169 l0_1 28).bind fun t172 => ((wire_Frame.f t172).bind fun t175 => (if (t175.length : Int) > 1048576 then (some (([] : List Int), 2)) else (some (t175, 0)))))) else (some (([] : List Int), 150)))
set_option maxHeartbeats 8000000 in
set_option maxRecDepth 100000 in
theorem image_Encode.calls (A0_0 : Option Addr) (c0_0 : Nat) (l0_0 : List (S48)) (A0_1 : Option Addr) (c0_1 : Nat) (l0_1 : List (S54)) (r1 : List Int) (r2 : Int) (w : World) (hr0_0 : Kd.C k48 w A0_0 l0_0.length l0_0) (hc0_0 : l0_0.length ≤ c0_0) (hr0_1 : Kd.C k54 w A0_1 l0_1.length l0_1) (hc0_1 : l0_1.length ≤ c0_1) (h : image_Encode.f l0_0 l0_1 = some (r1, r2)) (hW : Tab w) :
    Calls Tryd.prog 11 #[.agg #[.slice A0_0 l0_0.length c0_0, .slice A0_1 l0_1.length c0_1]] w fun e w' => ∃ v0_ : Value, e = .returned (.tuple #[v0_, .int .i64 r2]) ∧ Kd.R (Kd.int .u8) 5 w' w.heap.size (fun _ => True) v0_ r1 ∧ Below w.heap.size w w' := by
  have hu25 := Tryd.underlying25
  have HR0_0 := Aside0.mk hr0_0
  have HC0_0 := Aside0.mk hc0_0
  clear hr0_0 hc0_0
  have HR0_1 := Aside0.mk hr0_1
  have HC0_1 := Aside0.mk hc0_1
  clear hr0_1 hc0_1
  have HB := Aside0.mk (Below.refl w.heap.size w)
  have HWX := Aside0.mk hW
  clear hW
  have H : ((image_ok.f l0_0 l0_1).bind fun t165 => (if t165 = true then ((api_Glob_23.f (([84, 73, 76, 84] : List Int)) l0_0 24).bind fun t169 => ((api_Fn_27.f t169 l0_1 28).bind fun t172 => ((wire_Frame.f t172).bind fun t175 => (if (t175.length : Int) > 1048576 then (some (([] : List Int), 2)) else (some (t175, 0)))))) else (some (([] : List Int), 150)))) = some (r1, r2) := h
  clear h
  replace H := Option.bind_eq_some_iff.mp H
  obtain ⟨t165, A20, H⟩ := H
  replace H : (if t165 = true then ((api_Glob_23.f (([84, 73, 76, 84] : List Int)) l0_0 24).bind fun t169 => ((api_Fn_27.f t169 l0_1 28).bind fun t172 => ((wire_Frame.f t172).bind fun t175 => (if (t175.length : Int) > 1048576 then (some (([] : List Int), 2)) else (some (t175, 0)))))) else (some (([] : List Int), 150))) = some (r1, r2) := H
  have A2 := Aside0.mk A20
  clear A20
  by_cases c3 : t165 = true
  · subst c3
    have H1 : ((api_Glob_23.f (([84, 73, 76, 84] : List Int)) l0_0 24).bind fun t169 => ((api_Fn_27.f t169 l0_1 28).bind fun t172 => ((wire_Frame.f t172).bind fun t175 => (if (t175.length : Int) > 1048576 then (some (([] : List Int), 2)) else (some (t175, 0)))))) = some (r1, r2) := by rw [if_pos rfl] at H; exact H
    clear H
    have H := H1
    clear H1
    obtain ⟨y166, hy166⟩ : ∃ y_ : List Int, y_ = (([84, 73, 76, 84] : List Int)) := ⟨_, rfl⟩
    replace H : ((api_Glob_23.f y166 l0_0 24).bind fun t169 => ((api_Fn_27.f t169 l0_1 28).bind fun t172 => ((wire_Frame.f t172).bind fun t175 => (if (t175.length : Int) > 1048576 then (some (([] : List Int), 2)) else (some (t175, 0)))))) = some (r1, r2) := by first | (rw [hy166]; with_reducible exact H) | (have H2_ := (Option.bind_some _ _).symm.trans H; rw [hy166]; with_reducible exact H2_) | (have H2_ := (Option.bind_some _ _).symm.trans H; with_reducible exact H2_) | with_reducible exact H | (rw [hy166]; exact H) | exact H
    have Ny166 := Aside0.mk hy166
    clear hy166
    replace H := Option.bind_eq_some_iff.mp H
    obtain ⟨t169, A40, H⟩ := H
    replace H : ((api_Fn_27.f t169 l0_1 28).bind fun t172 => ((wire_Frame.f t172).bind fun t175 => (if (t175.length : Int) > 1048576 then (some (([] : List Int), 2)) else (some (t175, 0))))) = some (r1, r2) := H
    have A4 := Aside0.mk A40
    clear A40
    replace H := Option.bind_eq_some_iff.mp H
    obtain ⟨t172, A50, H⟩ := H
    replace H : ((wire_Frame.f t172).bind fun t175 => (if (t175.length : Int) > 1048576 then (some (([] : List Int), 2)) else (some (t175, 0)))) = some (r1, r2) := H
    have A5 := Aside0.mk A50
    clear A50
    replace H := Option.bind_eq_some_iff.mp H
    obtain ⟨t175, A60, H⟩ := H
    replace H : (if (t175.length : Int) > 1048576 then (some (([] : List Int), 2)) else (some (t175, 0))) = some (r1, r2) := H
    have A6 := Aside0.mk A60
    clear A60
    by_cases c7 : (t175.length : Int) > 1048576
    · rw [if_pos c7] at H
      have c7b0 : decide (1048576 < (t175.length : Int)) = true := decide_eq_true c7
      have c7b1 : decide (1048576 < t175.length) = true := decide_eq_true (by omega)
      clear c7
      simp only [Option.some.injEq, Prod.mk.injEq] at H
      obtain ⟨rfl, rfl⟩ := H
      try have G23 := Aside0.mk (glob23_cond (Ny166.out ▸ A4.out))
      have hcm := fun W => conv_mark W #[.int .u8 84, .int .u8 73, .int .u8 76, .int .u8 84] 4
      go_enter Tryd.func11, Tryd.ntmps11
      go_wp2_with (first | ((with_reducible refine gate_dst (N := 1) rfl ?_); refine box_event ?hg (N := 1) ?hd (cs := #[.slice A0_0 l0_0.length c0_0, .slice A0_1 l0_1.length c0_1]) (t := 25) ?hr ?_; (case hd => rfl); (case hg => rfl); (case hr => first | (go_simp; done) | (go_simp; rfl)); intro gb164 hg w8 hbox hb; have n0_ := Aside0.mk (below_step (by repeat (first | (with_reducible first | exact HB.out | apply below_alloc | apply pw_below_drewN | apply below_drew1) | exact HB.out)) hb); have n1_ := Aside0.mk (hbox); have n2_ := Aside0.mk ((by rw [hg]; exact (below_size (by repeat (first | (with_reducible first | exact HB.out | apply below_alloc | apply pw_below_drewN | apply below_drew1) | exact HB.out))) : w.heap.size ≤ gb164)); have n3_ := Aside0.mk ((by rw [hg]; exact (below_size (by repeat (first | (with_reducible first | exact HB.out | apply below_alloc | apply pw_below_drewN | apply below_drew1) | exact HB.out))) : w.heap.size ≤ gb164)); clear HB; have HB := n0_; have BK164 := n1_; have GW164 := n2_; have GE164 := n3_; clear n0_ n1_ n2_ n3_; clear hb hbox hg; have hcz9_0 : w8.cell? ⟨gb164, 0, none⟩ = some (.slice A0_0 l0_0.length c0_0) := (blk_cell BK164.out 0).trans rfl; have hcz9_1 : w8.cell? ⟨gb164, 1, none⟩ = some (.slice A0_1 l0_1.length c0_1) := (blk_cell BK164.out 1).trans rfl; have hfz9_0 := blk_frozen BK164.out 0; have hfz9_1 := blk_frozen BK164.out 1) | ((with_reducible refine gate_callee (f := 22) rfl ?_); refine goesL_ (some 6) rfl rfl Tryd.func22 (by kernel_rfl) rfl #[.agg #[.slice A0_0 l0_0.length c0_0, .slice A0_1 l0_1.length c0_1]] rfl (by (try simp only [List.map_toArray, List.map_cons, List.map_nil]); first | done | rfl | (simp only [List.length_drop, List.length_take]; rfl)) ?_; (with_reducible refine (image_ok.calls _ _ l0_0 _ _ l0_1 true _ ?side1 ?side2 ?side3 ?side4 A2.out).mono ?_); (case side1 => repeat (first | exact (Kd.C_below HR0_0.out HB.out) | (with_reducible refine Kd.C_alloc ?_ _) | (with_reducible refine Kd.C_drewN ?_ _) | (with_reducible refine Kd.C_drew ?_))); (case side2 => exact HC0_0.out); (case side3 => repeat (first | exact (Kd.C_below HR0_1.out HB.out) | (with_reducible refine Kd.C_alloc ?_ _) | (with_reducible refine Kd.C_drewN ?_ _) | (with_reducible refine Kd.C_drew ?_))); (case side4 => exact HC0_1.out); rintro e w10 ⟨rfl, hb⟩; refine ⟨_, rfl, ?_⟩; have n0_ := Aside0.mk (blk_below (g := gb164) (o := .cells #[.slice A0_0 l0_0.length c0_0, .slice A0_1 l0_1.length c0_1] 25 (0, 0)) (by (with_reducible repeat (first | refine blk_drewN ?_ _ | refine blk_drew ?_ | refine blk_alloc ?_ _)); exact BK164.out) hb); have n1_ := Aside0.mk (below_step (by repeat (first | (with_reducible first | exact HB.out | apply below_alloc | apply pw_below_drewN | apply below_drew1 | refine below_set ?_ GE164.out) | exact HB.out)) hb); clear BK164; clear HB; have BK164 := n0_; have HB := n1_; clear n0_ n1_; (try clear hb); (try clear hb2); (try clear hk); (try clear hi); have hczA : (w10.alloc (.cells #[.int .u8 84, .int .u8 73, .int .u8 76, .int .u8 84] 5 (4, 5))).cell? ⟨gb164, 0, none⟩ = some (.slice A0_0 l0_0.length c0_0) := (blk_cell (blk_alloc BK164.out (.cells #[.int .u8 84, .int .u8 73, .int .u8 76, .int .u8 84] 5 (4, 5))) 0).trans rfl) | ((with_reducible refine gate_callee (f := 23) rfl ?_); refine goesL_ (some 12) rfl rfl Tryd.func23 (by kernel_rfl) rfl #[.slice (some ⟨w10.heap.size, 0, none⟩) 4 4, .slice A0_0 l0_0.length c0_0, .func (.func 24) #[] #[]] rfl (by (try simp only [List.map_toArray, List.map_cons, List.map_nil]); first | done | rfl | (simp only [List.length_drop, List.length_take]; rfl)) ?_; (refine (row_glo_full w10.heap.size [84, 73, 76, 84] A0_0 c0_0 l0_0 w _ (by repeat (first | (with_reducible first | exact HB.out | apply below_alloc | apply pw_below_drewN | apply below_drew1) | exact HB.out)) (C_preM w10 [84, 73, 76, 84] [] 5 (4, 5) (by simp) _ rfl) (by decide) G23.out.2.1 G23.out.2.2.1 HR0_0.out G23.out.2.2.2.1 G23.out.2.2.2.2.1 G23.out.2.2.2.2.2).mono ?_); rintro e w15 ⟨v170, rfl, ho0, hb, hkp⟩; rw [G23.out.1] at ho0; refine ⟨_, rfl, ?_⟩; have n0_ := Aside0.mk (blk_kept (blk_alloc BK164.out _) hkp (fun hs_ => hs_.elim)); have n1_ := Aside0.mk (Kd.R_mono (ok' := fun k_ => True) ho0 (fun k_ hk_ => trivial)); have n2_ := Aside0.mk (hb); clear BK164; clear HB; have BK164 := n0_; have HO171 := n1_; have HB := n2_; clear n0_ n1_ n2_; (try clear hb); (try clear hkp); (try clear ho0); have hcz16_0 : w15.cell? ⟨gb164, 0, none⟩ = some (.slice A0_0 l0_0.length c0_0) := (blk_cell BK164.out 0).trans rfl; have hcz16_1 : w15.cell? ⟨gb164, 1, none⟩ = some (.slice A0_1 l0_1.length c0_1) := (blk_cell BK164.out 1).trans rfl; have hfz16_0 := blk_frozen BK164.out 0; have hfz16_1 := blk_frozen BK164.out 1; obtain ⟨Ao17, co17, eo17⟩ := Kd.R_slice HO171.out; subst eo17) | ((with_reducible refine gate_callee (f := 27) rfl ?_); refine goesL_ (some 16) rfl rfl Tryd.func27 (by kernel_rfl) rfl #[.slice Ao17 t169.length co17, .slice A0_1 l0_1.length c0_1, .func (.func 28) #[] #[]] rfl (by (try simp only [List.map_toArray, List.map_cons, List.map_nil]); first | done | rfl | (simp only [List.length_drop, List.length_take]; rfl)) ?_; (with_reducible refine (api_Fn_27.calls (fun k_ => some k_ = (.slice Ao17 t169.length co17 : Value).ownBlock) (.slice Ao17 t169.length co17) t169 _ _ l0_1 28 t172 w _ ?side1 ?side2 ?side3 ?side4 A5.out).mono ?_); (case side1 => repeat (first | (with_reducible first | exact HB.out | apply below_alloc | apply pw_below_drewN | apply below_drew1 | refine below_set ?_ GE164.out) | exact HB.out)); (case side2 => exact Kd.R_tight rfl HO171.out); (case side3 => exact Came3.mk HR0_1.out (by repeat (first | (with_reducible first | exact HB.out | apply below_alloc | apply pw_below_drewN | apply below_drew1 | refine below_set ?_ GE164.out) | exact HB.out)) (fun k_ hs_ => (fun e_ => Kd.R_base HO171.out k_ e_.symm) hs_)); (case side4 => exact HC0_1.out); rintro e w18 ⟨v173, rfl, ho0, hb, hkp⟩; refine ⟨_, rfl, ?_⟩; have n0_ := Aside0.mk (blk_kept (by (with_reducible repeat (first | refine blk_drewN ?_ _ | refine blk_drew ?_ | refine blk_alloc ?_ _)); exact BK164.out) hkp (fun hs_ => (fun e_ => (Kd.R_ne HO171.out BK164.out (by decide)) e_) hs_)); have n1_ := Aside0.mk (Kd.R_mono (ok' := fun k_ => True) ho0 (fun k_ hk_ => trivial)); have n2_ := Aside0.mk (hb); clear BK164; clear HB; clear HO171; have BK164 := n0_; have HO174 := n1_; have HB := n2_; clear n0_ n1_ n2_; (try clear hb); (try clear hkp); (try clear ho0); obtain ⟨Ao19, co19, eo19⟩ := Kd.R_slice HO174.out; subst eo19) | ((with_reducible refine gate_callee (f := 15) rfl ?_); refine goesL_ (some 18) rfl rfl Tryd.func15 (by kernel_rfl) rfl #[.slice Ao19 t172.length co19] rfl (by (try simp only [List.map_toArray, List.map_cons, List.map_nil]); first | done | rfl | (simp only [List.length_drop, List.length_take]; rfl)) ?_; (with_reducible refine (wire_Frame.calls _ _ t172 t175 _ ?side1 ?side2 A6.out (HWX.out.below (by repeat (first | (with_reducible first | exact HB.out | apply below_alloc | apply pw_below_drewN | apply below_drew1 | refine below_set ?_ GE164.out) | exact HB.out)))).mono ?_); (case side1 => repeat (first | exact (Kd.R_reads' HO174.out).2.2 | (with_reducible refine Kd.C_alloc ?_ _) | (with_reducible refine Kd.C_drewN ?_ _) | (with_reducible refine Kd.C_drew ?_))); (case side2 => exact (Kd.R_reads' HO174.out).2.1); rintro e w20 ⟨v176, rfl, ho0, hb⟩; refine ⟨_, rfl, ?_⟩; have n0_ := Aside0.mk (Kd.R_elder' (by (with_reducible repeat (first | apply Kd.R_alloc | apply Kd.R_drewN | apply Kd.R_drew)); exact HO174.out) (Kd.R_base ho0) hb); have n1_ := Aside0.mk (Kd.R_lower (Kd.R_new' ho0 (Kd.R_lt (by (with_reducible repeat (first | apply Kd.R_alloc | apply Kd.R_drewN | apply Kd.R_drew)); exact HO174.out))) (below_size (by repeat (first | (with_reducible first | exact HB.out | apply below_alloc | apply pw_below_drewN | apply below_drew1 | refine below_set ?_ GE164.out) | exact HB.out)))); have n2_ := Aside0.mk (blk_below (g := gb164) (o := .cells #[.slice A0_0 l0_0.length c0_0, .slice A0_1 l0_1.length c0_1] 25 (0, 0)) (by (with_reducible repeat (first | refine blk_drewN ?_ _ | refine blk_drew ?_ | refine blk_alloc ?_ _)); exact BK164.out) hb); have n3_ := Aside0.mk (below_step (by repeat (first | (with_reducible first | exact HB.out | apply below_alloc | apply pw_below_drewN | apply below_drew1 | refine below_set ?_ GE164.out) | exact HB.out)) hb); clear HO174; clear BK164; clear HB; have HO174 := n0_; have HO177 := n1_; have BK164 := n2_; have HB := n3_; clear n0_ n1_ n2_ n3_; (try clear hb); (try clear hb2); (try clear hk); (try clear hi); (try clear ho0); obtain ⟨Ao21, co21, eo21⟩ := Kd.R_slice HO177.out; subst eo21))
      go_ret2
      exact ⟨_, by first | rfl | (simp [errW_none, errW_some] <;> rfl) | (simp [*, errW_none, errW_some] <;> rfl), by first | exact Kd.R_nil _ _ _ _ _ | exact Kd.N_nil _ _ _ _ _ | exact Kd.V_nil _ _ _ _ _ | exact Kd.Q_nil _ _ _ _ _ | exact Kd.S_nil _ _ _ _ _, by repeat (first | (with_reducible first | exact HB.out | apply below_alloc | apply pw_below_drewN | apply below_drew1 | refine below_set ?_ GE164.out) | exact HB.out)⟩
    · rw [if_neg c7] at H
      have c7b0 : decide (1048576 < (t175.length : Int)) = false := decide_eq_false c7
      have c7b1 : decide (1048576 < t175.length) = false := decide_eq_false (by omega)
      clear c7
      simp only [Option.some.injEq, Prod.mk.injEq] at H
      obtain ⟨rfl, rfl⟩ := H
      try have G23 := Aside0.mk (glob23_cond (Ny166.out ▸ A4.out))
      have hcm := fun W => conv_mark W #[.int .u8 84, .int .u8 73, .int .u8 76, .int .u8 84] 4
      go_enter Tryd.func11, Tryd.ntmps11
      go_wp2_with (first | ((with_reducible refine gate_dst (N := 1) rfl ?_); refine box_event ?hg (N := 1) ?hd (cs := #[.slice A0_0 l0_0.length c0_0, .slice A0_1 l0_1.length c0_1]) (t := 25) ?hr ?_; (case hd => rfl); (case hg => rfl); (case hr => first | (go_simp; done) | (go_simp; rfl)); intro gb164 hg w22 hbox hb; have n0_ := Aside0.mk (below_step (by repeat (first | (with_reducible first | exact HB.out | apply below_alloc | apply pw_below_drewN | apply below_drew1) | exact HB.out)) hb); have n1_ := Aside0.mk (hbox); have n2_ := Aside0.mk ((by rw [hg]; exact (below_size (by repeat (first | (with_reducible first | exact HB.out | apply below_alloc | apply pw_below_drewN | apply below_drew1) | exact HB.out))) : w.heap.size ≤ gb164)); have n3_ := Aside0.mk ((by rw [hg]; exact (below_size (by repeat (first | (with_reducible first | exact HB.out | apply below_alloc | apply pw_below_drewN | apply below_drew1) | exact HB.out))) : w.heap.size ≤ gb164)); clear HB; have HB := n0_; have BK164 := n1_; have GW164 := n2_; have GE164 := n3_; clear n0_ n1_ n2_ n3_; clear hb hbox hg; have hcz23_0 : w22.cell? ⟨gb164, 0, none⟩ = some (.slice A0_0 l0_0.length c0_0) := (blk_cell BK164.out 0).trans rfl; have hcz23_1 : w22.cell? ⟨gb164, 1, none⟩ = some (.slice A0_1 l0_1.length c0_1) := (blk_cell BK164.out 1).trans rfl; have hfz23_0 := blk_frozen BK164.out 0; have hfz23_1 := blk_frozen BK164.out 1) | ((with_reducible refine gate_callee (f := 22) rfl ?_); refine goesL_ (some 6) rfl rfl Tryd.func22 (by kernel_rfl) rfl #[.agg #[.slice A0_0 l0_0.length c0_0, .slice A0_1 l0_1.length c0_1]] rfl (by (try simp only [List.map_toArray, List.map_cons, List.map_nil]); first | done | rfl | (simp only [List.length_drop, List.length_take]; rfl)) ?_; (with_reducible refine (image_ok.calls _ _ l0_0 _ _ l0_1 true _ ?side1 ?side2 ?side3 ?side4 A2.out).mono ?_); (case side1 => repeat (first | exact (Kd.C_below HR0_0.out HB.out) | (with_reducible refine Kd.C_alloc ?_ _) | (with_reducible refine Kd.C_drewN ?_ _) | (with_reducible refine Kd.C_drew ?_))); (case side2 => exact HC0_0.out); (case side3 => repeat (first | exact (Kd.C_below HR0_1.out HB.out) | (with_reducible refine Kd.C_alloc ?_ _) | (with_reducible refine Kd.C_drewN ?_ _) | (with_reducible refine Kd.C_drew ?_))); (case side4 => exact HC0_1.out); rintro e w24 ⟨rfl, hb⟩; refine ⟨_, rfl, ?_⟩; have n0_ := Aside0.mk (blk_below (g := gb164) (o := .cells #[.slice A0_0 l0_0.length c0_0, .slice A0_1 l0_1.length c0_1] 25 (0, 0)) (by (with_reducible repeat (first | refine blk_drewN ?_ _ | refine blk_drew ?_ | refine blk_alloc ?_ _)); exact BK164.out) hb); have n1_ := Aside0.mk (below_step (by repeat (first | (with_reducible first | exact HB.out | apply below_alloc | apply pw_below_drewN | apply below_drew1 | refine below_set ?_ GE164.out) | exact HB.out)) hb); clear BK164; clear HB; have BK164 := n0_; have HB := n1_; clear n0_ n1_; (try clear hb); (try clear hb2); (try clear hk); (try clear hi); have hczA : (w24.alloc (.cells #[.int .u8 84, .int .u8 73, .int .u8 76, .int .u8 84] 5 (4, 5))).cell? ⟨gb164, 0, none⟩ = some (.slice A0_0 l0_0.length c0_0) := (blk_cell (blk_alloc BK164.out (.cells #[.int .u8 84, .int .u8 73, .int .u8 76, .int .u8 84] 5 (4, 5))) 0).trans rfl) | ((with_reducible refine gate_callee (f := 23) rfl ?_); refine goesL_ (some 12) rfl rfl Tryd.func23 (by kernel_rfl) rfl #[.slice (some ⟨w24.heap.size, 0, none⟩) 4 4, .slice A0_0 l0_0.length c0_0, .func (.func 24) #[] #[]] rfl (by (try simp only [List.map_toArray, List.map_cons, List.map_nil]); first | done | rfl | (simp only [List.length_drop, List.length_take]; rfl)) ?_; (refine (row_glo_full w24.heap.size [84, 73, 76, 84] A0_0 c0_0 l0_0 w _ (by repeat (first | (with_reducible first | exact HB.out | apply below_alloc | apply pw_below_drewN | apply below_drew1) | exact HB.out)) (C_preM w24 [84, 73, 76, 84] [] 5 (4, 5) (by simp) _ rfl) (by decide) G23.out.2.1 G23.out.2.2.1 HR0_0.out G23.out.2.2.2.1 G23.out.2.2.2.2.1 G23.out.2.2.2.2.2).mono ?_); rintro e w29 ⟨v170, rfl, ho0, hb, hkp⟩; rw [G23.out.1] at ho0; refine ⟨_, rfl, ?_⟩; have n0_ := Aside0.mk (blk_kept (blk_alloc BK164.out _) hkp (fun hs_ => hs_.elim)); have n1_ := Aside0.mk (Kd.R_mono (ok' := fun k_ => True) ho0 (fun k_ hk_ => trivial)); have n2_ := Aside0.mk (hb); clear BK164; clear HB; have BK164 := n0_; have HO171 := n1_; have HB := n2_; clear n0_ n1_ n2_; (try clear hb); (try clear hkp); (try clear ho0); have hcz30_0 : w29.cell? ⟨gb164, 0, none⟩ = some (.slice A0_0 l0_0.length c0_0) := (blk_cell BK164.out 0).trans rfl; have hcz30_1 : w29.cell? ⟨gb164, 1, none⟩ = some (.slice A0_1 l0_1.length c0_1) := (blk_cell BK164.out 1).trans rfl; have hfz30_0 := blk_frozen BK164.out 0; have hfz30_1 := blk_frozen BK164.out 1; obtain ⟨Ao31, co31, eo31⟩ := Kd.R_slice HO171.out; subst eo31) | ((with_reducible refine gate_callee (f := 27) rfl ?_); refine goesL_ (some 16) rfl rfl Tryd.func27 (by kernel_rfl) rfl #[.slice Ao31 t169.length co31, .slice A0_1 l0_1.length c0_1, .func (.func 28) #[] #[]] rfl (by (try simp only [List.map_toArray, List.map_cons, List.map_nil]); first | done | rfl | (simp only [List.length_drop, List.length_take]; rfl)) ?_; (with_reducible refine (api_Fn_27.calls (fun k_ => some k_ = (.slice Ao31 t169.length co31 : Value).ownBlock) (.slice Ao31 t169.length co31) t169 _ _ l0_1 28 t172 w _ ?side1 ?side2 ?side3 ?side4 A5.out).mono ?_); (case side1 => repeat (first | (with_reducible first | exact HB.out | apply below_alloc | apply pw_below_drewN | apply below_drew1 | refine below_set ?_ GE164.out) | exact HB.out)); (case side2 => exact Kd.R_tight rfl HO171.out); (case side3 => exact Came3.mk HR0_1.out (by repeat (first | (with_reducible first | exact HB.out | apply below_alloc | apply pw_below_drewN | apply below_drew1 | refine below_set ?_ GE164.out) | exact HB.out)) (fun k_ hs_ => (fun e_ => Kd.R_base HO171.out k_ e_.symm) hs_)); (case side4 => exact HC0_1.out); rintro e w32 ⟨v173, rfl, ho0, hb, hkp⟩; refine ⟨_, rfl, ?_⟩; have n0_ := Aside0.mk (blk_kept (by (with_reducible repeat (first | refine blk_drewN ?_ _ | refine blk_drew ?_ | refine blk_alloc ?_ _)); exact BK164.out) hkp (fun hs_ => (fun e_ => (Kd.R_ne HO171.out BK164.out (by decide)) e_) hs_)); have n1_ := Aside0.mk (Kd.R_mono (ok' := fun k_ => True) ho0 (fun k_ hk_ => trivial)); have n2_ := Aside0.mk (hb); clear BK164; clear HB; clear HO171; have BK164 := n0_; have HO174 := n1_; have HB := n2_; clear n0_ n1_ n2_; (try clear hb); (try clear hkp); (try clear ho0); obtain ⟨Ao33, co33, eo33⟩ := Kd.R_slice HO174.out; subst eo33) | ((with_reducible refine gate_callee (f := 15) rfl ?_); refine goesL_ (some 18) rfl rfl Tryd.func15 (by kernel_rfl) rfl #[.slice Ao33 t172.length co33] rfl (by (try simp only [List.map_toArray, List.map_cons, List.map_nil]); first | done | rfl | (simp only [List.length_drop, List.length_take]; rfl)) ?_; (with_reducible refine (wire_Frame.calls _ _ t172 t175 _ ?side1 ?side2 A6.out (HWX.out.below (by repeat (first | (with_reducible first | exact HB.out | apply below_alloc | apply pw_below_drewN | apply below_drew1 | refine below_set ?_ GE164.out) | exact HB.out)))).mono ?_); (case side1 => repeat (first | exact (Kd.R_reads' HO174.out).2.2 | (with_reducible refine Kd.C_alloc ?_ _) | (with_reducible refine Kd.C_drewN ?_ _) | (with_reducible refine Kd.C_drew ?_))); (case side2 => exact (Kd.R_reads' HO174.out).2.1); rintro e w34 ⟨v176, rfl, ho0, hb⟩; refine ⟨_, rfl, ?_⟩; have n0_ := Aside0.mk (Kd.R_elder' (by (with_reducible repeat (first | apply Kd.R_alloc | apply Kd.R_drewN | apply Kd.R_drew)); exact HO174.out) (Kd.R_base ho0) hb); have n1_ := Aside0.mk (Kd.R_lower (Kd.R_new' ho0 (Kd.R_lt (by (with_reducible repeat (first | apply Kd.R_alloc | apply Kd.R_drewN | apply Kd.R_drew)); exact HO174.out))) (below_size (by repeat (first | (with_reducible first | exact HB.out | apply below_alloc | apply pw_below_drewN | apply below_drew1 | refine below_set ?_ GE164.out) | exact HB.out)))); have n2_ := Aside0.mk (blk_below (g := gb164) (o := .cells #[.slice A0_0 l0_0.length c0_0, .slice A0_1 l0_1.length c0_1] 25 (0, 0)) (by (with_reducible repeat (first | refine blk_drewN ?_ _ | refine blk_drew ?_ | refine blk_alloc ?_ _)); exact BK164.out) hb); have n3_ := Aside0.mk (below_step (by repeat (first | (with_reducible first | exact HB.out | apply below_alloc | apply pw_below_drewN | apply below_drew1 | refine below_set ?_ GE164.out) | exact HB.out)) hb); clear HO174; clear BK164; clear HB; have HO174 := n0_; have HO177 := n1_; have BK164 := n2_; have HB := n3_; clear n0_ n1_ n2_ n3_; (try clear hb); (try clear hb2); (try clear hk); (try clear hi); (try clear ho0); obtain ⟨Ao35, co35, eo35⟩ := Kd.R_slice HO177.out; subst eo35))
      go_ret2
      exact ⟨_, by first | rfl | (simp [errW_none, errW_some] <;> rfl) | (simp [*, errW_none, errW_some] <;> rfl), by (with_reducible repeat (first | apply Kd.R_alloc | apply Kd.R_drewN | apply Kd.R_drew)); exact Kd.R_mono HO177.out (fun _ hk => trivial), by repeat (first | (with_reducible first | exact HB.out | apply below_alloc | apply pw_below_drewN | apply below_drew1 | refine below_set ?_ GE164.out) | exact HB.out)⟩
  · replace c3 := Bool.eq_false_iff.mpr c3
    subst c3
    have H1 : (some (([] : List Int), 150)) = some (r1, r2) := by rw [if_neg (show ¬ (false = true) by decide)] at H; exact H
    clear H
    have H := H1
    clear H1
    simp only [Option.some.injEq, Prod.mk.injEq] at H
    obtain ⟨rfl, rfl⟩ := H
    try have G23 := Aside0.mk (glob23_cond (Ny166.out ▸ A4.out))
    have hcm := fun W => conv_mark W #[.int .u8 84, .int .u8 73, .int .u8 76, .int .u8 84] 4
    go_enter Tryd.func11, Tryd.ntmps11
    go_wp2_with (first | ((with_reducible refine gate_dst (N := 1) rfl ?_); refine box_event ?hg (N := 1) ?hd (cs := #[.slice A0_0 l0_0.length c0_0, .slice A0_1 l0_1.length c0_1]) (t := 25) ?hr ?_; (case hd => rfl); (case hg => rfl); (case hr => first | (go_simp; done) | (go_simp; rfl)); intro gb164 hg w36 hbox hb; have n0_ := Aside0.mk (below_step (by repeat (first | (with_reducible first | exact HB.out | apply below_alloc | apply pw_below_drewN | apply below_drew1) | exact HB.out)) hb); have n1_ := Aside0.mk (hbox); have n2_ := Aside0.mk ((by rw [hg]; exact (below_size (by repeat (first | (with_reducible first | exact HB.out | apply below_alloc | apply pw_below_drewN | apply below_drew1) | exact HB.out))) : w.heap.size ≤ gb164)); have n3_ := Aside0.mk ((by rw [hg]; exact (below_size (by repeat (first | (with_reducible first | exact HB.out | apply below_alloc | apply pw_below_drewN | apply below_drew1) | exact HB.out))) : w.heap.size ≤ gb164)); clear HB; have HB := n0_; have BK164 := n1_; have GW164 := n2_; have GE164 := n3_; clear n0_ n1_ n2_ n3_; clear hb hbox hg; have hcz37_0 : w36.cell? ⟨gb164, 0, none⟩ = some (.slice A0_0 l0_0.length c0_0) := (blk_cell BK164.out 0).trans rfl; have hcz37_1 : w36.cell? ⟨gb164, 1, none⟩ = some (.slice A0_1 l0_1.length c0_1) := (blk_cell BK164.out 1).trans rfl; have hfz37_0 := blk_frozen BK164.out 0; have hfz37_1 := blk_frozen BK164.out 1) | ((with_reducible refine gate_callee (f := 22) rfl ?_); refine goesL_ (some 6) rfl rfl Tryd.func22 (by kernel_rfl) rfl #[.agg #[.slice A0_0 l0_0.length c0_0, .slice A0_1 l0_1.length c0_1]] rfl (by (try simp only [List.map_toArray, List.map_cons, List.map_nil]); first | done | rfl | (simp only [List.length_drop, List.length_take]; rfl)) ?_; (with_reducible refine (image_ok.calls _ _ l0_0 _ _ l0_1 false _ ?side1 ?side2 ?side3 ?side4 A2.out).mono ?_); (case side1 => repeat (first | exact (Kd.C_below HR0_0.out HB.out) | (with_reducible refine Kd.C_alloc ?_ _) | (with_reducible refine Kd.C_drewN ?_ _) | (with_reducible refine Kd.C_drew ?_))); (case side2 => exact HC0_0.out); (case side3 => repeat (first | exact (Kd.C_below HR0_1.out HB.out) | (with_reducible refine Kd.C_alloc ?_ _) | (with_reducible refine Kd.C_drewN ?_ _) | (with_reducible refine Kd.C_drew ?_))); (case side4 => exact HC0_1.out); rintro e w38 ⟨rfl, hb⟩; refine ⟨_, rfl, ?_⟩; have n0_ := Aside0.mk (blk_below (g := gb164) (o := .cells #[.slice A0_0 l0_0.length c0_0, .slice A0_1 l0_1.length c0_1] 25 (0, 0)) (by (with_reducible repeat (first | refine blk_drewN ?_ _ | refine blk_drew ?_ | refine blk_alloc ?_ _)); exact BK164.out) hb); have n1_ := Aside0.mk (below_step (by repeat (first | (with_reducible first | exact HB.out | apply below_alloc | apply pw_below_drewN | apply below_drew1 | refine below_set ?_ GE164.out) | exact HB.out)) hb); clear BK164; clear HB; have BK164 := n0_; have HB := n1_; clear n0_ n1_; (try clear hb); (try clear hb2); (try clear hk); (try clear hi)))
    go_ret2
    exact ⟨_, by first | rfl | (simp [errW_none, errW_some] <;> rfl) | (simp [*, errW_none, errW_some] <;> rfl), by first | exact Kd.R_nil _ _ _ _ _ | exact Kd.N_nil _ _ _ _ _ | exact Kd.V_nil _ _ _ _ _ | exact Kd.Q_nil _ _ _ _ _ | exact Kd.S_nil _ _ _ _ _, by repeat (first | (with_reducible first | exact HB.out | apply below_alloc | apply pw_below_drewN | apply below_drew1 | refine below_set ?_ GE164.out) | exact HB.out)⟩
def image_Right.f (l0_0 : List (S48)) (l0_1 : List (S54)) : Option (Int) := (image_Encode.f l0_0 l0_1).bind fun bt179 => (some bt179.2)
set_option maxHeartbeats 8000000 in
set_option maxRecDepth 100000 in
theorem image_Right.calls (A0_0 : Option Addr) (c0_0 : Nat) (l0_0 : List (S48)) (A0_1 : Option Addr) (c0_1 : Nat) (l0_1 : List (S54)) (r : Int) (w : World) (hr0_0 : Kd.C k48 w A0_0 l0_0.length l0_0) (hc0_0 : l0_0.length ≤ c0_0) (hr0_1 : Kd.C k54 w A0_1 l0_1.length l0_1) (hc0_1 : l0_1.length ≤ c0_1) (h : image_Right.f l0_0 l0_1 = some r) (hW : Tab w) :
    Calls Tryd.prog 10 #[.agg #[.slice A0_0 l0_0.length c0_0, .slice A0_1 l0_1.length c0_1]] w fun e w' => e = .returned (.int .i64 r) ∧ Below w.heap.size w w' := by
  have hu25 := Tryd.underlying25
  have HR0_0 := Aside0.mk hr0_0
  have HC0_0 := Aside0.mk hc0_0
  clear hr0_0 hc0_0
  have HR0_1 := Aside0.mk hr0_1
  have HC0_1 := Aside0.mk hc0_1
  clear hr0_1 hc0_1
  have HB := Aside0.mk (Below.refl w.heap.size w)
  have HWX := Aside0.mk hW
  clear hW
  have H : ((image_Encode.f l0_0 l0_1).bind fun bt179 => (some bt179.2)) = some r := h
  clear h
  replace H := Option.bind_eq_some_iff.mp H
  obtain ⟨⟨t179, t182⟩, A20, H⟩ := H
  replace H : (some t182) = some r := H
  have A2 := Aside0.mk A20
  clear A20
  obtain rfl := Option.some.inj H
  go_enter Tryd.func10, Tryd.ntmps10
  go_wp2_with (first | ((with_reducible refine gate_dst (N := 1) rfl ?_); refine box_event ?hg (N := 1) ?hd (cs := #[.slice A0_0 l0_0.length c0_0, .slice A0_1 l0_1.length c0_1]) (t := 25) ?hr ?_; (case hd => rfl); (case hg => rfl); (case hr => first | (go_simp; done) | (go_simp; rfl)); intro gb178 hg w3 hbox hb; have n0_ := Aside0.mk (below_step (by repeat (first | (with_reducible first | exact HB.out | apply below_alloc | apply pw_below_drewN | apply below_drew1) | exact HB.out)) hb); have n1_ := Aside0.mk (hbox); have n2_ := Aside0.mk ((by rw [hg]; exact (below_size (by repeat (first | (with_reducible first | exact HB.out | apply below_alloc | apply pw_below_drewN | apply below_drew1) | exact HB.out))) : w.heap.size ≤ gb178)); have n3_ := Aside0.mk ((by rw [hg]; exact (below_size (by repeat (first | (with_reducible first | exact HB.out | apply below_alloc | apply pw_below_drewN | apply below_drew1) | exact HB.out))) : w.heap.size ≤ gb178)); clear HB; have HB := n0_; have BK178 := n1_; have GW178 := n2_; have GE178 := n3_; clear n0_ n1_ n2_ n3_; clear hb hbox hg; have hcz4_0 : w3.cell? ⟨gb178, 0, none⟩ = some (.slice A0_0 l0_0.length c0_0) := (blk_cell BK178.out 0).trans rfl; have hcz4_1 : w3.cell? ⟨gb178, 1, none⟩ = some (.slice A0_1 l0_1.length c0_1) := (blk_cell BK178.out 1).trans rfl; have hfz4_0 := blk_frozen BK178.out 0; have hfz4_1 := blk_frozen BK178.out 1) | ((with_reducible refine gate_callee (f := 11) rfl ?_); refine goesL_ (some 7) rfl rfl Tryd.func11 (by kernel_rfl) rfl #[.agg #[.slice A0_0 l0_0.length c0_0, .slice A0_1 l0_1.length c0_1]] rfl (by (try simp only [List.map_toArray, List.map_cons, List.map_nil]); first | done | rfl | (simp only [List.length_drop, List.length_take]; rfl)) ?_; (with_reducible refine (image_Encode.calls _ _ l0_0 _ _ l0_1 t179 t182 _ ?side1 ?side2 ?side3 ?side4 A2.out (HWX.out.below (by repeat (first | (with_reducible first | exact HB.out | apply below_alloc | apply pw_below_drewN | apply below_drew1 | refine below_set ?_ GE178.out) | exact HB.out)))).mono ?_); (case side1 => repeat (first | exact (Kd.C_below HR0_0.out HB.out) | (with_reducible refine Kd.C_alloc ?_ _) | (with_reducible refine Kd.C_drewN ?_ _) | (with_reducible refine Kd.C_drew ?_))); (case side2 => exact HC0_0.out); (case side3 => repeat (first | exact (Kd.C_below HR0_1.out HB.out) | (with_reducible refine Kd.C_alloc ?_ _) | (with_reducible refine Kd.C_drewN ?_ _) | (with_reducible refine Kd.C_drew ?_))); (case side4 => exact HC0_1.out); rintro e w5 ⟨v180, rfl, ho0, hb⟩; refine ⟨_, rfl, ?_⟩; have n0_ := Aside0.mk (Kd.R_lower ho0 (below_size (by repeat (first | (with_reducible first | exact HB.out | apply below_alloc | apply pw_below_drewN | apply below_drew1 | refine below_set ?_ GE178.out) | exact HB.out)))); have n1_ := Aside0.mk (blk_below (g := gb178) (o := .cells #[.slice A0_0 l0_0.length c0_0, .slice A0_1 l0_1.length c0_1] 25 (0, 0)) (by (with_reducible repeat (first | refine blk_drewN ?_ _ | refine blk_drew ?_ | refine blk_alloc ?_ _)); exact BK178.out) hb); have n2_ := Aside0.mk (below_step (by repeat (first | (with_reducible first | exact HB.out | apply below_alloc | apply pw_below_drewN | apply below_drew1 | refine below_set ?_ GE178.out) | exact HB.out)) hb); clear BK178; clear HB; have HO181 := n0_; have BK178 := n1_; have HB := n2_; clear n0_ n1_ n2_; (try clear hb); (try clear hb2); (try clear hk); (try clear hi); (try clear ho0)))
  go_ret
  exact ⟨by first | rfl | (simp [errW_none, errW_some] <;> rfl) | (simp [*, errW_none, errW_some] <;> rfl), by repeat (first | (with_reducible first | exact HB.out | apply below_alloc | apply pw_below_drewN | apply below_drew1 | refine below_set ?_ GE178.out) | exact HB.out)⟩
end Go.Proofs.YteidgpaakoeefaaDoor.PIm
namespace Go.Proofs.YteidgpaakoeefaaDoor.PIm
open Go.RowKit Go.Proofs.YteidgpaakoeefaaDoorW.PrintWords Go.Proofs.YteidgpaakoeefaaDoorW.PrintLast Go.Proofs.YteidgpaakoeefaaDoorW.PrintMore
attribute [local go_sem] max2_int min2_int max_two min_two max_three min_three max_four min_four   -- for this text's walks alone
set_option linter.unusedVariables false
set_option linter.unusedSimpArgs false
theorem wire_FrameS.calls (A0 : Option Addr) (c0 : Nat) (l0 : List Int) (r : List Int) (w : World) (hr0 : Kd.C (Kd.int .u8) w A0 l0.length l0) (hc0 : l0.length ≤ c0) (h : wire_Frame.f l0 = some r) (hW : Tab w) :
    Calls Tryd.prog 15 #[.slice A0 l0.length c0] w fun e w' => ∃ v0_ : Value, e = .returned (v0_) ∧ Kd.R (Kd.int .u8) 5 w' w.heap.size (fun _ => True) v0_ r ∧ RS w.heap.size w' v0_ r ∧ Below w.heap.size w w' := by
  unfold wire_Frame.f at h
  split at h
  · next hc =>
    obtain rfl := Option.some.inj h
    refine (Frame_callsF A0 c0 l0 w hr0 hc hW).mono ?_
    rintro e w' ⟨v, rfl, h1, h2⟩
    obtain ⟨sp, h3⟩ := h1
    exact ⟨v, rfl, h3.R, ⟨sp, h3⟩, h2⟩
  · cases h
set_option maxRecDepth 100000 in
theorem image_EncodeS.calls (A0_0 : Option Addr) (c0_0 : Nat) (l0_0 : List (S48)) (A0_1 : Option Addr) (c0_1 : Nat) (l0_1 : List (S54)) (r1 : List Int) (r2 : Int) (w : World) (hr0_0 : Kd.C k48 w A0_0 l0_0.length l0_0) (hc0_0 : l0_0.length ≤ c0_0) (hr0_1 : Kd.C k54 w A0_1 l0_1.length l0_1) (hc0_1 : l0_1.length ≤ c0_1) (h : image_Encode.f l0_0 l0_1 = some (r1, r2)) (hW : Tab w) :
    Calls Tryd.prog 11 #[.agg #[.slice A0_0 l0_0.length c0_0, .slice A0_1 l0_1.length c0_1]] w fun e w' => ∃ v0_ : Value, e = .returned (.tuple #[v0_, .int .i64 r2]) ∧ RS w.heap.size w' v0_ r1 ∧ Below w.heap.size w w' := by
  have hu25 := Tryd.underlying25
  have HR0_0 := Aside0.mk hr0_0
  have HC0_0 := Aside0.mk hc0_0
  clear hr0_0 hc0_0
  have HR0_1 := Aside0.mk hr0_1
  have HC0_1 := Aside0.mk hc0_1
  clear hr0_1 hc0_1
  have HB := Aside0.mk (Below.refl w.heap.size w)
  have HWX := Aside0.mk hW
  clear hW
  have H : ((image_ok.f l0_0 l0_1).bind fun t165 => (if t165 = true then ((api_Glob_23.f (([84, 73, 76, 84] : List Int)) l0_0 24).bind fun t169 => ((api_Fn_27.f t169 l0_1 28).bind fun t172 => ((wire_Frame.f t172).bind fun t175 => (if (t175.length : Int) > 1048576 then (some (([] : List Int), 2)) else (some (t175, 0)))))) else (some (([] : List Int), 150)))) = some (r1, r2) := h
  clear h
  replace H := Option.bind_eq_some_iff.mp H
  obtain ⟨t165, A20, H⟩ := H
  replace H : (if t165 = true then ((api_Glob_23.f (([84, 73, 76, 84] : List Int)) l0_0 24).bind fun t169 => ((api_Fn_27.f t169 l0_1 28).bind fun t172 => ((wire_Frame.f t172).bind fun t175 => (if (t175.length : Int) > 1048576 then (some (([] : List Int), 2)) else (some (t175, 0)))))) else (some (([] : List Int), 150))) = some (r1, r2) := H
  have A2 := Aside0.mk A20
  clear A20
  by_cases c3 : t165 = true
  · subst c3
    have H1 : ((api_Glob_23.f (([84, 73, 76, 84] : List Int)) l0_0 24).bind fun t169 => ((api_Fn_27.f t169 l0_1 28).bind fun t172 => ((wire_Frame.f t172).bind fun t175 => (if (t175.length : Int) > 1048576 then (some (([] : List Int), 2)) else (some (t175, 0)))))) = some (r1, r2) := by rw [if_pos rfl] at H; exact H
    clear H
    have H := H1
    clear H1
    obtain ⟨y166, hy166⟩ : ∃ y_ : List Int, y_ = (([84, 73, 76, 84] : List Int)) := ⟨_, rfl⟩
    replace H : ((api_Glob_23.f y166 l0_0 24).bind fun t169 => ((api_Fn_27.f t169 l0_1 28).bind fun t172 => ((wire_Frame.f t172).bind fun t175 => (if (t175.length : Int) > 1048576 then (some (([] : List Int), 2)) else (some (t175, 0)))))) = some (r1, r2) := by first | (rw [hy166]; with_reducible exact H) | (have H2_ := (Option.bind_some _ _).symm.trans H; rw [hy166]; with_reducible exact H2_) | (have H2_ := (Option.bind_some _ _).symm.trans H; with_reducible exact H2_) | with_reducible exact H | (rw [hy166]; exact H) | exact H
    have Ny166 := Aside0.mk hy166
    clear hy166
    replace H := Option.bind_eq_some_iff.mp H
    obtain ⟨t169, A40, H⟩ := H
    replace H : ((api_Fn_27.f t169 l0_1 28).bind fun t172 => ((wire_Frame.f t172).bind fun t175 => (if (t175.length : Int) > 1048576 then (some (([] : List Int), 2)) else (some (t175, 0))))) = some (r1, r2) := H
    have A4 := Aside0.mk A40
    clear A40
    replace H := Option.bind_eq_some_iff.mp H
    obtain ⟨t172, A50, H⟩ := H
    replace H : ((wire_Frame.f t172).bind fun t175 => (if (t175.length : Int) > 1048576 then (some (([] : List Int), 2)) else (some (t175, 0)))) = some (r1, r2) := H
    have A5 := Aside0.mk A50
    clear A50
    replace H := Option.bind_eq_some_iff.mp H
    obtain ⟨t175, A60, H⟩ := H
    replace H : (if (t175.length : Int) > 1048576 then (some (([] : List Int), 2)) else (some (t175, 0))) = some (r1, r2) := H
    have A6 := Aside0.mk A60
    clear A60
    by_cases c7 : (t175.length : Int) > 1048576
    · rw [if_pos c7] at H
      have c7b0 : decide (1048576 < (t175.length : Int)) = true := decide_eq_true c7
      have c7b1 : decide (1048576 < t175.length) = true := decide_eq_true (by omega)
      clear c7
      simp only [Option.some.injEq, Prod.mk.injEq] at H
      obtain ⟨rfl, rfl⟩ := H
      try have G23 := Aside0.mk (glob23_cond (Ny166.out ▸ A4.out))
      have hcm := fun W => conv_mark W #[.int .u8 84, .int .u8 73, .int .u8 76, .int .u8 84] 4
      go_enter Tryd.func11, Tryd.ntmps11
      go_wp2_with (first | ((with_reducible refine gate_dst (N := 1) rfl ?_); refine box_event ?hg (N := 1) ?hd (cs := #[.slice A0_0 l0_0.length c0_0, .slice A0_1 l0_1.length c0_1]) (t := 25) ?hr ?_; (case hd => rfl); (case hg => rfl); (case hr => first | (go_simp; done) | (go_simp; rfl)); intro gb164 hg w8 hbox hb; have n0_ := Aside0.mk (below_step (by repeat (first | (with_reducible first | exact HB.out | apply below_alloc | apply pw_below_drewN | apply below_drew1) | exact HB.out)) hb); have n1_ := Aside0.mk (hbox); have n2_ := Aside0.mk ((by rw [hg]; exact (below_size (by repeat (first | (with_reducible first | exact HB.out | apply below_alloc | apply pw_below_drewN | apply below_drew1) | exact HB.out))) : w.heap.size ≤ gb164)); have n3_ := Aside0.mk ((by rw [hg]; exact (below_size (by repeat (first | (with_reducible first | exact HB.out | apply below_alloc | apply pw_below_drewN | apply below_drew1) | exact HB.out))) : w.heap.size ≤ gb164)); clear HB; have HB := n0_; have BK164 := n1_; have GW164 := n2_; have GE164 := n3_; clear n0_ n1_ n2_ n3_; clear hb hbox hg; have hcz9_0 : w8.cell? ⟨gb164, 0, none⟩ = some (.slice A0_0 l0_0.length c0_0) := (blk_cell BK164.out 0).trans rfl; have hcz9_1 : w8.cell? ⟨gb164, 1, none⟩ = some (.slice A0_1 l0_1.length c0_1) := (blk_cell BK164.out 1).trans rfl; have hfz9_0 := blk_frozen BK164.out 0; have hfz9_1 := blk_frozen BK164.out 1) | ((with_reducible refine gate_callee (f := 22) rfl ?_); refine goesL_ (some 6) rfl rfl Tryd.func22 (by kernel_rfl) rfl #[.agg #[.slice A0_0 l0_0.length c0_0, .slice A0_1 l0_1.length c0_1]] rfl (by (try simp only [List.map_toArray, List.map_cons, List.map_nil]); first | done | rfl | (simp only [List.length_drop, List.length_take]; rfl)) ?_; (with_reducible refine (image_ok.calls _ _ l0_0 _ _ l0_1 true _ ?side1 ?side2 ?side3 ?side4 A2.out).mono ?_); (case side1 => repeat (first | exact (Kd.C_below HR0_0.out HB.out) | (with_reducible refine Kd.C_alloc ?_ _) | (with_reducible refine Kd.C_drewN ?_ _) | (with_reducible refine Kd.C_drew ?_))); (case side2 => exact HC0_0.out); (case side3 => repeat (first | exact (Kd.C_below HR0_1.out HB.out) | (with_reducible refine Kd.C_alloc ?_ _) | (with_reducible refine Kd.C_drewN ?_ _) | (with_reducible refine Kd.C_drew ?_))); (case side4 => exact HC0_1.out); rintro e w10 ⟨rfl, hb⟩; refine ⟨_, rfl, ?_⟩; have n0_ := Aside0.mk (blk_below (g := gb164) (o := .cells #[.slice A0_0 l0_0.length c0_0, .slice A0_1 l0_1.length c0_1] 25 (0, 0)) (by (with_reducible repeat (first | refine blk_drewN ?_ _ | refine blk_drew ?_ | refine blk_alloc ?_ _)); exact BK164.out) hb); have n1_ := Aside0.mk (below_step (by repeat (first | (with_reducible first | exact HB.out | apply below_alloc | apply pw_below_drewN | apply below_drew1 | refine below_set ?_ GE164.out) | exact HB.out)) hb); clear BK164; clear HB; have BK164 := n0_; have HB := n1_; clear n0_ n1_; (try clear hb); (try clear hb2); (try clear hk); (try clear hi); have hczA : (w10.alloc (.cells #[.int .u8 84, .int .u8 73, .int .u8 76, .int .u8 84] 5 (4, 5))).cell? ⟨gb164, 0, none⟩ = some (.slice A0_0 l0_0.length c0_0) := (blk_cell (blk_alloc BK164.out (.cells #[.int .u8 84, .int .u8 73, .int .u8 76, .int .u8 84] 5 (4, 5))) 0).trans rfl) | ((with_reducible refine gate_callee (f := 23) rfl ?_); refine goesL_ (some 12) rfl rfl Tryd.func23 (by kernel_rfl) rfl #[.slice (some ⟨w10.heap.size, 0, none⟩) 4 4, .slice A0_0 l0_0.length c0_0, .func (.func 24) #[] #[]] rfl (by (try simp only [List.map_toArray, List.map_cons, List.map_nil]); first | done | rfl | (simp only [List.length_drop, List.length_take]; rfl)) ?_; (refine (row_glo_full w10.heap.size [84, 73, 76, 84] A0_0 c0_0 l0_0 w _ (by repeat (first | (with_reducible first | exact HB.out | apply below_alloc | apply pw_below_drewN | apply below_drew1) | exact HB.out)) (C_preM w10 [84, 73, 76, 84] [] 5 (4, 5) (by simp) _ rfl) (by decide) G23.out.2.1 G23.out.2.2.1 HR0_0.out G23.out.2.2.2.1 G23.out.2.2.2.2.1 G23.out.2.2.2.2.2).mono ?_); rintro e w15 ⟨v170, rfl, ho0, hb, hkp⟩; rw [G23.out.1] at ho0; refine ⟨_, rfl, ?_⟩; have n0_ := Aside0.mk (blk_kept (blk_alloc BK164.out _) hkp (fun hs_ => hs_.elim)); have n1_ := Aside0.mk (Kd.R_mono (ok' := fun k_ => True) ho0 (fun k_ hk_ => trivial)); have n2_ := Aside0.mk (hb); clear BK164; clear HB; have BK164 := n0_; have HO171 := n1_; have HB := n2_; clear n0_ n1_ n2_; (try clear hb); (try clear hkp); (try clear ho0); have hcz16_0 : w15.cell? ⟨gb164, 0, none⟩ = some (.slice A0_0 l0_0.length c0_0) := (blk_cell BK164.out 0).trans rfl; have hcz16_1 : w15.cell? ⟨gb164, 1, none⟩ = some (.slice A0_1 l0_1.length c0_1) := (blk_cell BK164.out 1).trans rfl; have hfz16_0 := blk_frozen BK164.out 0; have hfz16_1 := blk_frozen BK164.out 1; obtain ⟨Ao17, co17, eo17⟩ := Kd.R_slice HO171.out; subst eo17) | ((with_reducible refine gate_callee (f := 27) rfl ?_); refine goesL_ (some 16) rfl rfl Tryd.func27 (by kernel_rfl) rfl #[.slice Ao17 t169.length co17, .slice A0_1 l0_1.length c0_1, .func (.func 28) #[] #[]] rfl (by (try simp only [List.map_toArray, List.map_cons, List.map_nil]); first | done | rfl | (simp only [List.length_drop, List.length_take]; rfl)) ?_; (with_reducible refine (api_Fn_27.calls (fun k_ => some k_ = (.slice Ao17 t169.length co17 : Value).ownBlock) (.slice Ao17 t169.length co17) t169 _ _ l0_1 28 t172 w _ ?side1 ?side2 ?side3 ?side4 A5.out).mono ?_); (case side1 => repeat (first | (with_reducible first | exact HB.out | apply below_alloc | apply pw_below_drewN | apply below_drew1 | refine below_set ?_ GE164.out) | exact HB.out)); (case side2 => exact Kd.R_tight rfl HO171.out); (case side3 => exact Came3.mk HR0_1.out (by repeat (first | (with_reducible first | exact HB.out | apply below_alloc | apply pw_below_drewN | apply below_drew1 | refine below_set ?_ GE164.out) | exact HB.out)) (fun k_ hs_ => (fun e_ => Kd.R_base HO171.out k_ e_.symm) hs_)); (case side4 => exact HC0_1.out); rintro e w18 ⟨v173, rfl, ho0, hb, hkp⟩; refine ⟨_, rfl, ?_⟩; have n0_ := Aside0.mk (blk_kept (by (with_reducible repeat (first | refine blk_drewN ?_ _ | refine blk_drew ?_ | refine blk_alloc ?_ _)); exact BK164.out) hkp (fun hs_ => (fun e_ => (Kd.R_ne HO171.out BK164.out (by decide)) e_) hs_)); have n1_ := Aside0.mk (Kd.R_mono (ok' := fun k_ => True) ho0 (fun k_ hk_ => trivial)); have n2_ := Aside0.mk (hb); clear BK164; clear HB; clear HO171; have BK164 := n0_; have HO174 := n1_; have HB := n2_; clear n0_ n1_ n2_; (try clear hb); (try clear hkp); (try clear ho0); obtain ⟨Ao19, co19, eo19⟩ := Kd.R_slice HO174.out; subst eo19) | ((with_reducible refine gate_callee (f := 15) rfl ?_); refine goesL_ (some 18) rfl rfl Tryd.func15 (by kernel_rfl) rfl #[.slice Ao19 t172.length co19] rfl (by (try simp only [List.map_toArray, List.map_cons, List.map_nil]); first | done | rfl | (simp only [List.length_drop, List.length_take]; rfl)) ?_; (with_reducible refine (wire_FrameS.calls _ _ t172 t175 _ ?side1 ?side2 A6.out (HWX.out.below (by repeat (first | (with_reducible first | exact HB.out | apply below_alloc | apply pw_below_drewN | apply below_drew1 | refine below_set ?_ GE164.out) | exact HB.out)))).mono ?_); (case side1 => repeat (first | exact (Kd.R_reads' HO174.out).2.2 | (with_reducible refine Kd.C_alloc ?_ _) | (with_reducible refine Kd.C_drewN ?_ _) | (with_reducible refine Kd.C_drew ?_))); (case side2 => exact (Kd.R_reads' HO174.out).2.1); rintro e w20 ⟨v176, rfl, ho0, hrs_, hb⟩; refine ⟨_, rfl, ?_⟩; have HRS := Aside0.mk (RS.lower hrs_ (below_size (by repeat (first | (with_reducible first | exact HB.out | apply below_alloc | apply pw_below_drewN | apply below_drew1 | refine below_set ?_ GE164.out) | exact HB.out)))); clear hrs_; have n0_ := Aside0.mk (Kd.R_elder' (by (with_reducible repeat (first | apply Kd.R_alloc | apply Kd.R_drewN | apply Kd.R_drew)); exact HO174.out) (Kd.R_base ho0) hb); have n1_ := Aside0.mk (Kd.R_lower (Kd.R_new' ho0 (Kd.R_lt (by (with_reducible repeat (first | apply Kd.R_alloc | apply Kd.R_drewN | apply Kd.R_drew)); exact HO174.out))) (below_size (by repeat (first | (with_reducible first | exact HB.out | apply below_alloc | apply pw_below_drewN | apply below_drew1 | refine below_set ?_ GE164.out) | exact HB.out)))); have n2_ := Aside0.mk (blk_below (g := gb164) (o := .cells #[.slice A0_0 l0_0.length c0_0, .slice A0_1 l0_1.length c0_1] 25 (0, 0)) (by (with_reducible repeat (first | refine blk_drewN ?_ _ | refine blk_drew ?_ | refine blk_alloc ?_ _)); exact BK164.out) hb); have n3_ := Aside0.mk (below_step (by repeat (first | (with_reducible first | exact HB.out | apply below_alloc | apply pw_below_drewN | apply below_drew1 | refine below_set ?_ GE164.out) | exact HB.out)) hb); clear HO174; clear BK164; clear HB; have HO174 := n0_; have HO177 := n1_; have BK164 := n2_; have HB := n3_; clear n0_ n1_ n2_ n3_; (try clear hb); (try clear hb2); (try clear hk); (try clear hi); (try clear ho0); obtain ⟨Ao21, co21, eo21⟩ := Kd.R_slice HO177.out; subst eo21))
      go_ret2
      exact ⟨_, by first | rfl | (simp [errW_none, errW_some] <;> rfl) | (simp [*, errW_none, errW_some] <;> rfl), by first | exact RS.nil _ _ | exact Kd.R_nil _ _ _ _ _ | exact Kd.N_nil _ _ _ _ _ | exact Kd.V_nil _ _ _ _ _ | exact Kd.Q_nil _ _ _ _ _ | exact Kd.S_nil _ _ _ _ _, by repeat (first | (with_reducible first | exact HB.out | apply below_alloc | apply pw_below_drewN | apply below_drew1 | refine below_set ?_ GE164.out) | exact HB.out)⟩
    · rw [if_neg c7] at H
      have c7b0 : decide (1048576 < (t175.length : Int)) = false := decide_eq_false c7
      have c7b1 : decide (1048576 < t175.length) = false := decide_eq_false (by omega)
      clear c7
      simp only [Option.some.injEq, Prod.mk.injEq] at H
      obtain ⟨rfl, rfl⟩ := H
      try have G23 := Aside0.mk (glob23_cond (Ny166.out ▸ A4.out))
      have hcm := fun W => conv_mark W #[.int .u8 84, .int .u8 73, .int .u8 76, .int .u8 84] 4
      go_enter Tryd.func11, Tryd.ntmps11
      go_wp2_with (first | ((with_reducible refine gate_dst (N := 1) rfl ?_); refine box_event ?hg (N := 1) ?hd (cs := #[.slice A0_0 l0_0.length c0_0, .slice A0_1 l0_1.length c0_1]) (t := 25) ?hr ?_; (case hd => rfl); (case hg => rfl); (case hr => first | (go_simp; done) | (go_simp; rfl)); intro gb164 hg w22 hbox hb; have n0_ := Aside0.mk (below_step (by repeat (first | (with_reducible first | exact HB.out | apply below_alloc | apply pw_below_drewN | apply below_drew1) | exact HB.out)) hb); have n1_ := Aside0.mk (hbox); have n2_ := Aside0.mk ((by rw [hg]; exact (below_size (by repeat (first | (with_reducible first | exact HB.out | apply below_alloc | apply pw_below_drewN | apply below_drew1) | exact HB.out))) : w.heap.size ≤ gb164)); have n3_ := Aside0.mk ((by rw [hg]; exact (below_size (by repeat (first | (with_reducible first | exact HB.out | apply below_alloc | apply pw_below_drewN | apply below_drew1) | exact HB.out))) : w.heap.size ≤ gb164)); clear HB; have HB := n0_; have BK164 := n1_; have GW164 := n2_; have GE164 := n3_; clear n0_ n1_ n2_ n3_; clear hb hbox hg; have hcz23_0 : w22.cell? ⟨gb164, 0, none⟩ = some (.slice A0_0 l0_0.length c0_0) := (blk_cell BK164.out 0).trans rfl; have hcz23_1 : w22.cell? ⟨gb164, 1, none⟩ = some (.slice A0_1 l0_1.length c0_1) := (blk_cell BK164.out 1).trans rfl; have hfz23_0 := blk_frozen BK164.out 0; have hfz23_1 := blk_frozen BK164.out 1) | ((with_reducible refine gate_callee (f := 22) rfl ?_); refine goesL_ (some 6) rfl rfl Tryd.func22 (by kernel_rfl) rfl #[.agg #[.slice A0_0 l0_0.length c0_0, .slice A0_1 l0_1.length c0_1]] rfl (by (try simp only [List.map_toArray, List.map_cons, List.map_nil]); first | done | rfl | (simp only [List.length_drop, List.length_take]; rfl)) ?_; (with_reducible refine (image_ok.calls _ _ l0_0 _ _ l0_1 true _ ?side1 ?side2 ?side3 ?side4 A2.out).mono ?_); (case side1 => repeat (first | exact (Kd.C_below HR0_0.out HB.out) | (with_reducible refine Kd.C_alloc ?_ _) | (with_reducible refine Kd.C_drewN ?_ _) | (with_reducible refine Kd.C_drew ?_))); (case side2 => exact HC0_0.out); (case side3 => repeat (first | exact (Kd.C_below HR0_1.out HB.out) | (with_reducible refine Kd.C_alloc ?_ _) | (with_reducible refine Kd.C_drewN ?_ _) | (with_reducible refine Kd.C_drew ?_))); (case side4 => exact HC0_1.out); rintro e w24 ⟨rfl, hb⟩; refine ⟨_, rfl, ?_⟩; have n0_ := Aside0.mk (blk_below (g := gb164) (o := .cells #[.slice A0_0 l0_0.length c0_0, .slice A0_1 l0_1.length c0_1] 25 (0, 0)) (by (with_reducible repeat (first | refine blk_drewN ?_ _ | refine blk_drew ?_ | refine blk_alloc ?_ _)); exact BK164.out) hb); have n1_ := Aside0.mk (below_step (by repeat (first | (with_reducible first | exact HB.out | apply below_alloc | apply pw_below_drewN | apply below_drew1 | refine below_set ?_ GE164.out) | exact HB.out)) hb); clear BK164; clear HB; have BK164 := n0_; have HB := n1_; clear n0_ n1_; (try clear hb); (try clear hb2); (try clear hk); (try clear hi); have hczA : (w24.alloc (.cells #[.int .u8 84, .int .u8 73, .int .u8 76, .int .u8 84] 5 (4, 5))).cell? ⟨gb164, 0, none⟩ = some (.slice A0_0 l0_0.length c0_0) := (blk_cell (blk_alloc BK164.out (.cells #[.int .u8 84, .int .u8 73, .int .u8 76, .int .u8 84] 5 (4, 5))) 0).trans rfl) | ((with_reducible refine gate_callee (f := 23) rfl ?_); refine goesL_ (some 12) rfl rfl Tryd.func23 (by kernel_rfl) rfl #[.slice (some ⟨w24.heap.size, 0, none⟩) 4 4, .slice A0_0 l0_0.length c0_0, .func (.func 24) #[] #[]] rfl (by (try simp only [List.map_toArray, List.map_cons, List.map_nil]); first | done | rfl | (simp only [List.length_drop, List.length_take]; rfl)) ?_; (refine (row_glo_full w24.heap.size [84, 73, 76, 84] A0_0 c0_0 l0_0 w _ (by repeat (first | (with_reducible first | exact HB.out | apply below_alloc | apply pw_below_drewN | apply below_drew1) | exact HB.out)) (C_preM w24 [84, 73, 76, 84] [] 5 (4, 5) (by simp) _ rfl) (by decide) G23.out.2.1 G23.out.2.2.1 HR0_0.out G23.out.2.2.2.1 G23.out.2.2.2.2.1 G23.out.2.2.2.2.2).mono ?_); rintro e w29 ⟨v170, rfl, ho0, hb, hkp⟩; rw [G23.out.1] at ho0; refine ⟨_, rfl, ?_⟩; have n0_ := Aside0.mk (blk_kept (blk_alloc BK164.out _) hkp (fun hs_ => hs_.elim)); have n1_ := Aside0.mk (Kd.R_mono (ok' := fun k_ => True) ho0 (fun k_ hk_ => trivial)); have n2_ := Aside0.mk (hb); clear BK164; clear HB; have BK164 := n0_; have HO171 := n1_; have HB := n2_; clear n0_ n1_ n2_; (try clear hb); (try clear hkp); (try clear ho0); have hcz30_0 : w29.cell? ⟨gb164, 0, none⟩ = some (.slice A0_0 l0_0.length c0_0) := (blk_cell BK164.out 0).trans rfl; have hcz30_1 : w29.cell? ⟨gb164, 1, none⟩ = some (.slice A0_1 l0_1.length c0_1) := (blk_cell BK164.out 1).trans rfl; have hfz30_0 := blk_frozen BK164.out 0; have hfz30_1 := blk_frozen BK164.out 1; obtain ⟨Ao31, co31, eo31⟩ := Kd.R_slice HO171.out; subst eo31) | ((with_reducible refine gate_callee (f := 27) rfl ?_); refine goesL_ (some 16) rfl rfl Tryd.func27 (by kernel_rfl) rfl #[.slice Ao31 t169.length co31, .slice A0_1 l0_1.length c0_1, .func (.func 28) #[] #[]] rfl (by (try simp only [List.map_toArray, List.map_cons, List.map_nil]); first | done | rfl | (simp only [List.length_drop, List.length_take]; rfl)) ?_; (with_reducible refine (api_Fn_27.calls (fun k_ => some k_ = (.slice Ao31 t169.length co31 : Value).ownBlock) (.slice Ao31 t169.length co31) t169 _ _ l0_1 28 t172 w _ ?side1 ?side2 ?side3 ?side4 A5.out).mono ?_); (case side1 => repeat (first | (with_reducible first | exact HB.out | apply below_alloc | apply pw_below_drewN | apply below_drew1 | refine below_set ?_ GE164.out) | exact HB.out)); (case side2 => exact Kd.R_tight rfl HO171.out); (case side3 => exact Came3.mk HR0_1.out (by repeat (first | (with_reducible first | exact HB.out | apply below_alloc | apply pw_below_drewN | apply below_drew1 | refine below_set ?_ GE164.out) | exact HB.out)) (fun k_ hs_ => (fun e_ => Kd.R_base HO171.out k_ e_.symm) hs_)); (case side4 => exact HC0_1.out); rintro e w32 ⟨v173, rfl, ho0, hb, hkp⟩; refine ⟨_, rfl, ?_⟩; have n0_ := Aside0.mk (blk_kept (by (with_reducible repeat (first | refine blk_drewN ?_ _ | refine blk_drew ?_ | refine blk_alloc ?_ _)); exact BK164.out) hkp (fun hs_ => (fun e_ => (Kd.R_ne HO171.out BK164.out (by decide)) e_) hs_)); have n1_ := Aside0.mk (Kd.R_mono (ok' := fun k_ => True) ho0 (fun k_ hk_ => trivial)); have n2_ := Aside0.mk (hb); clear BK164; clear HB; clear HO171; have BK164 := n0_; have HO174 := n1_; have HB := n2_; clear n0_ n1_ n2_; (try clear hb); (try clear hkp); (try clear ho0); obtain ⟨Ao33, co33, eo33⟩ := Kd.R_slice HO174.out; subst eo33) | ((with_reducible refine gate_callee (f := 15) rfl ?_); refine goesL_ (some 18) rfl rfl Tryd.func15 (by kernel_rfl) rfl #[.slice Ao33 t172.length co33] rfl (by (try simp only [List.map_toArray, List.map_cons, List.map_nil]); first | done | rfl | (simp only [List.length_drop, List.length_take]; rfl)) ?_; (with_reducible refine (wire_FrameS.calls _ _ t172 t175 _ ?side1 ?side2 A6.out (HWX.out.below (by repeat (first | (with_reducible first | exact HB.out | apply below_alloc | apply pw_below_drewN | apply below_drew1 | refine below_set ?_ GE164.out) | exact HB.out)))).mono ?_); (case side1 => repeat (first | exact (Kd.R_reads' HO174.out).2.2 | (with_reducible refine Kd.C_alloc ?_ _) | (with_reducible refine Kd.C_drewN ?_ _) | (with_reducible refine Kd.C_drew ?_))); (case side2 => exact (Kd.R_reads' HO174.out).2.1); rintro e w34 ⟨v176, rfl, ho0, hrs_, hb⟩; refine ⟨_, rfl, ?_⟩; have HRS := Aside0.mk (RS.lower hrs_ (below_size (by repeat (first | (with_reducible first | exact HB.out | apply below_alloc | apply pw_below_drewN | apply below_drew1 | refine below_set ?_ GE164.out) | exact HB.out)))); clear hrs_; have n0_ := Aside0.mk (Kd.R_elder' (by (with_reducible repeat (first | apply Kd.R_alloc | apply Kd.R_drewN | apply Kd.R_drew)); exact HO174.out) (Kd.R_base ho0) hb); have n1_ := Aside0.mk (Kd.R_lower (Kd.R_new' ho0 (Kd.R_lt (by (with_reducible repeat (first | apply Kd.R_alloc | apply Kd.R_drewN | apply Kd.R_drew)); exact HO174.out))) (below_size (by repeat (first | (with_reducible first | exact HB.out | apply below_alloc | apply pw_below_drewN | apply below_drew1 | refine below_set ?_ GE164.out) | exact HB.out)))); have n2_ := Aside0.mk (blk_below (g := gb164) (o := .cells #[.slice A0_0 l0_0.length c0_0, .slice A0_1 l0_1.length c0_1] 25 (0, 0)) (by (with_reducible repeat (first | refine blk_drewN ?_ _ | refine blk_drew ?_ | refine blk_alloc ?_ _)); exact BK164.out) hb); have n3_ := Aside0.mk (below_step (by repeat (first | (with_reducible first | exact HB.out | apply below_alloc | apply pw_below_drewN | apply below_drew1 | refine below_set ?_ GE164.out) | exact HB.out)) hb); clear HO174; clear BK164; clear HB; have HO174 := n0_; have HO177 := n1_; have BK164 := n2_; have HB := n3_; clear n0_ n1_ n2_ n3_; (try clear hb); (try clear hb2); (try clear hk); (try clear hi); (try clear ho0); obtain ⟨Ao35, co35, eo35⟩ := Kd.R_slice HO177.out; subst eo35))
      go_ret2
      exact ⟨_, by first | rfl | (simp [errW_none, errW_some] <;> rfl) | (simp [*, errW_none, errW_some] <;> rfl), HRS.out, by repeat (first | (with_reducible first | exact HB.out | apply below_alloc | apply pw_below_drewN | apply below_drew1 | refine below_set ?_ GE164.out) | exact HB.out)⟩
  · replace c3 := Bool.eq_false_iff.mpr c3
    subst c3
    have H1 : (some (([] : List Int), 150)) = some (r1, r2) := by rw [if_neg (show ¬ (false = true) by decide)] at H; exact H
    clear H
    have H := H1
    clear H1
    simp only [Option.some.injEq, Prod.mk.injEq] at H
    obtain ⟨rfl, rfl⟩ := H
    try have G23 := Aside0.mk (glob23_cond (Ny166.out ▸ A4.out))
    have hcm := fun W => conv_mark W #[.int .u8 84, .int .u8 73, .int .u8 76, .int .u8 84] 4
    go_enter Tryd.func11, Tryd.ntmps11
    go_wp2_with (first | ((with_reducible refine gate_dst (N := 1) rfl ?_); refine box_event ?hg (N := 1) ?hd (cs := #[.slice A0_0 l0_0.length c0_0, .slice A0_1 l0_1.length c0_1]) (t := 25) ?hr ?_; (case hd => rfl); (case hg => rfl); (case hr => first | (go_simp; done) | (go_simp; rfl)); intro gb164 hg w36 hbox hb; have n0_ := Aside0.mk (below_step (by repeat (first | (with_reducible first | exact HB.out | apply below_alloc | apply pw_below_drewN | apply below_drew1) | exact HB.out)) hb); have n1_ := Aside0.mk (hbox); have n2_ := Aside0.mk ((by rw [hg]; exact (below_size (by repeat (first | (with_reducible first | exact HB.out | apply below_alloc | apply pw_below_drewN | apply below_drew1) | exact HB.out))) : w.heap.size ≤ gb164)); have n3_ := Aside0.mk ((by rw [hg]; exact (below_size (by repeat (first | (with_reducible first | exact HB.out | apply below_alloc | apply pw_below_drewN | apply below_drew1) | exact HB.out))) : w.heap.size ≤ gb164)); clear HB; have HB := n0_; have BK164 := n1_; have GW164 := n2_; have GE164 := n3_; clear n0_ n1_ n2_ n3_; clear hb hbox hg; have hcz37_0 : w36.cell? ⟨gb164, 0, none⟩ = some (.slice A0_0 l0_0.length c0_0) := (blk_cell BK164.out 0).trans rfl; have hcz37_1 : w36.cell? ⟨gb164, 1, none⟩ = some (.slice A0_1 l0_1.length c0_1) := (blk_cell BK164.out 1).trans rfl; have hfz37_0 := blk_frozen BK164.out 0; have hfz37_1 := blk_frozen BK164.out 1) | ((with_reducible refine gate_callee (f := 22) rfl ?_); refine goesL_ (some 6) rfl rfl Tryd.func22 (by kernel_rfl) rfl #[.agg #[.slice A0_0 l0_0.length c0_0, .slice A0_1 l0_1.length c0_1]] rfl (by (try simp only [List.map_toArray, List.map_cons, List.map_nil]); first | done | rfl | (simp only [List.length_drop, List.length_take]; rfl)) ?_; (with_reducible refine (image_ok.calls _ _ l0_0 _ _ l0_1 false _ ?side1 ?side2 ?side3 ?side4 A2.out).mono ?_); (case side1 => repeat (first | exact (Kd.C_below HR0_0.out HB.out) | (with_reducible refine Kd.C_alloc ?_ _) | (with_reducible refine Kd.C_drewN ?_ _) | (with_reducible refine Kd.C_drew ?_))); (case side2 => exact HC0_0.out); (case side3 => repeat (first | exact (Kd.C_below HR0_1.out HB.out) | (with_reducible refine Kd.C_alloc ?_ _) | (with_reducible refine Kd.C_drewN ?_ _) | (with_reducible refine Kd.C_drew ?_))); (case side4 => exact HC0_1.out); rintro e w38 ⟨rfl, hb⟩; refine ⟨_, rfl, ?_⟩; have n0_ := Aside0.mk (blk_below (g := gb164) (o := .cells #[.slice A0_0 l0_0.length c0_0, .slice A0_1 l0_1.length c0_1] 25 (0, 0)) (by (with_reducible repeat (first | refine blk_drewN ?_ _ | refine blk_drew ?_ | refine blk_alloc ?_ _)); exact BK164.out) hb); have n1_ := Aside0.mk (below_step (by repeat (first | (with_reducible first | exact HB.out | apply below_alloc | apply pw_below_drewN | apply below_drew1 | refine below_set ?_ GE164.out) | exact HB.out)) hb); clear BK164; clear HB; have BK164 := n0_; have HB := n1_; clear n0_ n1_; (try clear hb); (try clear hb2); (try clear hk); (try clear hi)))
    go_ret2
    exact ⟨_, by first | rfl | (simp [errW_none, errW_some] <;> rfl) | (simp [*, errW_none, errW_some] <;> rfl), by first | exact RS.nil _ _ | exact Kd.R_nil _ _ _ _ _ | exact Kd.N_nil _ _ _ _ _ | exact Kd.V_nil _ _ _ _ _ | exact Kd.Q_nil _ _ _ _ _ | exact Kd.S_nil _ _ _ _ _, by repeat (first | (with_reducible first | exact HB.out | apply below_alloc | apply pw_below_drewN | apply below_drew1 | refine below_set ?_ GE164.out) | exact HB.out)⟩
end Go.Proofs.YteidgpaakoeefaaDoor.PIm
namespace Go.Proofs.YteidgpaakoeefaaDoor
open Go.RowKit Go.Proofs.YteidgpaakoeefaaDoorW.PrintWords Go.Proofs.YteidgpaakoeefaaDoorW.PrintLast Go.Proofs.YteidgpaakoeefaaDoorW.PrintMore
set_option linter.unusedVariables false
set_option linter.unusedSimpArgs false
open PIm
def RdB (w : World) (B : Nat) (A : Option Addr) (n c : Nat) (i : Int) : Prop := w.heap[B]? = some (.cells #[.slice A n c, .int .i64 i] 78 (0, 0))
def Kp (w W : World) (S : Nat → Prop) : Prop := w.heap.size ≤ W.heap.size ∧ Kept w W S ∧ W.os = w.os ∧ W.tape = w.tape ∧ W.output = w.output
theorem Kp.size {w W : World} {S : Nat → Prop} (h : Kp w W S) : w.heap.size ≤ W.heap.size := h.1
theorem Kp.kept {w W : World} {S : Nat → Prop} (h : Kp w W S) : Kept w W S := h.2.1
theorem Kp.os {w W : World} {S : Nat → Prop} (h : Kp w W S) : W.os = w.os := h.2.2.1
theorem Kp.tape {w W : World} {S : Nat → Prop} (h : Kp w W S) : W.tape = w.tape := h.2.2.2.1
theorem Kp.output {w W : World} {S : Nat → Prop} (h : Kp w W S) : W.output = w.output := h.2.2.2.2
theorem Kp.mk {w W : World} {S : Nat → Prop} (a : w.heap.size ≤ W.heap.size) (b : Kept w W S) (c : W.os = w.os) (d : W.tape = w.tape) (e : W.output = w.output) : Kp w W S := And.intro a ⟨b, c, d, e⟩
theorem Kp.refl (w : World) (S : Nat → Prop) : Kp w w S := .mk (Nat.le_refl _) (Kept.refl _ _) rfl rfl rfl
theorem Kp.then_ {w W W2 : World} {S S2 : Nat → Prop} (h : Kp w W S) (k : Kp W W2 S2) (hs : ∀ k, S2 k → S k ∨ w.heap.size ≤ k) : Kp w W2 S :=
  .mk (Nat.le_trans h.size k.size) (h.kept.then_ k.kept hs) (k.os.trans h.os) (k.tape.trans h.tape) (k.output.trans h.output)
theorem Kp.below {w W W2 : World} {S : Nat → Prop} (h : Kp w W S) (hb : Below W.heap.size W W2) : Kp w W2 S :=
  .mk (Nat.le_trans h.size hb.size) (h.kept.below hb) (hb.os.trans h.os) (hb.tape.trans h.tape) (hb.output.trans h.output)
theorem Kp.alloc {w W : World} {S : Nat → Prop} (h : Kp w W S) (o : Obj) : Kp w (W.alloc o) S := h.below (below_alloc (Below.refl _ _) o)
theorem Kp.setCell {w W : World} {S : Nat → Prop} (h : Kp w W S) {p : Addr} (hp : S p.block ∨ w.heap.size ≤ p.block) (u : Value) : Kp w (W.setCell p u) S :=
  .mk (by simpa [World.setCell] using h.size) (h.kept.setCell hp u) h.os h.tape h.output
theorem Kp.of_grown {w W W2 : World} {S : Nat → Prop} {row : Option Nat} (hg : W.grownBy W2 row) (h : Kp w W S) (hr : ∀ k, row = some k → S k ∨ w.heap.size ≤ k) : Kp w W2 S :=
  .mk (Nat.le_trans h.size hg.size) (Kept.of_grown hg h.kept hr) (hg.os.trans h.os) (hg.tape.trans h.tape) (hg.output.trans h.output)
theorem Kp.below_of {w W W2 : World} {B : Nat} (h : Kp W W2 (fun k => k = B)) (hb : Below w.heap.size w W) (hB : w.heap.size ≤ B) : Below w.heap.size w W2 :=
  ⟨h.os.trans hb.os, h.tape.trans hb.tape, h.output.trans hb.output, Nat.le_trans hb.size h.size, fun k hk => (h.kept.2 k (Nat.lt_of_lt_of_le hk hb.size) (by omega)).trans (hb.block k hk)⟩
def Rp {α : Type} (w w' : World) (B : Nat) (A : Option Addr) (n c : Nat) (r : Option (α × Int)) (V : World → α → Value → Prop) (e : Ending) : Prop :=
  Kp w w' (fun k => k = B) ∧ match r with
  | some (x, j) => (∃ v, e = .returned v ∧ V w' x v) ∧ RdB w' B A n c j
  | none => ∃ m, e = .panicked [{ v := .iface 28 (.int .i64 m), recovered := false }]
theorem rdb_set {w : World} {B : Nat} {A : Option Addr} {n c : Nat} {i : Int} (h : RdB w B A n c i) (j : Int) : RdB (w.setCell ⟨B, 1, none⟩ (.int .i64 j)) B A n c j :=
  blk_put (cs := #[.slice A n c, .int .i64 i]) h 1 _ rfl
def rdN (l : List Int) (i : Int) : Option (Int × Int) := if (tk l i 9).2.2 = 0 then some ((tk l i 9).1, (tk l i 9).2.1) else none
def rdW (l : List Int) (i : Int) : Option (Int × Int) := if (tk l i 10).2.2 = 0 then some (uz (tk l i 10).1, (tk l i 10).2.1) else none
def rdT (l : List Int) (i : Int) : Option (ByteArray × Int) := if (rtF l i).2.2 = 0 then some ((rtF l i).1, (rtF l i).2.1) else none
set_option maxHeartbeats 1000000 in
theorem took_int (B : Nat) (A : Option Addr) (n c : Nat) (i : Int) (v : Int) (j x : Int) (w : World) (hb : RdB w B A n c i) :
    Calls Tryd.prog 92 #[.pointer (some ⟨B, 0, none⟩), .int .i64 v, .int .i64 j, .int .i64 x] w
      fun e w' => Rp w w' B A n c (if x = 0 then some (v, j) else none) (fun _ y u => u = .int .i64 y) e := by
  have hc0 : w.cell? ⟨B, 0, none⟩ = some (.slice A n c) := (blk_cell hb 0).trans rfl
  have hc1 : w.cell? ⟨B, 1, none⟩ = some (.int .i64 i) := (blk_cell hb 1).trans rfl
  have hf1 := blk_frozen hb 1
  have HBk := Aside0.mk hb
  clear hb
  by_cases hx : x = 0
  · have b2 : (x != 0) = false := by simp [hx]
    rw [if_pos hx]
    clear hx
    go_enter Tryd.func92, Tryd.ntmps92
    go_wp2
    go_ret
    refine ⟨?_, ?_, ?_⟩
    · exact Kp.setCell (S := fun k => k = B) (Kp.refl w _) (.inl rfl) _
    · exact ⟨_, rfl, rfl⟩
    · exact rdb_set HBk.out j
  · have b2 : (x != 0) = true := by simp [hx]
    rw [if_neg hx]
    clear hx
    go_enter Tryd.func92, Tryd.ntmps92
    go_wp2
    exact ⟨rfl, Kp.refl _ _, _, rfl⟩
set_option maxHeartbeats 1000000 in
theorem took_str (B : Nat) (A : Option Addr) (n c : Nat) (i : Int) (v : ByteArray) (j x : Int) (w : World) (hb : RdB w B A n c i) :
    Calls Tryd.prog 95 #[.pointer (some ⟨B, 0, none⟩), .string v, .int .i64 j, .int .i64 x] w
      fun e w' => Rp w w' B A n c (if x = 0 then some (v, j) else none) (fun _ y u => u = .string y) e := by
  have hc0 : w.cell? ⟨B, 0, none⟩ = some (.slice A n c) := (blk_cell hb 0).trans rfl
  have hc1 : w.cell? ⟨B, 1, none⟩ = some (.int .i64 i) := (blk_cell hb 1).trans rfl
  have hf1 := blk_frozen hb 1
  have HBk := Aside0.mk hb
  clear hb
  by_cases hx : x = 0
  · have b2 : (x != 0) = false := by simp [hx]
    rw [if_pos hx]
    clear hx
    go_enter Tryd.func95, Tryd.ntmps95
    go_wp2
    go_ret
    refine ⟨?_, ?_, ?_⟩
    · exact Kp.setCell (S := fun k => k = B) (Kp.refl w _) (.inl rfl) _
    · exact ⟨_, rfl, rfl⟩
    · exact rdb_set HBk.out j
  · have b2 : (x != 0) = true := by simp [hx]
    rw [if_neg hx]
    clear hx
    go_enter Tryd.func95, Tryd.ntmps95
    go_wp2
    exact ⟨rfl, Kp.refl _ _, _, rfl⟩
set_option maxHeartbeats 2000000 in
theorem rd_nat (B : Nat) (A : Option Addr) (c : Nat) (l : List Int) (i : Int) (w : World) (hb : RdB w B A l.length c i)
    (hr : Kd.C (Kd.int .u8) w A l.length l) (hc : l.length ≤ c) (hbt : ∀ x ∈ l, 0 ≤ x ∧ x < 256) (hl : l.length ≤ 140737488355318) (h1 : -9223372036854775808 ≤ i) (h2 : i ≤ 9223372036854775807) :
    Calls Tryd.prog 68 #[.pointer (some ⟨B, 0, none⟩)] w fun e w' => Rp w w' B A l.length c (rdN l i) (fun _ y u => u = .int .i64 y) e := by
  have hc0 : w.cell? ⟨B, 0, none⟩ = some (.slice A l.length c) := (blk_cell hb 0).trans rfl
  have hc1 : w.cell? ⟨B, 1, none⟩ = some (.int .i64 i) := (blk_cell hb 1).trans rfl
  have HC := Aside0.mk (fun n => ReadNum_calls A c l i (w.drewN n) (Kd.C_drewN hr n) hc hbt hl h1 h2)
  have HBk := Aside0.mk hb
  obtain ⟨R, hR⟩ : ∃ R, R = rdN l i := ⟨_, rfl⟩
  rw [← hR]
  have HRR := Aside0.mk hR
  clear hR hb hr hbt hc h1 h2 hl
  go_enter Tryd.func68, Tryd.ntmps68
  go_wp2_with fail
  go_quiet ((go_at_call 91; refine (HC.out _).mono ?_; rintro e_ w_ ⟨rfl, rfl⟩; exact ⟨rfl, _, rfl⟩))
  go_wp2_with fail
  refine (took_int B A l.length c i _ _ _ _ (blk_drewN HBk.out _)).mono ?_
  rintro e_ w1 ⟨hk, h⟩
  by_cases hx : (tk l i 9).2.2 = 0
  · rw [if_pos hx] at h
    obtain ⟨⟨v, rfl, rfl⟩, hb2⟩ := h
    have HK := Aside0.mk hk; have HB2 := Aside0.mk hb2; have HR2 := Aside0.mk (HRR.out.trans (if_pos hx))
    clear hk hb2 hx HRR
    go_wp2
    go_ret
    rw [HR2.out]
    exact ⟨HK.out, ⟨_, rfl, rfl⟩, HB2.out⟩
  · rw [if_neg hx] at h
    obtain ⟨m, rfl⟩ := h
    have HK := Aside0.mk hk; have HR2 := Aside0.mk (HRR.out.trans (if_neg hx))
    clear hk hx HRR
    go_wp2
    rw [HR2.out]
    exact ⟨rfl, HK.out, m, rfl⟩
set_option maxHeartbeats 2000000 in
theorem rd_whole (B : Nat) (A : Option Addr) (c : Nat) (l : List Int) (i : Int) (w : World) (hb : RdB w B A l.length c i)
    (hr : Kd.C (Kd.int .u8) w A l.length l) (hc : l.length ≤ c) (hbt : ∀ x ∈ l, 0 ≤ x ∧ x < 256) (hl : l.length ≤ 140737488355318) (h1 : -9223372036854775808 ≤ i) (h2 : i ≤ 9223372036854775807) :
    Calls Tryd.prog 69 #[.pointer (some ⟨B, 0, none⟩)] w fun e w' => Rp w w' B A l.length c (rdW l i) (fun _ y u => u = .int .i64 y) e := by
  have hc0 : w.cell? ⟨B, 0, none⟩ = some (.slice A l.length c) := (blk_cell hb 0).trans rfl
  have hc1 : w.cell? ⟨B, 1, none⟩ = some (.int .i64 i) := (blk_cell hb 1).trans rfl
  have HC := Aside0.mk (fun n => ReadInt_calls A c l i (w.drewN n) (Kd.C_drewN hr n) hc hbt hl h1 h2)
  have HBk := Aside0.mk hb
  obtain ⟨R, hR⟩ : ∃ R, R = rdW l i := ⟨_, rfl⟩
  rw [← hR]
  have HRR := Aside0.mk hR
  clear hR hb hr hbt hc h1 h2 hl
  go_enter Tryd.func69, Tryd.ntmps69
  go_wp2_with fail
  go_quiet ((go_at_call 93; refine (HC.out _).mono ?_; rintro e_ w_ ⟨rfl, rfl⟩; exact ⟨rfl, _, rfl⟩))
  go_wp2_with fail
  refine (took_int B A l.length c i _ _ _ _ (blk_drewN HBk.out _)).mono ?_
  rintro e_ w1 ⟨hk, h⟩
  by_cases hx : (tk l i 10).2.2 = 0
  · rw [if_pos hx] at h
    obtain ⟨⟨v, rfl, rfl⟩, hb2⟩ := h
    have HK := Aside0.mk hk; have HB2 := Aside0.mk hb2; have HR2 := Aside0.mk (HRR.out.trans (if_pos hx))
    clear hk hb2 hx HRR
    go_wp2
    go_ret
    rw [HR2.out]
    exact ⟨HK.out, ⟨_, rfl, rfl⟩, HB2.out⟩
  · rw [if_neg hx] at h
    obtain ⟨m, rfl⟩ := h
    have HK := Aside0.mk hk; have HR2 := Aside0.mk (HRR.out.trans (if_neg hx))
    clear hk hx HRR
    go_wp2
    rw [HR2.out]
    exact ⟨rfl, HK.out, m, rfl⟩
set_option maxHeartbeats 2000000 in
theorem rd_text (B : Nat) (A : Option Addr) (c : Nat) (l : List Int) (i : Int) (w : World) (hb : RdB w B A l.length c i)
    (hr : Kd.C (Kd.int .u8) w A l.length l) (hc : l.length ≤ c) (hbt : ∀ x ∈ l, 0 ≤ x ∧ x < 256) (hl : l.length ≤ 140737488355318) (h1 : -9223372036854775808 ≤ i) (h2 : i ≤ 9223372036854775807) :
    Calls Tryd.prog 70 #[.pointer (some ⟨B, 0, none⟩)] w fun e w' => Rp w w' B A l.length c (rdT l i) (fun _ y u => u = .string y) e := by
  have hc0 : w.cell? ⟨B, 0, none⟩ = some (.slice A l.length c) := (blk_cell hb 0).trans rfl
  have hc1 : w.cell? ⟨B, 1, none⟩ = some (.int .i64 i) := (blk_cell hb 1).trans rfl
  have HC := Aside0.mk (fun n => ReadText_calls A c l i (w.drewN n) (Kd.C_drewN hr n) hc hbt hl h1 h2)
  have HBk := Aside0.mk hb
  obtain ⟨R, hR⟩ : ∃ R, R = rdT l i := ⟨_, rfl⟩
  rw [← hR]
  have HRR := Aside0.mk hR
  clear hR hb hr hbt hc h1 h2 hl
  go_enter Tryd.func70, Tryd.ntmps70
  go_wp2_with fail
  go_quiet ((go_at_call 94; refine (HC.out _).mono ?_; rintro e_ w_ ⟨rfl, rfl⟩; exact ⟨rfl, _, rfl⟩))
  go_wp2_with fail
  refine (took_str B A l.length c i _ _ _ _ (blk_drewN HBk.out _)).mono ?_
  rintro e_ w1 ⟨hk, h⟩
  by_cases hx : (rtF l i).2.2 = 0
  · rw [if_pos hx] at h
    obtain ⟨⟨v, rfl, rfl⟩, hb2⟩ := h
    have HK := Aside0.mk hk; have HB2 := Aside0.mk hb2; have HR2 := Aside0.mk (HRR.out.trans (if_pos hx))
    clear hk hb2 hx HRR
    go_wp2
    go_ret
    rw [HR2.out]
    exact ⟨HK.out, ⟨_, rfl, rfl⟩, HB2.out⟩
  · rw [if_neg hx] at h
    obtain ⟨m, rfl⟩ := h
    have HK := Aside0.mk hk; have HR2 := Aside0.mk (HRR.out.trans (if_neg hx))
    clear hk hx HRR
    go_wp2
    rw [HR2.out]
    exact ⟨rfl, HK.out, m, rfl⟩
end Go.Proofs.YteidgpaakoeefaaDoor
namespace Go.Proofs.YteidgpaakoeefaaDoor
open Go.RowKit Go.Proofs.YteidgpaakoeefaaDoorW.PrintWords Go.Proofs.YteidgpaakoeefaaDoorW.PrintLast Go.Proofs.YteidgpaakoeefaaDoorW.PrintMore
set_option linter.unusedVariables false
set_option linter.unusedSimpArgs false
open PIm
theorem rdN_rng {l : List Int} {i x j : Int} (hb : ∀ x ∈ l, 0 ≤ x ∧ x < 256) (h : rdN l i = some (x, j)) : 0 ≤ j ∧ j ≤ (l.length : Int) := by
  have hr := tk_range l i 9 (by decide) (by decide) hb
  unfold rdN at h
  split at h
  · injection h with h; injection h with h1 h2; subst h2; exact ⟨hr.2.2.2.1, hr.2.2.2.2⟩
  · cases h
theorem rdW_rng {l : List Int} {i x j : Int} (hb : ∀ x ∈ l, 0 ≤ x ∧ x < 256) (h : rdW l i = some (x, j)) : 0 ≤ j ∧ j ≤ (l.length : Int) := by
  have hr := tk_range l i 10 (by decide) (by decide) hb
  unfold rdW at h
  split at h
  · injection h with h; injection h with h1 h2; subst h2; exact ⟨hr.2.2.2.1, hr.2.2.2.2⟩
  · cases h
def rdG (l : List Int) (i : Int) : Option (S48 × Int) := (rdN l i).bind fun a => (rdN l a.2).bind fun b => (rdW l b.2).bind fun v => some (⟨a.1, b.1, v.1⟩, v.2)
def rdC (l : List Int) (i : Int) : Option (S50 × Int) := (rdN l i).bind fun a => (rdW l a.2).bind fun b => (rdN l b.2).bind fun v => some (⟨a.1, b.1, v.1⟩, v.2)
set_option maxHeartbeats 4000000 in
set_option maxRecDepth 100000 in
theorem rd_glob (B : Nat) (A : Option Addr) (c : Nat) (l : List Int) (i : Int) (w : World) (hb : RdB w B A l.length c i)
    (hr : ∀ W', Kept w W' (fun k => k = B) → Kd.C (Kd.int .u8) W' A l.length l) (hc : l.length ≤ c) (hbt : ∀ x ∈ l, 0 ≤ x ∧ x < 256) (hl : l.length ≤ 140737488355318) (h1 : 0 ≤ i) (h2 : i ≤ l.length) :
    Calls Tryd.prog 43 #[.pointer (some ⟨B, 0, none⟩)] w fun e w' => Rp w w' B A l.length c (rdG l i) (fun _ y u => u = .agg #[.int .i64 y.f0, .int .i64 y.f1, .int .i64 y.f2]) e := by
  obtain ⟨R, hR⟩ : ∃ R, R = rdG l i := ⟨_, rfl⟩
  rw [← hR]
  have HRR := Aside0.mk hR; have RB := Aside0.mk hb; have HC := Aside0.mk hr; have HCC := Aside0.mk hc; have HBT := Aside0.mk hbt; have HL := Aside0.mk hl; have HI := Aside0.mk (And.intro h1 h2)
  have HBw : Aside0 (B < w.heap.size) := ⟨blk_lt RB.out⟩
  have HK : Aside0 (Kp w w (fun k => k = B)) := ⟨Kp.refl _ _⟩
  clear hR hb hr hc hbt hl h1 h2
  go_enter Tryd.func43, Tryd.ntmps43
  go_wp2_with (first | ((with_reducible refine gate_dst (N := 2) rfl ?_); refine box_event ?hg (N := 2) ?hd (cs := #[.int .i64 0, .int .i64 0, .int .i64 0]) (t := 48) ?hr ?_; (case hd => rfl); (case hg => rfl); (case hr => first | (go_simp; done) | (go_simp; rfl)); intro g hg_ W1 hbox_ hb_; have GEg := Aside0.mk (by rw [hg_]; exact HK.out.1 : w.heap.size ≤ g); have NBg : Aside0 (g ≠ B) := ⟨(by rw [hg_]; exact Ne.symm (Nat.ne_of_lt (blk_lt RB.out)))⟩; clear hg_; have n_ := Aside0.mk (show RdB W1 B A l.length c i from blk_below RB.out hb_); clear RB; have RB := n_; clear n_; have n_ := Aside0.mk (Kp.below HK.out hb_); clear HK; have HK := n_; clear n_; have BKg := Aside0.mk hbox_; clear hbox_ hb_; have hcg_0 : W1.cell? ⟨g, 0, none⟩ = some (.int .i64 0) := (blk_cell BKg.out 0).trans rfl; have hfg_0 := blk_frozen BKg.out 0; have hcg_1 : W1.cell? ⟨g, 1, none⟩ = some (.int .i64 0) := (blk_cell BKg.out 1).trans rfl; have hfg_1 := blk_frozen BKg.out 1; have hcg_2 : W1.cell? ⟨g, 2, none⟩ = some (.int .i64 0) := (blk_cell BKg.out 2).trans rfl; have hfg_2 := blk_frozen BKg.out 2))
  refine (rd_nat B A c l i _ RB.out (HC.out _ HK.out.kept) HCC.out HBT.out HL.out (by have := HI.out; omega) (by have := HI.out; have := HL.out; omega)).mono ?_
  rintro e_ W2 ⟨hk_, h_⟩
  rcases hR0 : rdN l i with _ | ⟨x0, i1⟩
  · rw [hR0] at h_
    obtain ⟨m_, rfl⟩ := h_
    have HK2 := Aside0.mk (HK.out.then_ hk_ (fun _ h => .inl h)); have HX := Aside0.mk hR0
    clear hk_ hR0
    go_wp2
    rw [show R = none from HRR.out.trans (by simp only [rdG, HX.out, Option.bind_some, Option.bind_none])]
    exact ⟨rfl, HK2.out, m_, rfl⟩
  rw [hR0] at h_
  obtain ⟨⟨v0, rfl, hv0⟩, hb2_⟩ := h_
  obtain rfl := hv0
  have HX0 := Aside0.mk hR0; have n_ := Aside0.mk (rdN_rng HBT.out hR0); clear HI; have HI := n_; clear n_ hR0
  have n_ := Aside0.mk (blk_kept BKg.out hk_.kept NBg.out); clear BKg; have BKg := n_; clear n_
  clear hcg_0 hfg_0
  clear hcg_1 hfg_1
  clear hcg_2 hfg_2
  have n_ := Aside0.mk (HK.out.then_ hk_ (fun _ h => .inl h)); clear HK RB; have HK := n_; have RB := Aside0.mk hb2_; clear n_ hk_ hb2_
  have hcg_0 : W2.cell? ⟨g, 0, none⟩ = some (.int .i64 0) := (blk_cell BKg.out 0).trans rfl
  have hfg_0 := blk_frozen BKg.out 0
  have hcg_1 : W2.cell? ⟨g, 1, none⟩ = some (.int .i64 0) := (blk_cell BKg.out 1).trans rfl
  have hfg_1 := blk_frozen BKg.out 1
  have hcg_2 : W2.cell? ⟨g, 2, none⟩ = some (.int .i64 0) := (blk_cell BKg.out 2).trans rfl
  have hfg_2 := blk_frozen BKg.out 2
  go_wp2_with fail
  have n_ : Aside0 ((W2.setCell ⟨g, 0, none⟩ (.int .i64 x0)).heap[g]? = some (.cells #[.int .i64 x0, .int .i64 0, .int .i64 0] 48 (0, 0))) := ⟨by refine blk_put (cs := #[.int .i64 0, .int .i64 0, .int .i64 0]) ?_ 0 _ rfl; exact BKg.out⟩
  have m_ : Aside0 (RdB (W2.setCell ⟨g, 0, none⟩ (.int .i64 x0)) B A l.length c i1) := ⟨(blk_far RB.out NBg.out.symm _)⟩; have o_ : Aside0 (Kp w (W2.setCell ⟨g, 0, none⟩ (.int .i64 x0)) (fun k => k = B)) := ⟨(Kp.setCell (p := ⟨g, 0, none⟩) HK.out (.inr GEg.out) _)⟩
  clear BKg RB HK; have BKg := n_; have RB := m_; have HK := o_; clear n_ m_ o_
  clear hcg_0 hfg_0
  clear hcg_1 hfg_1
  clear hcg_2 hfg_2
  generalize (W2.setCell ⟨g, 0, none⟩ (.int .i64 x0)) = W3 at *
  have hcg_0 : W3.cell? ⟨g, 0, none⟩ = some (.int .i64 x0) := (blk_cell BKg.out 0).trans rfl
  have hfg_0 := blk_frozen BKg.out 0
  have hcg_1 : W3.cell? ⟨g, 1, none⟩ = some (.int .i64 0) := (blk_cell BKg.out 1).trans rfl
  have hfg_1 := blk_frozen BKg.out 1
  have hcg_2 : W3.cell? ⟨g, 2, none⟩ = some (.int .i64 0) := (blk_cell BKg.out 2).trans rfl
  have hfg_2 := blk_frozen BKg.out 2
  go_wp2_with fail
  refine (rd_nat B A c l i1 _ RB.out (HC.out _ HK.out.kept) HCC.out HBT.out HL.out (by have := HI.out; omega) (by have := HI.out; have := HL.out; omega)).mono ?_
  rintro e_ W4 ⟨hk_, h_⟩
  rcases hR1 : rdN l i1 with _ | ⟨x1, i2⟩
  · rw [hR1] at h_
    obtain ⟨m_, rfl⟩ := h_
    have HK2 := Aside0.mk (HK.out.then_ hk_ (fun _ h => .inl h)); have HX := Aside0.mk hR1
    clear hk_ hR1
    go_wp2
    rw [show R = none from HRR.out.trans (by simp only [rdG, HX0.out, HX.out, Option.bind_some, Option.bind_none])]
    exact ⟨rfl, HK2.out, m_, rfl⟩
  rw [hR1] at h_
  obtain ⟨⟨v1, rfl, hv1⟩, hb2_⟩ := h_
  obtain rfl := hv1
  have HX1 := Aside0.mk hR1; have n_ := Aside0.mk (rdN_rng HBT.out hR1); clear HI; have HI := n_; clear n_ hR1
  have n_ := Aside0.mk (blk_kept BKg.out hk_.kept NBg.out); clear BKg; have BKg := n_; clear n_
  clear hcg_0 hfg_0
  clear hcg_1 hfg_1
  clear hcg_2 hfg_2
  have n_ := Aside0.mk (HK.out.then_ hk_ (fun _ h => .inl h)); clear HK RB; have HK := n_; have RB := Aside0.mk hb2_; clear n_ hk_ hb2_
  have hcg_0 : W4.cell? ⟨g, 0, none⟩ = some (.int .i64 x0) := (blk_cell BKg.out 0).trans rfl
  have hfg_0 := blk_frozen BKg.out 0
  have hcg_1 : W4.cell? ⟨g, 1, none⟩ = some (.int .i64 0) := (blk_cell BKg.out 1).trans rfl
  have hfg_1 := blk_frozen BKg.out 1
  have hcg_2 : W4.cell? ⟨g, 2, none⟩ = some (.int .i64 0) := (blk_cell BKg.out 2).trans rfl
  have hfg_2 := blk_frozen BKg.out 2
  go_wp2_with fail
  have n_ : Aside0 ((W4.setCell ⟨g, 1, none⟩ (.int .i64 x1)).heap[g]? = some (.cells #[.int .i64 x0, .int .i64 x1, .int .i64 0] 48 (0, 0))) := ⟨by refine blk_put (cs := #[.int .i64 x0, .int .i64 0, .int .i64 0]) ?_ 1 _ rfl; exact BKg.out⟩
  have m_ : Aside0 (RdB (W4.setCell ⟨g, 1, none⟩ (.int .i64 x1)) B A l.length c i2) := ⟨(blk_far RB.out NBg.out.symm _)⟩; have o_ : Aside0 (Kp w (W4.setCell ⟨g, 1, none⟩ (.int .i64 x1)) (fun k => k = B)) := ⟨(Kp.setCell (p := ⟨g, 1, none⟩) HK.out (.inr GEg.out) _)⟩
  clear BKg RB HK; have BKg := n_; have RB := m_; have HK := o_; clear n_ m_ o_
  clear hcg_0 hfg_0
  clear hcg_1 hfg_1
  clear hcg_2 hfg_2
  generalize (W4.setCell ⟨g, 1, none⟩ (.int .i64 x1)) = W5 at *
  have hcg_0 : W5.cell? ⟨g, 0, none⟩ = some (.int .i64 x0) := (blk_cell BKg.out 0).trans rfl
  have hfg_0 := blk_frozen BKg.out 0
  have hcg_1 : W5.cell? ⟨g, 1, none⟩ = some (.int .i64 x1) := (blk_cell BKg.out 1).trans rfl
  have hfg_1 := blk_frozen BKg.out 1
  have hcg_2 : W5.cell? ⟨g, 2, none⟩ = some (.int .i64 0) := (blk_cell BKg.out 2).trans rfl
  have hfg_2 := blk_frozen BKg.out 2
  go_wp2_with fail
  refine (rd_whole B A c l i2 _ RB.out (HC.out _ HK.out.kept) HCC.out HBT.out HL.out (by have := HI.out; omega) (by have := HI.out; have := HL.out; omega)).mono ?_
  rintro e_ W6 ⟨hk_, h_⟩
  rcases hR2 : rdW l i2 with _ | ⟨x2, i3⟩
  · rw [hR2] at h_
    obtain ⟨m_, rfl⟩ := h_
    have HK2 := Aside0.mk (HK.out.then_ hk_ (fun _ h => .inl h)); have HX := Aside0.mk hR2
    clear hk_ hR2
    go_wp2
    rw [show R = none from HRR.out.trans (by simp only [rdG, HX0.out, HX1.out, HX.out, Option.bind_some, Option.bind_none])]
    exact ⟨rfl, HK2.out, m_, rfl⟩
  rw [hR2] at h_
  obtain ⟨⟨v2, rfl, hv2⟩, hb2_⟩ := h_
  obtain rfl := hv2
  have HX2 := Aside0.mk hR2; have n_ := Aside0.mk (rdW_rng HBT.out hR2); clear HI; have HI := n_; clear n_ hR2
  have n_ := Aside0.mk (blk_kept BKg.out hk_.kept NBg.out); clear BKg; have BKg := n_; clear n_
  clear hcg_0 hfg_0
  clear hcg_1 hfg_1
  clear hcg_2 hfg_2
  have n_ := Aside0.mk (HK.out.then_ hk_ (fun _ h => .inl h)); clear HK RB; have HK := n_; have RB := Aside0.mk hb2_; clear n_ hk_ hb2_
  have hcg_0 : W6.cell? ⟨g, 0, none⟩ = some (.int .i64 x0) := (blk_cell BKg.out 0).trans rfl
  have hfg_0 := blk_frozen BKg.out 0
  have hcg_1 : W6.cell? ⟨g, 1, none⟩ = some (.int .i64 x1) := (blk_cell BKg.out 1).trans rfl
  have hfg_1 := blk_frozen BKg.out 1
  have hcg_2 : W6.cell? ⟨g, 2, none⟩ = some (.int .i64 0) := (blk_cell BKg.out 2).trans rfl
  have hfg_2 := blk_frozen BKg.out 2
  go_wp2_with fail
  have n_ : Aside0 ((W6.setCell ⟨g, 2, none⟩ (.int .i64 x2)).heap[g]? = some (.cells #[.int .i64 x0, .int .i64 x1, .int .i64 x2] 48 (0, 0))) := ⟨by refine blk_put (cs := #[.int .i64 x0, .int .i64 x1, .int .i64 0]) ?_ 2 _ rfl; exact BKg.out⟩
  have m_ : Aside0 (RdB (W6.setCell ⟨g, 2, none⟩ (.int .i64 x2)) B A l.length c i3) := ⟨(blk_far RB.out NBg.out.symm _)⟩; have o_ : Aside0 (Kp w (W6.setCell ⟨g, 2, none⟩ (.int .i64 x2)) (fun k => k = B)) := ⟨(Kp.setCell (p := ⟨g, 2, none⟩) HK.out (.inr GEg.out) _)⟩
  clear BKg RB HK; have BKg := n_; have RB := m_; have HK := o_; clear n_ m_ o_
  clear hcg_0 hfg_0
  clear hcg_1 hfg_1
  clear hcg_2 hfg_2
  generalize (W6.setCell ⟨g, 2, none⟩ (.int .i64 x2)) = W7 at *
  have hcg_0 : W7.cell? ⟨g, 0, none⟩ = some (.int .i64 x0) := (blk_cell BKg.out 0).trans rfl
  have hfg_0 := blk_frozen BKg.out 0
  have hcg_1 : W7.cell? ⟨g, 1, none⟩ = some (.int .i64 x1) := (blk_cell BKg.out 1).trans rfl
  have hfg_1 := blk_frozen BKg.out 1
  have hcg_2 : W7.cell? ⟨g, 2, none⟩ = some (.int .i64 x2) := (blk_cell BKg.out 2).trans rfl
  have hfg_2 := blk_frozen BKg.out 2
  go_wp2_with fail
  have n_ : Aside0 ((((W7.setCell ⟨g, 0, none⟩ (.int .i64 x0)).setCell ⟨g, 1, none⟩ (.int .i64 x1)).setCell ⟨g, 2, none⟩ (.int .i64 x2)).heap[g]? = some (.cells #[.int .i64 x0, .int .i64 x1, .int .i64 x2] 48 (0, 0))) := ⟨by refine blk_put (cs := #[.int .i64 x0, .int .i64 x1, .int .i64 x2]) ?_ 2 _ rfl; refine blk_put (cs := #[.int .i64 x0, .int .i64 x1, .int .i64 x2]) ?_ 1 _ rfl; refine blk_put (cs := #[.int .i64 x0, .int .i64 x1, .int .i64 x2]) ?_ 0 _ rfl; exact BKg.out⟩
  have m_ : Aside0 (RdB (((W7.setCell ⟨g, 0, none⟩ (.int .i64 x0)).setCell ⟨g, 1, none⟩ (.int .i64 x1)).setCell ⟨g, 2, none⟩ (.int .i64 x2)) B A l.length c i3) := ⟨(blk_far (blk_far (blk_far RB.out NBg.out.symm _) NBg.out.symm _) NBg.out.symm _)⟩; have o_ : Aside0 (Kp w (((W7.setCell ⟨g, 0, none⟩ (.int .i64 x0)).setCell ⟨g, 1, none⟩ (.int .i64 x1)).setCell ⟨g, 2, none⟩ (.int .i64 x2)) (fun k => k = B)) := ⟨(Kp.setCell (p := ⟨g, 2, none⟩) (Kp.setCell (p := ⟨g, 1, none⟩) (Kp.setCell (p := ⟨g, 0, none⟩) HK.out (.inr GEg.out) _) (.inr GEg.out) _) (.inr GEg.out) _)⟩
  clear BKg RB HK; have BKg := n_; have RB := m_; have HK := o_; clear n_ m_ o_
  clear hcg_0 hfg_0
  clear hcg_1 hfg_1
  clear hcg_2 hfg_2
  generalize (((W7.setCell ⟨g, 0, none⟩ (.int .i64 x0)).setCell ⟨g, 1, none⟩ (.int .i64 x1)).setCell ⟨g, 2, none⟩ (.int .i64 x2)) = W8 at *
  have hcg_0 : W8.cell? ⟨g, 0, none⟩ = some (.int .i64 x0) := (blk_cell BKg.out 0).trans rfl
  have hfg_0 := blk_frozen BKg.out 0
  have hcg_1 : W8.cell? ⟨g, 1, none⟩ = some (.int .i64 x1) := (blk_cell BKg.out 1).trans rfl
  have hfg_1 := blk_frozen BKg.out 1
  have hcg_2 : W8.cell? ⟨g, 2, none⟩ = some (.int .i64 x2) := (blk_cell BKg.out 2).trans rfl
  have hfg_2 := blk_frozen BKg.out 2
  refine bodyPost_ret (results_cell_row rfl _ _ g 48 #[.int .i64 x0, .int .i64 x1, .int .i64 x2] (0, 0) _ rfl BKg.out Tryd.underlying48 rfl (by kernel_rfl)) rfl ?_
  rw [show R = some (⟨x0, x1, x2⟩, i3) from HRR.out.trans (by simp only [rdG, Option.bind_some, HX0.out, HX1.out, HX2.out])]
  exact ⟨HK.out, ⟨_, rfl, rfl⟩, RB.out⟩
set_option maxHeartbeats 4000000 in
set_option maxRecDepth 100000 in
theorem rd_instr (B : Nat) (A : Option Addr) (c : Nat) (l : List Int) (i : Int) (w : World) (hb : RdB w B A l.length c i)
    (hr : ∀ W', Kept w W' (fun k => k = B) → Kd.C (Kd.int .u8) W' A l.length l) (hc : l.length ≤ c) (hbt : ∀ x ∈ l, 0 ≤ x ∧ x < 256) (hl : l.length ≤ 140737488355318) (h1 : 0 ≤ i) (h2 : i ≤ l.length) :
    Calls Tryd.prog 74 #[.pointer (some ⟨B, 0, none⟩)] w fun e w' => Rp w w' B A l.length c (rdC l i) (fun _ y u => u = .agg #[.int .i64 y.f0, .int .i64 y.f1, .int .i64 y.f2]) e := by
  obtain ⟨R, hR⟩ : ∃ R, R = rdC l i := ⟨_, rfl⟩
  rw [← hR]
  have HRR := Aside0.mk hR; have RB := Aside0.mk hb; have HC := Aside0.mk hr; have HCC := Aside0.mk hc; have HBT := Aside0.mk hbt; have HL := Aside0.mk hl; have HI := Aside0.mk (And.intro h1 h2)
  have HBw : Aside0 (B < w.heap.size) := ⟨blk_lt RB.out⟩
  have HK : Aside0 (Kp w w (fun k => k = B)) := ⟨Kp.refl _ _⟩
  clear hR hb hr hc hbt hl h1 h2
  go_enter Tryd.func74, Tryd.ntmps74
  go_wp2_with (first | ((with_reducible refine gate_dst (N := 2) rfl ?_); refine box_event ?hg (N := 2) ?hd (cs := #[.int .i64 0, .int .i64 0, .int .i64 0]) (t := 50) ?hr ?_; (case hd => rfl); (case hg => rfl); (case hr => first | (go_simp; done) | (go_simp; rfl)); intro g hg_ W1 hbox_ hb_; have GEg := Aside0.mk (by rw [hg_]; exact HK.out.1 : w.heap.size ≤ g); have NBg : Aside0 (g ≠ B) := ⟨(by rw [hg_]; exact Ne.symm (Nat.ne_of_lt (blk_lt RB.out)))⟩; clear hg_; have n_ := Aside0.mk (show RdB W1 B A l.length c i from blk_below RB.out hb_); clear RB; have RB := n_; clear n_; have n_ := Aside0.mk (Kp.below HK.out hb_); clear HK; have HK := n_; clear n_; have BKg := Aside0.mk hbox_; clear hbox_ hb_; have hcg_0 : W1.cell? ⟨g, 0, none⟩ = some (.int .i64 0) := (blk_cell BKg.out 0).trans rfl; have hfg_0 := blk_frozen BKg.out 0; have hcg_1 : W1.cell? ⟨g, 1, none⟩ = some (.int .i64 0) := (blk_cell BKg.out 1).trans rfl; have hfg_1 := blk_frozen BKg.out 1; have hcg_2 : W1.cell? ⟨g, 2, none⟩ = some (.int .i64 0) := (blk_cell BKg.out 2).trans rfl; have hfg_2 := blk_frozen BKg.out 2))
  refine (rd_nat B A c l i _ RB.out (HC.out _ HK.out.kept) HCC.out HBT.out HL.out (by have := HI.out; omega) (by have := HI.out; have := HL.out; omega)).mono ?_
  rintro e_ W2 ⟨hk_, h_⟩
  rcases hR0 : rdN l i with _ | ⟨x0, i1⟩
  · rw [hR0] at h_
    obtain ⟨m_, rfl⟩ := h_
    have HK2 := Aside0.mk (HK.out.then_ hk_ (fun _ h => .inl h)); have HX := Aside0.mk hR0
    clear hk_ hR0
    go_wp2
    rw [show R = none from HRR.out.trans (by simp only [rdC, HX.out, Option.bind_some, Option.bind_none])]
    exact ⟨rfl, HK2.out, m_, rfl⟩
  rw [hR0] at h_
  obtain ⟨⟨v0, rfl, hv0⟩, hb2_⟩ := h_
  obtain rfl := hv0
  have HX0 := Aside0.mk hR0; have n_ := Aside0.mk (rdN_rng HBT.out hR0); clear HI; have HI := n_; clear n_ hR0
  have n_ := Aside0.mk (blk_kept BKg.out hk_.kept NBg.out); clear BKg; have BKg := n_; clear n_
  clear hcg_0 hfg_0
  clear hcg_1 hfg_1
  clear hcg_2 hfg_2
  have n_ := Aside0.mk (HK.out.then_ hk_ (fun _ h => .inl h)); clear HK RB; have HK := n_; have RB := Aside0.mk hb2_; clear n_ hk_ hb2_
  have hcg_0 : W2.cell? ⟨g, 0, none⟩ = some (.int .i64 0) := (blk_cell BKg.out 0).trans rfl
  have hfg_0 := blk_frozen BKg.out 0
  have hcg_1 : W2.cell? ⟨g, 1, none⟩ = some (.int .i64 0) := (blk_cell BKg.out 1).trans rfl
  have hfg_1 := blk_frozen BKg.out 1
  have hcg_2 : W2.cell? ⟨g, 2, none⟩ = some (.int .i64 0) := (blk_cell BKg.out 2).trans rfl
  have hfg_2 := blk_frozen BKg.out 2
  go_wp2_with fail
  have n_ : Aside0 ((W2.setCell ⟨g, 0, none⟩ (.int .i64 x0)).heap[g]? = some (.cells #[.int .i64 x0, .int .i64 0, .int .i64 0] 50 (0, 0))) := ⟨by refine blk_put (cs := #[.int .i64 0, .int .i64 0, .int .i64 0]) ?_ 0 _ rfl; exact BKg.out⟩
  have m_ : Aside0 (RdB (W2.setCell ⟨g, 0, none⟩ (.int .i64 x0)) B A l.length c i1) := ⟨(blk_far RB.out NBg.out.symm _)⟩; have o_ : Aside0 (Kp w (W2.setCell ⟨g, 0, none⟩ (.int .i64 x0)) (fun k => k = B)) := ⟨(Kp.setCell (p := ⟨g, 0, none⟩) HK.out (.inr GEg.out) _)⟩
  clear BKg RB HK; have BKg := n_; have RB := m_; have HK := o_; clear n_ m_ o_
  clear hcg_0 hfg_0
  clear hcg_1 hfg_1
  clear hcg_2 hfg_2
  generalize (W2.setCell ⟨g, 0, none⟩ (.int .i64 x0)) = W3 at *
  have hcg_0 : W3.cell? ⟨g, 0, none⟩ = some (.int .i64 x0) := (blk_cell BKg.out 0).trans rfl
  have hfg_0 := blk_frozen BKg.out 0
  have hcg_1 : W3.cell? ⟨g, 1, none⟩ = some (.int .i64 0) := (blk_cell BKg.out 1).trans rfl
  have hfg_1 := blk_frozen BKg.out 1
  have hcg_2 : W3.cell? ⟨g, 2, none⟩ = some (.int .i64 0) := (blk_cell BKg.out 2).trans rfl
  have hfg_2 := blk_frozen BKg.out 2
  go_wp2_with fail
  refine (rd_whole B A c l i1 _ RB.out (HC.out _ HK.out.kept) HCC.out HBT.out HL.out (by have := HI.out; omega) (by have := HI.out; have := HL.out; omega)).mono ?_
  rintro e_ W4 ⟨hk_, h_⟩
  rcases hR1 : rdW l i1 with _ | ⟨x1, i2⟩
  · rw [hR1] at h_
    obtain ⟨m_, rfl⟩ := h_
    have HK2 := Aside0.mk (HK.out.then_ hk_ (fun _ h => .inl h)); have HX := Aside0.mk hR1
    clear hk_ hR1
    go_wp2
    rw [show R = none from HRR.out.trans (by simp only [rdC, HX0.out, HX.out, Option.bind_some, Option.bind_none])]
    exact ⟨rfl, HK2.out, m_, rfl⟩
  rw [hR1] at h_
  obtain ⟨⟨v1, rfl, hv1⟩, hb2_⟩ := h_
  obtain rfl := hv1
  have HX1 := Aside0.mk hR1; have n_ := Aside0.mk (rdW_rng HBT.out hR1); clear HI; have HI := n_; clear n_ hR1
  have n_ := Aside0.mk (blk_kept BKg.out hk_.kept NBg.out); clear BKg; have BKg := n_; clear n_
  clear hcg_0 hfg_0
  clear hcg_1 hfg_1
  clear hcg_2 hfg_2
  have n_ := Aside0.mk (HK.out.then_ hk_ (fun _ h => .inl h)); clear HK RB; have HK := n_; have RB := Aside0.mk hb2_; clear n_ hk_ hb2_
  have hcg_0 : W4.cell? ⟨g, 0, none⟩ = some (.int .i64 x0) := (blk_cell BKg.out 0).trans rfl
  have hfg_0 := blk_frozen BKg.out 0
  have hcg_1 : W4.cell? ⟨g, 1, none⟩ = some (.int .i64 0) := (blk_cell BKg.out 1).trans rfl
  have hfg_1 := blk_frozen BKg.out 1
  have hcg_2 : W4.cell? ⟨g, 2, none⟩ = some (.int .i64 0) := (blk_cell BKg.out 2).trans rfl
  have hfg_2 := blk_frozen BKg.out 2
  go_wp2_with fail
  have n_ : Aside0 ((W4.setCell ⟨g, 1, none⟩ (.int .i64 x1)).heap[g]? = some (.cells #[.int .i64 x0, .int .i64 x1, .int .i64 0] 50 (0, 0))) := ⟨by refine blk_put (cs := #[.int .i64 x0, .int .i64 0, .int .i64 0]) ?_ 1 _ rfl; exact BKg.out⟩
  have m_ : Aside0 (RdB (W4.setCell ⟨g, 1, none⟩ (.int .i64 x1)) B A l.length c i2) := ⟨(blk_far RB.out NBg.out.symm _)⟩; have o_ : Aside0 (Kp w (W4.setCell ⟨g, 1, none⟩ (.int .i64 x1)) (fun k => k = B)) := ⟨(Kp.setCell (p := ⟨g, 1, none⟩) HK.out (.inr GEg.out) _)⟩
  clear BKg RB HK; have BKg := n_; have RB := m_; have HK := o_; clear n_ m_ o_
  clear hcg_0 hfg_0
  clear hcg_1 hfg_1
  clear hcg_2 hfg_2
  generalize (W4.setCell ⟨g, 1, none⟩ (.int .i64 x1)) = W5 at *
  have hcg_0 : W5.cell? ⟨g, 0, none⟩ = some (.int .i64 x0) := (blk_cell BKg.out 0).trans rfl
  have hfg_0 := blk_frozen BKg.out 0
  have hcg_1 : W5.cell? ⟨g, 1, none⟩ = some (.int .i64 x1) := (blk_cell BKg.out 1).trans rfl
  have hfg_1 := blk_frozen BKg.out 1
  have hcg_2 : W5.cell? ⟨g, 2, none⟩ = some (.int .i64 0) := (blk_cell BKg.out 2).trans rfl
  have hfg_2 := blk_frozen BKg.out 2
  go_wp2_with fail
  refine (rd_nat B A c l i2 _ RB.out (HC.out _ HK.out.kept) HCC.out HBT.out HL.out (by have := HI.out; omega) (by have := HI.out; have := HL.out; omega)).mono ?_
  rintro e_ W6 ⟨hk_, h_⟩
  rcases hR2 : rdN l i2 with _ | ⟨x2, i3⟩
  · rw [hR2] at h_
    obtain ⟨m_, rfl⟩ := h_
    have HK2 := Aside0.mk (HK.out.then_ hk_ (fun _ h => .inl h)); have HX := Aside0.mk hR2
    clear hk_ hR2
    go_wp2
    rw [show R = none from HRR.out.trans (by simp only [rdC, HX0.out, HX1.out, HX.out, Option.bind_some, Option.bind_none])]
    exact ⟨rfl, HK2.out, m_, rfl⟩
  rw [hR2] at h_
  obtain ⟨⟨v2, rfl, hv2⟩, hb2_⟩ := h_
  obtain rfl := hv2
  have HX2 := Aside0.mk hR2; have n_ := Aside0.mk (rdN_rng HBT.out hR2); clear HI; have HI := n_; clear n_ hR2
  have n_ := Aside0.mk (blk_kept BKg.out hk_.kept NBg.out); clear BKg; have BKg := n_; clear n_
  clear hcg_0 hfg_0
  clear hcg_1 hfg_1
  clear hcg_2 hfg_2
  have n_ := Aside0.mk (HK.out.then_ hk_ (fun _ h => .inl h)); clear HK RB; have HK := n_; have RB := Aside0.mk hb2_; clear n_ hk_ hb2_
  have hcg_0 : W6.cell? ⟨g, 0, none⟩ = some (.int .i64 x0) := (blk_cell BKg.out 0).trans rfl
  have hfg_0 := blk_frozen BKg.out 0
  have hcg_1 : W6.cell? ⟨g, 1, none⟩ = some (.int .i64 x1) := (blk_cell BKg.out 1).trans rfl
  have hfg_1 := blk_frozen BKg.out 1
  have hcg_2 : W6.cell? ⟨g, 2, none⟩ = some (.int .i64 0) := (blk_cell BKg.out 2).trans rfl
  have hfg_2 := blk_frozen BKg.out 2
  go_wp2_with fail
  have n_ : Aside0 ((W6.setCell ⟨g, 2, none⟩ (.int .i64 x2)).heap[g]? = some (.cells #[.int .i64 x0, .int .i64 x1, .int .i64 x2] 50 (0, 0))) := ⟨by refine blk_put (cs := #[.int .i64 x0, .int .i64 x1, .int .i64 0]) ?_ 2 _ rfl; exact BKg.out⟩
  have m_ : Aside0 (RdB (W6.setCell ⟨g, 2, none⟩ (.int .i64 x2)) B A l.length c i3) := ⟨(blk_far RB.out NBg.out.symm _)⟩; have o_ : Aside0 (Kp w (W6.setCell ⟨g, 2, none⟩ (.int .i64 x2)) (fun k => k = B)) := ⟨(Kp.setCell (p := ⟨g, 2, none⟩) HK.out (.inr GEg.out) _)⟩
  clear BKg RB HK; have BKg := n_; have RB := m_; have HK := o_; clear n_ m_ o_
  clear hcg_0 hfg_0
  clear hcg_1 hfg_1
  clear hcg_2 hfg_2
  generalize (W6.setCell ⟨g, 2, none⟩ (.int .i64 x2)) = W7 at *
  have hcg_0 : W7.cell? ⟨g, 0, none⟩ = some (.int .i64 x0) := (blk_cell BKg.out 0).trans rfl
  have hfg_0 := blk_frozen BKg.out 0
  have hcg_1 : W7.cell? ⟨g, 1, none⟩ = some (.int .i64 x1) := (blk_cell BKg.out 1).trans rfl
  have hfg_1 := blk_frozen BKg.out 1
  have hcg_2 : W7.cell? ⟨g, 2, none⟩ = some (.int .i64 x2) := (blk_cell BKg.out 2).trans rfl
  have hfg_2 := blk_frozen BKg.out 2
  go_wp2_with fail
  have n_ : Aside0 ((((W7.setCell ⟨g, 0, none⟩ (.int .i64 x0)).setCell ⟨g, 1, none⟩ (.int .i64 x1)).setCell ⟨g, 2, none⟩ (.int .i64 x2)).heap[g]? = some (.cells #[.int .i64 x0, .int .i64 x1, .int .i64 x2] 50 (0, 0))) := ⟨by refine blk_put (cs := #[.int .i64 x0, .int .i64 x1, .int .i64 x2]) ?_ 2 _ rfl; refine blk_put (cs := #[.int .i64 x0, .int .i64 x1, .int .i64 x2]) ?_ 1 _ rfl; refine blk_put (cs := #[.int .i64 x0, .int .i64 x1, .int .i64 x2]) ?_ 0 _ rfl; exact BKg.out⟩
  have m_ : Aside0 (RdB (((W7.setCell ⟨g, 0, none⟩ (.int .i64 x0)).setCell ⟨g, 1, none⟩ (.int .i64 x1)).setCell ⟨g, 2, none⟩ (.int .i64 x2)) B A l.length c i3) := ⟨(blk_far (blk_far (blk_far RB.out NBg.out.symm _) NBg.out.symm _) NBg.out.symm _)⟩; have o_ : Aside0 (Kp w (((W7.setCell ⟨g, 0, none⟩ (.int .i64 x0)).setCell ⟨g, 1, none⟩ (.int .i64 x1)).setCell ⟨g, 2, none⟩ (.int .i64 x2)) (fun k => k = B)) := ⟨(Kp.setCell (p := ⟨g, 2, none⟩) (Kp.setCell (p := ⟨g, 1, none⟩) (Kp.setCell (p := ⟨g, 0, none⟩) HK.out (.inr GEg.out) _) (.inr GEg.out) _) (.inr GEg.out) _)⟩
  clear BKg RB HK; have BKg := n_; have RB := m_; have HK := o_; clear n_ m_ o_
  clear hcg_0 hfg_0
  clear hcg_1 hfg_1
  clear hcg_2 hfg_2
  generalize (((W7.setCell ⟨g, 0, none⟩ (.int .i64 x0)).setCell ⟨g, 1, none⟩ (.int .i64 x1)).setCell ⟨g, 2, none⟩ (.int .i64 x2)) = W8 at *
  have hcg_0 : W8.cell? ⟨g, 0, none⟩ = some (.int .i64 x0) := (blk_cell BKg.out 0).trans rfl
  have hfg_0 := blk_frozen BKg.out 0
  have hcg_1 : W8.cell? ⟨g, 1, none⟩ = some (.int .i64 x1) := (blk_cell BKg.out 1).trans rfl
  have hfg_1 := blk_frozen BKg.out 1
  have hcg_2 : W8.cell? ⟨g, 2, none⟩ = some (.int .i64 x2) := (blk_cell BKg.out 2).trans rfl
  have hfg_2 := blk_frozen BKg.out 2
  refine bodyPost_ret (results_cell_row rfl _ _ g 50 #[.int .i64 x0, .int .i64 x1, .int .i64 x2] (0, 0) _ rfl BKg.out Tryd.underlying50 rfl (by kernel_rfl)) rfl ?_
  rw [show R = some (⟨x0, x1, x2⟩, i3) from HRR.out.trans (by simp only [rdC, Option.bind_some, HX0.out, HX1.out, HX2.out])]
  exact ⟨HK.out, ⟨_, rfl, rfl⟩, RB.out⟩
end Go.Proofs.YteidgpaakoeefaaDoor
namespace Go.Proofs.YteidgpaakoeefaaDoor
open Go.RowKit Go.Proofs.YteidgpaakoeefaaDoorW.PrintWords Go.Proofs.YteidgpaakoeefaaDoorW.PrintLast Go.Proofs.YteidgpaakoeefaaDoorW.PrintMore
set_option linter.unusedVariables false
set_option linter.unusedSimpArgs false
open PIm
def rdRow {α : Type} (one : Int → Option (α × Int)) : Nat → Int → Option (List α × Int)
  | 0, i => some ([], i)
  | n + 1, i => (one i).bind fun a => (rdRow one n a.2).bind fun b => some (a.1 :: b.1, b.2)
def rdRows {α : Type} (one : Int → Option (α × Int)) (most : Int) (l : List Int) (i : Int) : Option (List α × Int) :=
  (rdN l i).bind fun a => if most < a.1 then none else rdRow one a.1.toNat a.2
theorem rdN_val {l : List Int} {i x j : Int} (hb : ∀ x ∈ l, 0 ≤ x ∧ x < 256) (h : rdN l i = some (x, j)) : 0 ≤ x ∧ x ≤ 9223372036854775807 := by
  have hr := tk_range l i 9 (by decide) (by decide) hb
  rw [show ((128 ^ (9 : Int).toNat : Nat) : Int) = 9223372036854775808 by decide] at hr
  unfold rdN at h
  split at h
  · injection h with h; injection h with h1 h2; subst h1; exact ⟨hr.1, by have := hr.2.1; omega⟩
  · cases h
theorem rdG_rng {l : List Int} {i j : Int} {x : S48} (hb : ∀ x ∈ l, 0 ≤ x ∧ x < 256) (h : rdG l i = some (x, j)) : 0 ≤ j ∧ j ≤ (l.length : Int) := by
  unfold rdG at h
  rcases h1 : rdN l i with _ | ⟨a, i1⟩
  · rw [h1] at h; cases h
  rw [h1, Option.bind_some] at h
  rcases h2 : rdN l i1 with _ | ⟨b, i2⟩
  · rw [h2] at h; cases h
  rw [h2, Option.bind_some] at h
  rcases h3 : rdW l i2 with _ | ⟨c, i3⟩
  · rw [h3] at h; cases h
  rw [h3, Option.bind_some] at h
  injection h with h; injection h with _ h
  rw [← h]; exact rdW_rng hb h3
theorem rdC_rng {l : List Int} {i j : Int} {x : S50} (hb : ∀ x ∈ l, 0 ≤ x ∧ x < 256) (h : rdC l i = some (x, j)) : 0 ≤ j ∧ j ≤ (l.length : Int) := by
  unfold rdC at h
  rcases h1 : rdN l i with _ | ⟨a, i1⟩
  · rw [h1] at h; cases h
  rw [h1, Option.bind_some] at h
  rcases h2 : rdW l i1 with _ | ⟨b, i2⟩
  · rw [h2] at h; cases h
  rw [h2, Option.bind_some] at h
  rcases h3 : rdN l i2 with _ | ⟨c, i3⟩
  · rw [h3] at h; cases h
  rw [h3, Option.bind_some] at h
  injection h with h; injection h with _ h
  rw [← h]; exact rdN_rng hb h3
theorem rdRow_rng {α : Type} {one : Int → Option (α × Int)} {L : Int} (ho : ∀ i x j, 0 ≤ i ∧ i ≤ L → one i = some (x, j) → 0 ≤ j ∧ j ≤ L) : ∀ (n : Nat) (i : Int) (r : List α) (j : Int), 0 ≤ i ∧ i ≤ L → rdRow one n i = some (r, j) → 0 ≤ j ∧ j ≤ L
  | 0, i, r, j, hi, h => by
    unfold rdRow at h; injection h with h; injection h with _ h; rw [← h]; exact hi
  | n + 1, i, r, j, hi, h => by
    unfold rdRow at h
    rcases h1 : one i with _ | ⟨a, i1⟩
    · rw [h1] at h; cases h
    rw [h1, Option.bind_some] at h
    rcases h2 : rdRow one n i1 with _ | ⟨b, i2⟩
    · rw [h2] at h; cases h
    rw [h2, Option.bind_some] at h
    injection h with h; injection h with _ h
    rw [← h]; exact rdRow_rng ho n i1 b i2 (ho _ _ _ hi h1) h2
theorem rdRows_rng {α : Type} {one : Int → Option (α × Int)} {most : Int} {l : List Int} {i : Int} {r : List α} {j : Int} (hb : ∀ x ∈ l, 0 ≤ x ∧ x < 256)
    (ho : ∀ i x j, 0 ≤ i ∧ i ≤ (l.length : Int) → one i = some (x, j) → 0 ≤ j ∧ j ≤ (l.length : Int)) (h : rdRows one most l i = some (r, j)) : 0 ≤ j ∧ j ≤ (l.length : Int) := by
  unfold rdRows at h
  rcases h1 : rdN l i with _ | ⟨a, i1⟩
  · rw [h1] at h; cases h
  rw [h1, Option.bind_some] at h
  split at h
  · cases h
  · exact rdRow_rng ho _ _ _ _ (rdN_rng hb h1) h
theorem w64_succ (k : Nat) (h : (k : Int) + 1 ≤ 9223372036854775807) : wrap64 ((k : Int) + 1) = ((k + 1 : Nat) : Int) := by simp only [wrap64]; omega
set_option maxHeartbeats 4000000 in
set_option maxRecDepth 100000 in
theorem rd_rows_int (B : Nat) (A : Option Addr) (c : Nat) (l : List Int) (i most : Int) (w : World) (hm : 0 ≤ most ∧ most ≤ 32768) (hb : RdB w B A l.length c i)
    (hr : ∀ W', Kept w W' (fun k => k = B) → Kd.C (Kd.int .u8) W' A l.length l) (hc : l.length ≤ c) (hbt : ∀ x ∈ l, 0 ≤ x ∧ x < 256) (hl : l.length ≤ 140737488355318) (h1 : 0 ≤ i) (h2 : i ≤ l.length) :
    Calls Tryd.prog 71 #[.pointer (some ⟨B, 0, none⟩), .int .i64 most, .func (.func 68) #[.pointer (some ⟨B, 0, none⟩)] #[]] w fun e w' => Rp w w' B A l.length c (rdRows (rdN l) most l i) (fun W y u => Kd.R (Kd.int .i64) 3 W w.heap.size (fun k => w.heap.size ≤ k) u y) e := by
  obtain ⟨R, hR⟩ : ∃ R, R = rdRows (rdN l) most l i := ⟨_, rfl⟩
  rw [← hR]
  have HRR := Aside0.mk hR; have RB := Aside0.mk hb; have HC := Aside0.mk hr; have HCC := Aside0.mk hc; have HBT := Aside0.mk hbt; have HL := Aside0.mk hl; have HI := Aside0.mk (And.intro h1 h2); have HM := Aside0.mk hm
  have HBw : Aside0 (B < w.heap.size) := ⟨blk_lt hb⟩
  have hcall := rd_nat B A c l i w hb (hr w (Kept.refl _ _)) hc hbt hl (by omega) (by omega)
  clear hR hb hr hc hbt hl h1 h2 hm
  go_enter Tryd.func71, Tryd.ntmps71
  go_wp2_with fail
  refine hcall.mono ?_
  clear hcall
  rintro e_ W1 ⟨hk_, h_⟩
  rcases hR0 : rdN l i with _ | ⟨n, i0⟩
  · rw [hR0] at h_
    obtain ⟨m_, rfl⟩ := h_
    have HK2 := Aside0.mk hk_; have HX := Aside0.mk hR0
    clear hk_ hR0
    go_wp2
    rw [show R = none from HRR.out.trans (by simp only [rdRows, Option.bind_none, HX.out])]
    exact ⟨rfl, HK2.out, m_, rfl⟩
  rw [hR0] at h_
  obtain ⟨⟨v0, rfl, hv0⟩, hb2_⟩ := h_
  obtain rfl := hv0
  have HX0 := Aside0.mk hR0; have HI0 := Aside0.mk (rdN_rng HBT.out hR0); have HN := Aside0.mk (rdN_val HBT.out hR0); have RB1 := Aside0.mk hb2_; have HK1 := Aside0.mk hk_
  clear hR0 hb2_ hk_ HI RB
  by_cases hlt : most < n
  · have d1 : decide (most < n) = true := decide_eq_true hlt
    have HLT := Aside0.mk hlt
    clear hlt
    go_wp2
    rw [show R = none from HRR.out.trans (by simp only [rdRows, Option.bind_some, HX0.out]; rw [if_pos HLT.out])]
    exact ⟨rfl, HK1.out, _, rfl⟩
  have d1 : decide (most < n) = false := decide_eq_false hlt
  have HR2 : Aside0 (R = rdRow (rdN l) n.toNat i0) := ⟨HRR.out.trans (by simp only [rdRows, Option.bind_some, HX0.out]; rw [if_neg hlt])⟩
  have HLT := Aside0.mk hlt
  clear hlt HRR HX0
  go_wp2_with fail
  go_loopw [8, 16] (fun vb vi wr => ∃ (k : Nat) (done : List Int) (ik : Int), vi = .int .i64 k ∧ Aside0 (k ≤ n.toNat ∧ done.length = k) ∧ Aside0 (R = (rdRow (rdN l) (n.toNat - k) ik).map fun b => (done ++ b.1, b.2)) ∧ Aside0 (0 ≤ ik ∧ ik ≤ (l.length : Int)) ∧ Aside0 (Kd.R (Kd.int .i64) 3 wr w.heap.size (fun k_ => w.heap.size ≤ k_) vb done) ∧ Aside0 (RdB wr B A l.length c ik) ∧ Aside0 (Kp w wr (fun k_ => k_ = B))) (fun _ v _ => n.toNat - (intOf v).toNat)
  case atStart => exact ⟨0, [], i0, rfl, ⟨Nat.zero_le _, rfl⟩, ⟨HR2.out.trans (by simp)⟩, HI0, ⟨Kd.R_nil _ _ _ _ _⟩, RB1, HK1⟩
  case round =>
    obtain ⟨k, done, ik, rfl, HKN, HRk, HIr, HO, RBr, HKr⟩ := hrel
    have hk := HKN.out
    have hnn := HN.out
    by_cases hlt : k < n.toNat
    · have z1 : decide ((k : Int) < n) = true := decide_eq_true (by omega)
      have HLT := Aside0.mk hlt
      have hcall := (rd_nat B A c l ik wr RBr.out (HC.out _ HKr.out.kept) HCC.out HBT.out HL.out (by have := HIr.out; omega) (by have := HIr.out; have := HL.out; omega))
      have HLT2 := Aside0.mk (fun k_ => own_lt (Kd.R_own HO.out).choose_spec k_)
      obtain ⟨Ao_, co_, hvo_⟩ := Kd.R_slice HO.out
      subst hvo_
      clear hlt hk hnn
      go_wp2_with fail
      refine hcall.mono ?_
      clear hcall
      rintro e_ W2 ⟨hk_, h_⟩
      rcases hR1 : rdN l ik with _ | ⟨x, i2⟩
      · rw [hR1] at h_
        obtain ⟨m_, rfl⟩ := h_
        have HK2 := Aside0.mk (HKr.out.then_ hk_ (fun _ h => .inl h)); have HX := Aside0.mk hR1
        clear hk_ hR1
        go_wp2
        rw [show R = none from (by
          have e1 := HRk.out
          rw [show n.toNat - k = (n.toNat - (k + 1)) + 1 by have := HLT.out; omega, rdRow, HX.out] at e1
          exact e1)]
        exact ⟨rfl, HK2.out, m_, rfl⟩
      rw [hR1] at h_
      obtain ⟨⟨v0, rfl, hv0⟩, hb2_⟩ := h_
      obtain rfl := hv0
      skip
      have HX1 := Aside0.mk hR1; have HI2 := Aside0.mk (rdN_rng HBT.out hR1); have RB2 := Aside0.mk hb2_; have HK2 := Aside0.mk (HKr.out.then_ hk_ (fun _ h => .inl h))
      have HO2 := Aside0.mk (Kd.R_kept HO.out hk_.kept (fun k_ h_ e_ => by have := HBw.out; omega))
      have HB2 := Aside0.mk hk_.1
      clear hR1 hb2_ hk_
      go_wp2_with (((with_reducible refine gate_builtin (b := .append) (xs := #[.tmp 18, .tmp 21]) rfl ?_); at_builtin; refine Kd.R_append (Kd.int .i64) (w0 := W2) w.heap.size rfl (.tmp 18) (.tmp 21) 52 3 (.int .i64 0) 8 rfl Tryd.underlying52 info3 rfl (by decide) (by omega) (.slice Ao_ done.length co_) done x [.int .i64 x] (fun k_ => w.heap.size ≤ k_) (fun _ => False) rfl rfl ?aP ?aK ?aF ?aO ?aB ?aS ?aL ?_; (case aP => exact rfl); (case aK => exact fun _ h => h.elim); (case aF => exact fun k_ h_ => Nat.le_trans HK2.out.1 h_); (case aO => exact HO2.out); (case aB => exact Below.refl _ _); (case aS => exact HK2.out.1); (case aL => have h1_ := HKN.out; have h2_ := HLT.out; have h3_ := HM.out; have h4_ := HN.out; have h5_ : ¬ most < n := of_decide_eq_false d1; omega); intro v1 w1 hR1 hb1 hg1 hat1))
      have HO3 := Aside0.mk hR1
      have hlt_ : B < W2.heap.size := Nat.lt_of_lt_of_le HBw.out HK2.out.1
      have hne_ : ∀ k_, (Value.slice Ao_ done.length co_).ownBlock = some k_ → w.heap.size ≤ k_ := fun k_ h_ => Kd.R_base HO2.out k_ h_
      have HK3 : Aside0 (Kp w w1 (fun k_ => k_ = B)) := ⟨Kp.of_grown hg1 HK2.out (fun k_ h_ => .inr (hne_ k_ h_))⟩
      have RB3 : Aside0 (RdB w1 B A l.length c i2) := ⟨(hg1.block B hlt_ (fun e_ => by have := hne_ B e_.symm; have := HBw.out; omega)).trans RB2.out⟩
      clear hR1 hb1 hg1 hat1 hlt_ hne_
      have hkn_ : (k : Int) + 1 ≤ 9223372036854775807 := by have := HLT.out; have := HN.out; omega
      have HKNX := Aside0.mk hkn_
      clear hkn_
      go_wp2
      rw [w64_succ k HKNX.out]
      exact ⟨⟨k + 1, done ++ [x], i2, rfl, ⟨HLT.out, by rw [List.length_append, HKN.out.2]; rfl⟩, ⟨by
          have e1 := HRk.out
          rw [show n.toNat - k = (n.toNat - (k + 1)) + 1 by have := HLT.out; omega, rdRow, HX1.out, Option.bind_some] at e1
          rw [e1]
          cases rdRow (rdN l) (n.toNat - (k + 1)) i2 with
          | none => rfl
          | some b => simp [List.append_assoc]⟩, HI2, HO3, RB3, HK3⟩, by have := HLT.out; simp only [intOf, Int.toNat_natCast]; omega⟩
    · have z1 : decide ((k : Int) < n) = false := decide_eq_false (by omega)
      have HLT := Aside0.mk hlt
      clear hlt hk hnn
      go_wp2
      go_ret
      rw [show R = some (done, ik) from by
        have e1 := HRk.out
        rw [show n.toNat - k = 0 by have := HLT.out; omega, rdRow] at e1
        rw [e1]; simp]
      exact ⟨HKr.out, ⟨_, rfl, HO.out⟩, RBr.out⟩
set_option maxHeartbeats 4000000 in
set_option maxRecDepth 100000 in
theorem rd_rows_ins (B : Nat) (A : Option Addr) (c : Nat) (l : List Int) (i most : Int) (w : World) (hm : 0 ≤ most ∧ most ≤ 32768) (hb : RdB w B A l.length c i)
    (hr : ∀ W', Kept w W' (fun k => k = B) → Kd.C (Kd.int .u8) W' A l.length l) (hc : l.length ≤ c) (hbt : ∀ x ∈ l, 0 ≤ x ∧ x < 256) (hl : l.length ≤ 140737488355318) (h1 : 0 ≤ i) (h2 : i ≤ l.length) :
    Calls Tryd.prog 73 #[.pointer (some ⟨B, 0, none⟩), .int .i64 most, .func (.func 74) #[.pointer (some ⟨B, 0, none⟩)] #[]] w fun e w' => Rp w w' B A l.length c (rdRows (rdC l) most l i) (fun W y u => Kd.R k50 50 W w.heap.size (fun k => w.heap.size ≤ k) u y) e := by
  obtain ⟨R, hR⟩ : ∃ R, R = rdRows (rdC l) most l i := ⟨_, rfl⟩
  rw [← hR]
  have HRR := Aside0.mk hR; have RB := Aside0.mk hb; have HC := Aside0.mk hr; have HCC := Aside0.mk hc; have HBT := Aside0.mk hbt; have HL := Aside0.mk hl; have HI := Aside0.mk (And.intro h1 h2); have HM := Aside0.mk hm
  have HBw : Aside0 (B < w.heap.size) := ⟨blk_lt hb⟩
  have hcall := rd_nat B A c l i w hb (hr w (Kept.refl _ _)) hc hbt hl (by omega) (by omega)
  clear hR hb hr hc hbt hl h1 h2 hm
  go_enter Tryd.func73, Tryd.ntmps73
  go_wp2_with fail
  refine hcall.mono ?_
  clear hcall
  rintro e_ W1 ⟨hk_, h_⟩
  rcases hR0 : rdN l i with _ | ⟨n, i0⟩
  · rw [hR0] at h_
    obtain ⟨m_, rfl⟩ := h_
    have HK2 := Aside0.mk hk_; have HX := Aside0.mk hR0
    clear hk_ hR0
    go_wp2
    rw [show R = none from HRR.out.trans (by simp only [rdRows, Option.bind_none, HX.out])]
    exact ⟨rfl, HK2.out, m_, rfl⟩
  rw [hR0] at h_
  obtain ⟨⟨v0, rfl, hv0⟩, hb2_⟩ := h_
  obtain rfl := hv0
  have HX0 := Aside0.mk hR0; have HI0 := Aside0.mk (rdN_rng HBT.out hR0); have HN := Aside0.mk (rdN_val HBT.out hR0); have RB1 := Aside0.mk hb2_; have HK1 := Aside0.mk hk_
  clear hR0 hb2_ hk_ HI RB
  by_cases hlt : most < n
  · have d1 : decide (most < n) = true := decide_eq_true hlt
    have HLT := Aside0.mk hlt
    clear hlt
    go_wp2
    rw [show R = none from HRR.out.trans (by simp only [rdRows, Option.bind_some, HX0.out]; rw [if_pos HLT.out])]
    exact ⟨rfl, HK1.out, _, rfl⟩
  have d1 : decide (most < n) = false := decide_eq_false hlt
  have HR2 : Aside0 (R = rdRow (rdC l) n.toNat i0) := ⟨HRR.out.trans (by simp only [rdRows, Option.bind_some, HX0.out]; rw [if_neg hlt])⟩
  have HLT := Aside0.mk hlt
  clear hlt HRR HX0
  go_wp2_with fail
  go_loopw [8, 16] (fun vb vi wr => ∃ (k : Nat) (done : List S50) (ik : Int), vi = .int .i64 k ∧ Aside0 (k ≤ n.toNat ∧ done.length = k) ∧ Aside0 (R = (rdRow (rdC l) (n.toNat - k) ik).map fun b => (done ++ b.1, b.2)) ∧ Aside0 (0 ≤ ik ∧ ik ≤ (l.length : Int)) ∧ Aside0 (Kd.R k50 50 wr w.heap.size (fun k_ => w.heap.size ≤ k_) vb done) ∧ Aside0 (RdB wr B A l.length c ik) ∧ Aside0 (Kp w wr (fun k_ => k_ = B))) (fun _ v _ => n.toNat - (intOf v).toNat)
  case atStart => exact ⟨0, [], i0, rfl, ⟨Nat.zero_le _, rfl⟩, ⟨HR2.out.trans (by simp)⟩, HI0, ⟨Kd.R_nil _ _ _ _ _⟩, RB1, HK1⟩
  case round =>
    obtain ⟨k, done, ik, rfl, HKN, HRk, HIr, HO, RBr, HKr⟩ := hrel
    have hk := HKN.out
    have hnn := HN.out
    by_cases hlt : k < n.toNat
    · have z1 : decide ((k : Int) < n) = true := decide_eq_true (by omega)
      have HLT := Aside0.mk hlt
      have hcall := (rd_instr B A c l ik wr RBr.out (fun W' hk_ => HC.out W' (Kept.then_ HKr.out.kept hk_ (fun _ h => .inl h))) HCC.out HBT.out HL.out HIr.out.1 HIr.out.2)
      have HLT2 := Aside0.mk (fun k_ => own_lt (Kd.R_own HO.out).choose_spec k_)
      obtain ⟨Ao_, co_, hvo_⟩ := Kd.R_slice HO.out
      subst hvo_
      clear hlt hk hnn
      go_wp2_with fail
      refine hcall.mono ?_
      clear hcall
      rintro e_ W2 ⟨hk_, h_⟩
      rcases hR1 : rdC l ik with _ | ⟨x, i2⟩
      · rw [hR1] at h_
        obtain ⟨m_, rfl⟩ := h_
        have HK2 := Aside0.mk (HKr.out.then_ hk_ (fun _ h => .inl h)); have HX := Aside0.mk hR1
        clear hk_ hR1
        go_wp2
        rw [show R = none from (by
          have e1 := HRk.out
          rw [show n.toNat - k = (n.toNat - (k + 1)) + 1 by have := HLT.out; omega, rdRow, HX.out] at e1
          exact e1)]
        exact ⟨rfl, HK2.out, m_, rfl⟩
      rw [hR1] at h_
      obtain ⟨⟨v0, rfl, hv0⟩, hb2_⟩ := h_
      obtain rfl := hv0
      skip
      have HX1 := Aside0.mk hR1; have HI2 := Aside0.mk (rdC_rng HBT.out hR1); have RB2 := Aside0.mk hb2_; have HK2 := Aside0.mk (HKr.out.then_ hk_ (fun _ h => .inl h))
      have HO2 := Aside0.mk (Kd.R_kept HO.out hk_.kept (fun k_ h_ e_ => by have := HBw.out; omega))
      have HB2 := Aside0.mk hk_.1
      clear hR1 hb2_ hk_
      go_wp2_with (((with_reducible refine gate_builtin (b := .append) (xs := #[.tmp 18, .tmp 21]) rfl ?_); at_builtin; refine Kd.R_append k50 (w0 := W2) w.heap.size rfl (.tmp 18) (.tmp 21) 51 50 (.agg #[(.int .i64 0), (.int .i64 0), (.int .i64 0)]) 24 rfl Tryd.underlying51 info50 rfl (by decide) (by omega) (.slice Ao_ done.length co_) done x [.int .i64 x.f0, .int .i64 x.f1, .int .i64 x.f2] (fun k_ => w.heap.size ≤ k_) (fun _ => False) rfl rfl ?aP ?aK ?aF ?aO ?aB ?aS ?aL ?_; (case aP => exact k50_mkM _ _ _ x); (case aK => exact fun _ h => h.elim); (case aF => exact fun k_ h_ => Nat.le_trans HK2.out.1 h_); (case aO => exact HO2.out); (case aB => exact Below.refl _ _); (case aS => exact HK2.out.1); (case aL => have h1_ := HKN.out; have h2_ := HLT.out; have h3_ := HM.out; have h4_ := HN.out; have h5_ : ¬ most < n := of_decide_eq_false d1; omega); intro v1 w1 hR1 hb1 hg1 hat1))
      have HO3 := Aside0.mk hR1
      have hlt_ : B < W2.heap.size := Nat.lt_of_lt_of_le HBw.out HK2.out.1
      have hne_ : ∀ k_, (Value.slice Ao_ done.length co_).ownBlock = some k_ → w.heap.size ≤ k_ := fun k_ h_ => Kd.R_base HO2.out k_ h_
      have HK3 : Aside0 (Kp w w1 (fun k_ => k_ = B)) := ⟨Kp.of_grown hg1 HK2.out (fun k_ h_ => .inr (hne_ k_ h_))⟩
      have RB3 : Aside0 (RdB w1 B A l.length c i2) := ⟨(hg1.block B hlt_ (fun e_ => by have := hne_ B e_.symm; have := HBw.out; omega)).trans RB2.out⟩
      clear hR1 hb1 hg1 hat1 hlt_ hne_
      have hkn_ : (k : Int) + 1 ≤ 9223372036854775807 := by have := HLT.out; have := HN.out; omega
      have HKNX := Aside0.mk hkn_
      clear hkn_
      go_wp2
      rw [w64_succ k HKNX.out]
      exact ⟨⟨k + 1, done ++ [x], i2, rfl, ⟨HLT.out, by rw [List.length_append, HKN.out.2]; rfl⟩, ⟨by
          have e1 := HRk.out
          rw [show n.toNat - k = (n.toNat - (k + 1)) + 1 by have := HLT.out; omega, rdRow, HX1.out, Option.bind_some] at e1
          rw [e1]
          cases rdRow (rdC l) (n.toNat - (k + 1)) i2 with
          | none => rfl
          | some b => simp [List.append_assoc]⟩, HI2, HO3, RB3, HK3⟩, by have := HLT.out; simp only [intOf, Int.toNat_natCast]; omega⟩
    · have z1 : decide ((k : Int) < n) = false := decide_eq_false (by omega)
      have HLT := Aside0.mk hlt
      clear hlt hk hnn
      go_wp2
      go_ret
      rw [show R = some (done, ik) from by
        have e1 := HRk.out
        rw [show n.toNat - k = 0 by have := HLT.out; omega, rdRow] at e1
        rw [e1]; simp]
      exact ⟨HKr.out, ⟨_, rfl, HO.out⟩, RBr.out⟩
set_option maxHeartbeats 4000000 in
set_option maxRecDepth 100000 in
theorem rd_rows_glo (B : Nat) (A : Option Addr) (c : Nat) (l : List Int) (i most : Int) (w : World) (hm : 0 ≤ most ∧ most ≤ 32768) (hb : RdB w B A l.length c i)
    (hr : ∀ W', Kept w W' (fun k => k = B) → Kd.C (Kd.int .u8) W' A l.length l) (hc : l.length ≤ c) (hbt : ∀ x ∈ l, 0 ≤ x ∧ x < 256) (hl : l.length ≤ 140737488355318) (h1 : 0 ≤ i) (h2 : i ≤ l.length) :
    Calls Tryd.prog 42 #[.pointer (some ⟨B, 0, none⟩), .int .i64 most, .func (.func 43) #[.pointer (some ⟨B, 0, none⟩)] #[]] w fun e w' => Rp w w' B A l.length c (rdRows (rdG l) most l i) (fun W y u => Kd.R k48 48 W w.heap.size (fun k => w.heap.size ≤ k) u y) e := by
  obtain ⟨R, hR⟩ : ∃ R, R = rdRows (rdG l) most l i := ⟨_, rfl⟩
  rw [← hR]
  have HRR := Aside0.mk hR; have RB := Aside0.mk hb; have HC := Aside0.mk hr; have HCC := Aside0.mk hc; have HBT := Aside0.mk hbt; have HL := Aside0.mk hl; have HI := Aside0.mk (And.intro h1 h2); have HM := Aside0.mk hm
  have HBw : Aside0 (B < w.heap.size) := ⟨blk_lt hb⟩
  have hcall := rd_nat B A c l i w hb (hr w (Kept.refl _ _)) hc hbt hl (by omega) (by omega)
  clear hR hb hr hc hbt hl h1 h2 hm
  go_enter Tryd.func42, Tryd.ntmps42
  go_wp2_with fail
  refine hcall.mono ?_
  clear hcall
  rintro e_ W1 ⟨hk_, h_⟩
  rcases hR0 : rdN l i with _ | ⟨n, i0⟩
  · rw [hR0] at h_
    obtain ⟨m_, rfl⟩ := h_
    have HK2 := Aside0.mk hk_; have HX := Aside0.mk hR0
    clear hk_ hR0
    go_wp2
    rw [show R = none from HRR.out.trans (by simp only [rdRows, Option.bind_none, HX.out])]
    exact ⟨rfl, HK2.out, m_, rfl⟩
  rw [hR0] at h_
  obtain ⟨⟨v0, rfl, hv0⟩, hb2_⟩ := h_
  obtain rfl := hv0
  have HX0 := Aside0.mk hR0; have HI0 := Aside0.mk (rdN_rng HBT.out hR0); have HN := Aside0.mk (rdN_val HBT.out hR0); have RB1 := Aside0.mk hb2_; have HK1 := Aside0.mk hk_
  clear hR0 hb2_ hk_ HI RB
  by_cases hlt : most < n
  · have d1 : decide (most < n) = true := decide_eq_true hlt
    have HLT := Aside0.mk hlt
    clear hlt
    go_wp2
    rw [show R = none from HRR.out.trans (by simp only [rdRows, Option.bind_some, HX0.out]; rw [if_pos HLT.out])]
    exact ⟨rfl, HK1.out, _, rfl⟩
  have d1 : decide (most < n) = false := decide_eq_false hlt
  have HR2 : Aside0 (R = rdRow (rdG l) n.toNat i0) := ⟨HRR.out.trans (by simp only [rdRows, Option.bind_some, HX0.out]; rw [if_neg hlt])⟩
  have HLT := Aside0.mk hlt
  clear hlt HRR HX0
  go_wp2_with fail
  go_loopw [8, 16] (fun vb vi wr => ∃ (k : Nat) (done : List S48) (ik : Int), vi = .int .i64 k ∧ Aside0 (k ≤ n.toNat ∧ done.length = k) ∧ Aside0 (R = (rdRow (rdG l) (n.toNat - k) ik).map fun b => (done ++ b.1, b.2)) ∧ Aside0 (0 ≤ ik ∧ ik ≤ (l.length : Int)) ∧ Aside0 (Kd.R k48 48 wr w.heap.size (fun k_ => w.heap.size ≤ k_) vb done) ∧ Aside0 (RdB wr B A l.length c ik) ∧ Aside0 (Kp w wr (fun k_ => k_ = B))) (fun _ v _ => n.toNat - (intOf v).toNat)
  case atStart => exact ⟨0, [], i0, rfl, ⟨Nat.zero_le _, rfl⟩, ⟨HR2.out.trans (by simp)⟩, HI0, ⟨Kd.R_nil _ _ _ _ _⟩, RB1, HK1⟩
  case round =>
    obtain ⟨k, done, ik, rfl, HKN, HRk, HIr, HO, RBr, HKr⟩ := hrel
    have hk := HKN.out
    have hnn := HN.out
    by_cases hlt : k < n.toNat
    · have z1 : decide ((k : Int) < n) = true := decide_eq_true (by omega)
      have HLT := Aside0.mk hlt
      have hcall := (rd_glob B A c l ik wr RBr.out (fun W' hk_ => HC.out W' (Kept.then_ HKr.out.kept hk_ (fun _ h => .inl h))) HCC.out HBT.out HL.out HIr.out.1 HIr.out.2)
      have HLT2 := Aside0.mk (fun k_ => own_lt (Kd.R_own HO.out).choose_spec k_)
      obtain ⟨Ao_, co_, hvo_⟩ := Kd.R_slice HO.out
      subst hvo_
      clear hlt hk hnn
      go_wp2_with fail
      refine hcall.mono ?_
      clear hcall
      rintro e_ W2 ⟨hk_, h_⟩
      rcases hR1 : rdG l ik with _ | ⟨x, i2⟩
      · rw [hR1] at h_
        obtain ⟨m_, rfl⟩ := h_
        have HK2 := Aside0.mk (HKr.out.then_ hk_ (fun _ h => .inl h)); have HX := Aside0.mk hR1
        clear hk_ hR1
        go_wp2
        rw [show R = none from (by
          have e1 := HRk.out
          rw [show n.toNat - k = (n.toNat - (k + 1)) + 1 by have := HLT.out; omega, rdRow, HX.out] at e1
          exact e1)]
        exact ⟨rfl, HK2.out, m_, rfl⟩
      rw [hR1] at h_
      obtain ⟨⟨v0, rfl, hv0⟩, hb2_⟩ := h_
      obtain rfl := hv0
      skip
      have HX1 := Aside0.mk hR1; have HI2 := Aside0.mk (rdG_rng HBT.out hR1); have RB2 := Aside0.mk hb2_; have HK2 := Aside0.mk (HKr.out.then_ hk_ (fun _ h => .inl h))
      have HO2 := Aside0.mk (Kd.R_kept HO.out hk_.kept (fun k_ h_ e_ => by have := HBw.out; omega))
      have HB2 := Aside0.mk hk_.1
      clear hR1 hb2_ hk_
      go_wp2_with (((with_reducible refine gate_builtin (b := .append) (xs := #[.tmp 18, .tmp 21]) rfl ?_); at_builtin; refine Kd.R_append k48 (w0 := W2) w.heap.size rfl (.tmp 18) (.tmp 21) 22 48 (.agg #[(.int .i64 0), (.int .i64 0), (.int .i64 0)]) 24 rfl Tryd.underlying22 info48 rfl (by decide) (by omega) (.slice Ao_ done.length co_) done x [.int .i64 x.f0, .int .i64 x.f1, .int .i64 x.f2] (fun k_ => w.heap.size ≤ k_) (fun _ => False) rfl rfl ?aP ?aK ?aF ?aO ?aB ?aS ?aL ?_; (case aP => exact k48_mkM _ _ _ x); (case aK => exact fun _ h => h.elim); (case aF => exact fun k_ h_ => Nat.le_trans HK2.out.1 h_); (case aO => exact HO2.out); (case aB => exact Below.refl _ _); (case aS => exact HK2.out.1); (case aL => have h1_ := HKN.out; have h2_ := HLT.out; have h3_ := HM.out; have h4_ := HN.out; have h5_ : ¬ most < n := of_decide_eq_false d1; omega); intro v1 w1 hR1 hb1 hg1 hat1))
      have HO3 := Aside0.mk hR1
      have hlt_ : B < W2.heap.size := Nat.lt_of_lt_of_le HBw.out HK2.out.1
      have hne_ : ∀ k_, (Value.slice Ao_ done.length co_).ownBlock = some k_ → w.heap.size ≤ k_ := fun k_ h_ => Kd.R_base HO2.out k_ h_
      have HK3 : Aside0 (Kp w w1 (fun k_ => k_ = B)) := ⟨Kp.of_grown hg1 HK2.out (fun k_ h_ => .inr (hne_ k_ h_))⟩
      have RB3 : Aside0 (RdB w1 B A l.length c i2) := ⟨(hg1.block B hlt_ (fun e_ => by have := hne_ B e_.symm; have := HBw.out; omega)).trans RB2.out⟩
      clear hR1 hb1 hg1 hat1 hlt_ hne_
      have hkn_ : (k : Int) + 1 ≤ 9223372036854775807 := by have := HLT.out; have := HN.out; omega
      have HKNX := Aside0.mk hkn_
      clear hkn_
      go_wp2
      rw [w64_succ k HKNX.out]
      exact ⟨⟨k + 1, done ++ [x], i2, rfl, ⟨HLT.out, by rw [List.length_append, HKN.out.2]; rfl⟩, ⟨by
          have e1 := HRk.out
          rw [show n.toNat - k = (n.toNat - (k + 1)) + 1 by have := HLT.out; omega, rdRow, HX1.out, Option.bind_some] at e1
          rw [e1]
          cases rdRow (rdG l) (n.toNat - (k + 1)) i2 with
          | none => rfl
          | some b => simp [List.append_assoc]⟩, HI2, HO3, RB3, HK3⟩, by have := HLT.out; simp only [intOf, Int.toNat_natCast]; omega⟩
    · have z1 : decide ((k : Int) < n) = false := decide_eq_false (by omega)
      have HLT := Aside0.mk hlt
      clear hlt hk hnn
      go_wp2
      go_ret
      rw [show R = some (done, ik) from by
        have e1 := HRk.out
        rw [show n.toNat - k = 0 by have := HLT.out; omega, rdRow] at e1
        rw [e1]; simp]
      exact ⟨HKr.out, ⟨_, rfl, HO.out⟩, RBr.out⟩
end Go.Proofs.YteidgpaakoeefaaDoor
namespace Go.Proofs.YteidgpaakoeefaaDoor
open Go.RowKit Go.Proofs.YteidgpaakoeefaaDoorW.PrintWords Go.Proofs.YteidgpaakoeefaaDoorW.PrintLast Go.Proofs.YteidgpaakoeefaaDoorW.PrintMore
set_option linter.unusedVariables false
set_option linter.unusedSimpArgs false
theorem infoI : (Tryd.prog.info? 3).map (fun i => (i.zero, i.size, i.bytes)) = some (some (.int .i64 0), 1, 8) := by kernel_rfl
set_option maxHeartbeats 2000000 in
set_option maxRecDepth 100000 in
theorem growI_nil (n : Int) (w : World) (h0 : 0 ≤ n) (hn : n ≤ 1000000) :
    Calls Tryd.prog 96 #[.slice none 0 0, .int .i64 n] w
      fun e w' => ∃ v, e = .returned v ∧ Kd.R (Kd.int .i64) 3 w' w.heap.size (fun _ => True) v [] ∧ Below w.heap.size w w' := by
  have HB := Aside0.mk (Below.refl w.heap.size w)
  by_cases hz : n = 0
  · subst hz
    go_enter Tryd.func96, Tryd.ntmps96
    go_wp2
    go_ret
    exact ⟨_, rfl, Kd.R_nil _ _ _ _ _, HB.out⟩
  · have hp : 0 < n := by omega
    go_enter Tryd.func96, Tryd.ntmps96
    go_wp2_with (first | ((with_reducible refine gate_builtin (b := .append) (xs := #[.tmp 20, .tmp 21]) rfl ?_); at_builtin; refine Kd.R_append_zeros (Kd.int .i64) (w0 := w) w.heap.size rfl (.tmp 20) (.tmp 21) 52 3 3 (.int .i64 0) 8 rfl Tryd.underlying52 Tryd.underlying3 infoI rfl (by decide) (by omega) (.slice none 0 0) [] (0 : Int) n (fun _ => True) rfl rfl rfl (fun _ _ => trivial) (Kd.R_nil _ _ _ _ _) h0 HB.out (Nat.le_refl _) ?aL ?_; (case aL => simp; omega); intro v1 w1 ho hb hg hat; have HO := Aside0.mk ho; clear HB; have HB := Aside0.mk hb; clear ho hb hg hat; obtain ⟨A1, c1, hv⟩ := Kd.R_slice HO.out; subst hv; obtain ⟨i0, hi0, _, hsz0, _⟩ := info_parts infoI; obtain ⟨hcut, hA⟩ := print_take_int (P := Tryd.prog) (k := .i64) 52 3 Tryd.underlying52 hi0 hsz0 A1 c1 (List.replicate n.toNat 0) 0 (by omega) (by omega) (by have := (Kd.R_reads' HO.out).2.1; simpa using this)))
    go_ret
    exact ⟨_, rfl, Kd.R_take (m := 0) HO.out (Nat.zero_le _), HB.out⟩
def CRowI (w : World) (l0 l1 : List Int) (wr : World) (v vi : Value) : Prop :=
  Below w.heap.size w wr ∧ ((vi = .int .i64 0 ∧ Kd.R (Kd.int .i64) 3 wr w.heap.size (fun _ => True) v []) ∨ (vi = .int .i64 1 ∧ Kd.R (Kd.int .i64) 3 wr w.heap.size (fun _ => True) v l0) ∨
    (vi = .int .i64 2 ∧ Kd.R (Kd.int .i64) 3 wr w.heap.size (fun _ => True) v (l0 ++ l1)))
set_option maxHeartbeats 4000000 in
set_option maxRecDepth 100000 in
theorem concatI_two (g : Nat) (A0 A1 : Option Addr) (c0 c1 : Nat) (l0 l1 : List Int) (w : World)
    (hg0 : w.cell? ⟨g, 0, none⟩ = some (.slice A0 l0.length c0)) (hg1 : w.cell? ⟨g, 1, none⟩ = some (.slice A1 l1.length c1))
    (hr0 : Kd.C (Kd.int .i64) w A0 l0.length l0) (hr1 : Kd.C (Kd.int .i64) w A1 l1.length l1) (hl : l0.length + l1.length ≤ 1000000) :
    Calls Tryd.prog 72 #[.slice (some ⟨g, 0, none⟩) 2 2] w
      fun e w' => ∃ v, e = .returned v ∧ Kd.R (Kd.int .i64) 3 w' w.heap.size (fun _ => True) v (l0 ++ l1) ∧ Below w.heap.size w w' := by
  have HB := Aside0.mk (Below.refl w.heap.size w)
  have HR0 := Aside0.mk hr0
  have HR1 := Aside0.mk hr1
  have hlt := World.block_lt_of_cell? w _ hg0
  have HLT : Aside0 (g < w.heap.size) := ⟨hlt⟩
  have HL := Aside0.mk hl
  clear hr0 hr1 hlt
  obtain ⟨n0, hn0⟩ : ∃ n : Nat, n = l0.length := ⟨_, rfl⟩
  obtain ⟨n1, hn1⟩ : ∃ n : Nat, n = l1.length := ⟨_, rfl⟩
  rw [← hn0] at hg0; rw [← hn1] at hg1; rw [← hn0, ← hn1] at hl
  have HN0 := Aside0.mk hn0; have HN1 := Aside0.mk hn1
  clear hn0 hn1
  go_enter Tryd.func72, Tryd.ntmps72
  go_wp2
  go_loop [3, 11] (fun vs vi => CRel n0 n1 vs vi) (fun _ vi => (2 - intOf vi).toNat)
  case atStart => exact .inl ⟨rfl, rfl⟩
  case round =>
    rcases hrel with ⟨rfl, rfl⟩ | ⟨rfl, rfl⟩ | ⟨rfl, rfl⟩
    · go_wp2
      exact ⟨.inr (.inl ⟨rfl, rfl⟩), by simp [intOf]⟩
    · go_wp2
      exact ⟨.inr (.inr ⟨rfl, rfl⟩), by simp [intOf]⟩
    · go_wp2_with fail
      ((with_reducible refine (growI_nil _ _ (by omega) (by omega)).mono ?_); rintro e_ W1 ⟨v0, rfl, ho_, hb_⟩)
      have HO0 := Aside0.mk ho_
      clear HB; have HB := Aside0.mk hb_; clear ho_ hb_
      have hg0w := (HB.out.cell (p := ⟨g, 0, none⟩) HLT.out).trans hg0
      have hg1w := (HB.out.cell (p := ⟨g, 1, none⟩) HLT.out).trans hg1
      have HG0 := Aside0.mk hg0; have HG1 := Aside0.mk hg1
      clear hg0 hg1
      have HR0' : Aside0 (Kd.C (Kd.int .i64) w A0 n0 l0) := ⟨by rw [HN0.out]; exact HR0.out⟩
      have HR1' : Aside0 (Kd.C (Kd.int .i64) w A1 n1 l1) := ⟨by rw [HN1.out]; exact HR1.out⟩
      clear hg0w hg1w
      go_wp2
      go_loopw [6, 27] (fun v vi wr => CRowI w l0 l1 wr v vi) (fun _ vi _ => (2 - intOf vi).toNat)
      case atStart => exact ⟨HB.out, .inl ⟨rfl, HO0.out⟩⟩
      case round =>
        clear HB HO0
        obtain ⟨hb_, hcase⟩ := hrel
        have HB := Aside0.mk hb_; clear hb_
        have hg0 := (HB.out.cell (p := ⟨g, 0, none⟩) HLT.out).trans HG0.out
        have hg1 := (HB.out.cell (p := ⟨g, 1, none⟩) HLT.out).trans HG1.out
        rcases hcase with ⟨rfl, ho_⟩ | ⟨rfl, ho_⟩ | ⟨rfl, ho_⟩
        · have HO0 := Aside0.mk ho_; clear ho_
          go_wp2_with (first | ((with_reducible refine gate_builtin (b := .append) (xs := #[.tmp 31, .tmp 32]) rfl ?_); at_builtin; refine Kd.R_append_rows (Kd.int .i64) (w0 := w) w.heap.size rfl (.tmp 31) (.tmp 32) 52 3 (.int .i64 0) 8 rfl Tryd.underlying52 infoI rfl (by decide) (by omega) _ [] l0 _ _ _ (fun _ => True) (fun _ => False) rfl rfl ?aO ?aR (fun _ _ h => h) (fun _ h => h.elim) ?aF ?aB ?aS ?aL ?_; (case aR => exact (Kd.C_below HR0'.out HB.out)); (case aB => exact HB.out); (case aF => exact (fun _ _ => trivial)); (case aO => exact HO0.out); (case aS => exact (below_size HB.out)); (case aL => (have := HL.out; simp; omega)); intro v1 w1 ho hb hg hat; have HO1 := Aside0.mk ho; clear HB; have HB := Aside0.mk hb; clear ho hb hg hat))
          refine ⟨⟨HB.out, .inr (.inl ⟨rfl, HO1.out⟩)⟩, by simp [intOf]⟩
        · have HO0 := Aside0.mk ho_; clear ho_
          go_wp2_with (first | ((with_reducible refine gate_builtin (b := .append) (xs := #[.tmp 31, .tmp 32]) rfl ?_); at_builtin; refine Kd.R_append_rows (Kd.int .i64) (w0 := w) w.heap.size rfl (.tmp 31) (.tmp 32) 52 3 (.int .i64 0) 8 rfl Tryd.underlying52 infoI rfl (by decide) (by omega) _ l0 l1 _ _ _ (fun _ => True) (fun _ => False) rfl rfl ?aO ?aR (fun _ _ h => h) (fun _ h => h.elim) ?aF ?aB ?aS ?aL ?_; (case aR => exact (Kd.C_below HR1'.out HB.out)); (case aB => exact HB.out); (case aF => exact (fun _ _ => trivial)); (case aO => exact HO0.out); (case aS => exact (below_size HB.out)); (case aL => (have := HL.out; have := HN0.out; have := HN1.out; omega)); intro v1 w1 ho hb hg hat; have HO1 := Aside0.mk ho; clear HB; have HB := Aside0.mk hb; clear ho hb hg hat))
          exact ⟨⟨HB.out, .inr (.inr ⟨rfl, HO1.out⟩)⟩, by simp [intOf]⟩
        · have HO0 := Aside0.mk ho_; clear ho_
          go_wp2
          go_ret
          exact ⟨_, rfl, HO0.out, HB.out⟩
end Go.Proofs.YteidgpaakoeefaaDoor
namespace Go.Proofs.YteidgpaakoeefaaDoor
open Go.RowKit Go.Proofs.YteidgpaakoeefaaDoorW.PrintWords Go.Proofs.YteidgpaakoeefaaDoorW.PrintLast Go.Proofs.YteidgpaakoeefaaDoorW.PrintMore
set_option linter.unusedVariables false
set_option linter.unusedSimpArgs false
open PIm
theorem rdT_rng {l : List Int} {i j : Int} {x : ByteArray} (hb : ∀ x ∈ l, 0 ≤ x ∧ x < 256) (h : rdT l i = some (x, j)) : 0 ≤ j ∧ j ≤ (l.length : Int) := by
  have hr := tk_range l i 9 (by decide) (by decide) hb
  unfold rdT rtF at h
  generalize tk l i 9 = t at h hr
  obtain ⟨z, p, e⟩ := t
  simp only [] at h hr
  by_cases h1 : e ≠ 0
  · rw [if_pos h1, if_neg h1] at h; cases h
  rw [if_neg h1] at h
  by_cases h2 : 65536 < z
  · rw [if_pos h2, if_neg (by decide)] at h; cases h
  rw [if_neg h2] at h
  by_cases h3 : (l.length : Int) - p < z
  · rw [if_pos h3, if_neg (by decide)] at h; cases h
  rw [if_neg h3, if_pos rfl] at h
  injection h with h; injection h with _ h
  have h4 : p + z = j := h
  omega
theorem rdRow_len {α : Type} {one : Int → Option (α × Int)} : ∀ (n : Nat) (i : Int) (r : List α) (j : Int), rdRow one n i = some (r, j) → r.length = n
  | 0, i, r, j, h => by unfold rdRow at h; injection h with h; injection h with h _; rw [← h]; rfl
  | n + 1, i, r, j, h => by
    unfold rdRow at h
    rcases h1 : one i with _ | ⟨a, i1⟩
    · rw [h1] at h; cases h
    rw [h1, Option.bind_some] at h
    rcases h2 : rdRow one n i1 with _ | ⟨b, i2⟩
    · rw [h2] at h; cases h
    rw [h2, Option.bind_some] at h
    injection h with h; injection h with h _
    rw [← h, List.length_cons, rdRow_len n i1 b i2 h2]
theorem rdRows_len {α : Type} {one : Int → Option (α × Int)} {most : Int} {l : List Int} {i : Int} {r : List α} {j : Int} (hb : ∀ x ∈ l, 0 ≤ x ∧ x < 256) (h : rdRows one most l i = some (r, j)) : (r.length : Int) ≤ most := by
  unfold rdRows at h
  rcases h1 : rdN l i with _ | ⟨a, i1⟩
  · rw [h1] at h; cases h
  rw [h1, Option.bind_some] at h
  split at h
  · cases h
  · next hm =>
    have := rdRow_len _ _ _ _ h
    have := (rdN_val hb h1).1
    have hm2 : ¬ most < a := hm
    have e : r.length = a.toNat := by assumption
    omega
def rdF (l : List Int) (i : Int) : Option (S54 × Int) :=
  (rdT l i).bind fun a => (rdRows (rdN l) 8 l a.2).bind fun b => (rdN l b.2).bind fun n => (rdRows (rdN l) 32 l n.2).bind fun m => (rdRows (rdC l) 32768 l m.2).bind fun d => some (⟨a.1, b.1, n.1, b.1 ++ m.1, d.1⟩, d.2)
theorem rdF_rng {l : List Int} {i j : Int} {x : S54} (hb : ∀ x ∈ l, 0 ≤ x ∧ x < 256) (h : rdF l i = some (x, j)) : 0 ≤ j ∧ j ≤ (l.length : Int) := by
  unfold rdF at h
  rcases h1 : rdT l i with _ | ⟨a, i1⟩
  · rw [h1] at h; cases h
  rw [h1, Option.bind_some] at h
  rcases h2 : rdRows (rdN l) 8 l i1 with _ | ⟨b, i2⟩
  · rw [h2] at h; cases h
  rw [h2, Option.bind_some] at h
  rcases h3 : rdN l i2 with _ | ⟨n, i3⟩
  · rw [h3] at h; cases h
  rw [h3, Option.bind_some] at h
  rcases h4 : rdRows (rdN l) 32 l i3 with _ | ⟨m, i4⟩
  · rw [h4] at h; cases h
  rw [h4, Option.bind_some] at h
  rcases h5 : rdRows (rdC l) 32768 l i4 with _ | ⟨d, i5⟩
  · rw [h5] at h; cases h
  rw [h5, Option.bind_some] at h
  injection h with h; injection h with _ h
  rw [← h]; exact rdRows_rng hb (fun i x j _ h => rdC_rng hb h) h5
set_option maxHeartbeats 4000000 in
set_option maxRecDepth 100000 in
theorem rd_fn (B : Nat) (A : Option Addr) (c : Nat) (l : List Int) (i : Int) (w : World) (hb : RdB w B A l.length c i)
    (hr : ∀ W', Kept w W' (fun k => k = B) → Kd.C (Kd.int .u8) W' A l.length l) (hc : l.length ≤ c) (hbt : ∀ x ∈ l, 0 ≤ x ∧ x < 256) (hl : l.length ≤ 140737488355318) (h1 : 0 ≤ i) (h2 : i ≤ l.length) :
    Calls Tryd.prog 45 #[.pointer (some ⟨B, 0, none⟩)] w fun e w' => Rp w w' B A l.length c (rdF l i) (fun W y u => ∃ A1 c1 A3 c3 A4 c4, u = .agg #[.string y.f0, .slice A1 y.f1.length c1, .int .i64 y.f2, .slice A3 y.f3.length c3, .slice A4 y.f4.length c4] ∧ Kd.R (Kd.int .i64) 3 W w.heap.size (fun k => w.heap.size ≤ k) (.slice A1 y.f1.length c1) y.f1 ∧ Kd.R (Kd.int .i64) 3 W w.heap.size (fun k => w.heap.size ≤ k) (.slice A3 y.f3.length c3) y.f3 ∧ Kd.R k50 50 W w.heap.size (fun k => w.heap.size ≤ k) (.slice A4 y.f4.length c4) y.f4) e := by
  obtain ⟨R, hR⟩ : ∃ R, R = rdF l i := ⟨_, rfl⟩
  rw [← hR]
  have HRR := Aside0.mk hR; have RB := Aside0.mk hb; have HC := Aside0.mk hr; have HCC := Aside0.mk hc; have HBT := Aside0.mk hbt; have HL := Aside0.mk hl; have HI := Aside0.mk (And.intro h1 h2)
  have HBw : Aside0 (B < w.heap.size) := ⟨blk_lt RB.out⟩
  have HK : Aside0 (Kp w w (fun k => k = B)) := ⟨Kp.refl _ _⟩
  clear hR hb hr hc hbt hl h1 h2
  go_enter Tryd.func45, Tryd.ntmps45
  go_wp2_with (first | ((with_reducible refine gate_dst (N := 2) rfl ?_); refine box_event ?hg (N := 2) ?hd (cs := #[.string (⟨#[]⟩ : ByteArray), .slice none 0 0, .int .i64 0, .slice none 0 0, .slice none 0 0]) (t := 54) ?hr ?_; (case hd => rfl); (case hg => rfl); (case hr => first | (go_simp; done) | (go_simp; rfl)); intro g hg_ W1 hbox_ hb_; have GEg := Aside0.mk (by rw [hg_]; exact HK.out.1 : w.heap.size ≤ g); have NBg : Aside0 (g ≠ B) := ⟨(by rw [hg_]; exact Ne.symm (Nat.ne_of_lt (blk_lt RB.out)))⟩; clear hg_; have n_ := Aside0.mk (show RdB W1 B A l.length c i from blk_below RB.out hb_); clear RB; have RB := n_; clear n_; have n_ := Aside0.mk (Kp.below HK.out hb_); clear HK; have HK := n_; clear n_; have BKg := Aside0.mk hbox_; clear hbox_ hb_; have hcg_0 : W1.cell? ⟨g, 0, none⟩ = some (.string (⟨#[]⟩ : ByteArray)) := (blk_cell BKg.out 0).trans rfl; have hfg_0 := blk_frozen BKg.out 0; have hcg_1 : W1.cell? ⟨g, 1, none⟩ = some (.slice none 0 0) := (blk_cell BKg.out 1).trans rfl; have hfg_1 := blk_frozen BKg.out 1; have hcg_2 : W1.cell? ⟨g, 2, none⟩ = some (.int .i64 0) := (blk_cell BKg.out 2).trans rfl; have hfg_2 := blk_frozen BKg.out 2; have hcg_3 : W1.cell? ⟨g, 3, none⟩ = some (.slice none 0 0) := (blk_cell BKg.out 3).trans rfl; have hfg_3 := blk_frozen BKg.out 3; have hcg_4 : W1.cell? ⟨g, 4, none⟩ = some (.slice none 0 0) := (blk_cell BKg.out 4).trans rfl; have hfg_4 := blk_frozen BKg.out 4))
  refine (rd_text B A c l i _ RB.out (HC.out _ HK.out.kept) HCC.out HBT.out HL.out (by have := HI.out; omega) (by have := HI.out; have := HL.out; omega)).mono ?_
  rintro e_ W2 ⟨hk_, h_⟩
  rcases hR0 : rdT l i with _ | ⟨x0, i1⟩
  · rw [hR0] at h_
    obtain ⟨m_, rfl⟩ := h_
    have HK2 := Aside0.mk (HK.out.then_ hk_ (fun _ h => .inl h)); have HX := Aside0.mk hR0
    clear hk_ hR0
    go_wp2
    rw [show R = none from HRR.out.trans (by simp only [rdF, HX.out, Option.bind_some, Option.bind_none])]
    exact ⟨rfl, HK2.out, m_, rfl⟩
  rw [hR0] at h_
  obtain ⟨⟨v0, rfl, hv0⟩, hb2_⟩ := h_
  obtain rfl := hv0
  have HX0 := Aside0.mk hR0; have n_ := Aside0.mk (rdT_rng HBT.out hR0); clear HI; have HI := n_; clear n_ hR0
  have n_ := Aside0.mk (blk_kept BKg.out hk_.kept NBg.out); clear BKg; have BKg := n_; clear n_
  clear hcg_0 hfg_0
  clear hcg_1 hfg_1
  clear hcg_2 hfg_2
  clear hcg_3 hfg_3
  clear hcg_4 hfg_4
  have n_ := Aside0.mk (HK.out.then_ hk_ (fun _ h => .inl h)); clear HK RB; have HK := n_; have RB := Aside0.mk hb2_; clear n_ hk_ hb2_
  have hcg_0 : W2.cell? ⟨g, 0, none⟩ = some (.string (⟨#[]⟩ : ByteArray)) := (blk_cell BKg.out 0).trans rfl
  have hfg_0 := blk_frozen BKg.out 0
  have hcg_1 : W2.cell? ⟨g, 1, none⟩ = some (.slice none 0 0) := (blk_cell BKg.out 1).trans rfl
  have hfg_1 := blk_frozen BKg.out 1
  have hcg_2 : W2.cell? ⟨g, 2, none⟩ = some (.int .i64 0) := (blk_cell BKg.out 2).trans rfl
  have hfg_2 := blk_frozen BKg.out 2
  have hcg_3 : W2.cell? ⟨g, 3, none⟩ = some (.slice none 0 0) := (blk_cell BKg.out 3).trans rfl
  have hfg_3 := blk_frozen BKg.out 3
  have hcg_4 : W2.cell? ⟨g, 4, none⟩ = some (.slice none 0 0) := (blk_cell BKg.out 4).trans rfl
  have hfg_4 := blk_frozen BKg.out 4
  go_wp2_with fail
  have n_ : Aside0 ((W2.setCell ⟨g, 0, none⟩ (.string x0)).heap[g]? = some (.cells #[.string x0, .slice none 0 0, .int .i64 0, .slice none 0 0, .slice none 0 0] 54 (0, 0))) := ⟨by refine blk_put (cs := #[.string (⟨#[]⟩ : ByteArray), .slice none 0 0, .int .i64 0, .slice none 0 0, .slice none 0 0]) ?_ 0 _ rfl; exact BKg.out⟩
  have m_ : Aside0 (RdB (W2.setCell ⟨g, 0, none⟩ (.string x0)) B A l.length c i1) := ⟨(blk_far RB.out NBg.out.symm _)⟩; have o_ : Aside0 (Kp w (W2.setCell ⟨g, 0, none⟩ (.string x0)) (fun k => k = B)) := ⟨(Kp.setCell (p := ⟨g, 0, none⟩) HK.out (.inr GEg.out) _)⟩
  clear BKg RB HK; have BKg := n_; have RB := m_; have HK := o_; clear n_ m_ o_
  clear hcg_0 hfg_0
  clear hcg_1 hfg_1
  clear hcg_2 hfg_2
  clear hcg_3 hfg_3
  clear hcg_4 hfg_4
  generalize (W2.setCell ⟨g, 0, none⟩ (.string x0)) = W3 at *
  have hcg_0 : W3.cell? ⟨g, 0, none⟩ = some (.string x0) := (blk_cell BKg.out 0).trans rfl
  have hfg_0 := blk_frozen BKg.out 0
  have hcg_1 : W3.cell? ⟨g, 1, none⟩ = some (.slice none 0 0) := (blk_cell BKg.out 1).trans rfl
  have hfg_1 := blk_frozen BKg.out 1
  have hcg_2 : W3.cell? ⟨g, 2, none⟩ = some (.int .i64 0) := (blk_cell BKg.out 2).trans rfl
  have hfg_2 := blk_frozen BKg.out 2
  have hcg_3 : W3.cell? ⟨g, 3, none⟩ = some (.slice none 0 0) := (blk_cell BKg.out 3).trans rfl
  have hfg_3 := blk_frozen BKg.out 3
  have hcg_4 : W3.cell? ⟨g, 4, none⟩ = some (.slice none 0 0) := (blk_cell BKg.out 4).trans rfl
  have hfg_4 := blk_frozen BKg.out 4
  go_wp2_with fail
  refine (rd_rows_int B A c l i1 8 _ ⟨by decide, by decide⟩ RB.out (fun W' hk_ => HC.out W' (Kept.then_ HK.out.kept hk_ (fun _ h => .inl h))) HCC.out HBT.out HL.out HI.out.1 HI.out.2).mono ?_
  rintro e_ W4 ⟨hk_, h_⟩
  rcases hR1 : rdRows (rdN l) 8 l i1 with _ | ⟨x1, i2⟩
  · rw [hR1] at h_
    obtain ⟨m_, rfl⟩ := h_
    have HK2 := Aside0.mk (HK.out.then_ hk_ (fun _ h => .inl h)); have HX := Aside0.mk hR1
    clear hk_ hR1
    go_wp2
    rw [show R = none from HRR.out.trans (by simp only [rdF, HX0.out, HX.out, Option.bind_some, Option.bind_none])]
    exact ⟨rfl, HK2.out, m_, rfl⟩
  rw [hR1] at h_
  obtain ⟨⟨v1, rfl, hv1⟩, hb2_⟩ := h_
  obtain ⟨A1_, c1_, rfl⟩ := Kd.R_slice hv1
  have HO1_ := Aside0.mk (Kd.R_mono (Kd.R_lower hv1 HK.out.1) (fun k_ h_ => (Nat.le_trans HK.out.1 h_ : w.heap.size ≤ k_))); clear hv1
  have HX1 := Aside0.mk hR1; have n_ := Aside0.mk (rdRows_rng HBT.out (fun i x j _ h => rdN_rng HBT.out h) hR1); clear HI; have HI := n_; clear n_ hR1
  have n_ := Aside0.mk (blk_kept BKg.out hk_.kept NBg.out); clear BKg; have BKg := n_; clear n_
  clear hcg_0 hfg_0
  clear hcg_1 hfg_1
  clear hcg_2 hfg_2
  clear hcg_3 hfg_3
  clear hcg_4 hfg_4
  have HO1 := HO1_; clear HO1_
  have n_ := Aside0.mk (HK.out.then_ hk_ (fun _ h => .inl h)); clear HK RB; have HK := n_; have RB := Aside0.mk hb2_; clear n_ hk_ hb2_
  have hcg_0 : W4.cell? ⟨g, 0, none⟩ = some (.string x0) := (blk_cell BKg.out 0).trans rfl
  have hfg_0 := blk_frozen BKg.out 0
  have hcg_1 : W4.cell? ⟨g, 1, none⟩ = some (.slice none 0 0) := (blk_cell BKg.out 1).trans rfl
  have hfg_1 := blk_frozen BKg.out 1
  have hcg_2 : W4.cell? ⟨g, 2, none⟩ = some (.int .i64 0) := (blk_cell BKg.out 2).trans rfl
  have hfg_2 := blk_frozen BKg.out 2
  have hcg_3 : W4.cell? ⟨g, 3, none⟩ = some (.slice none 0 0) := (blk_cell BKg.out 3).trans rfl
  have hfg_3 := blk_frozen BKg.out 3
  have hcg_4 : W4.cell? ⟨g, 4, none⟩ = some (.slice none 0 0) := (blk_cell BKg.out 4).trans rfl
  have hfg_4 := blk_frozen BKg.out 4
  go_wp2_with fail
  have n_ : Aside0 ((W4.setCell ⟨g, 1, none⟩ (.slice A1_ x1.length c1_)).heap[g]? = some (.cells #[.string x0, .slice A1_ x1.length c1_, .int .i64 0, .slice none 0 0, .slice none 0 0] 54 (0, 0))) := ⟨by refine blk_put (cs := #[.string x0, .slice none 0 0, .int .i64 0, .slice none 0 0, .slice none 0 0]) ?_ 1 _ rfl; exact BKg.out⟩
  have m_ : Aside0 (RdB (W4.setCell ⟨g, 1, none⟩ (.slice A1_ x1.length c1_)) B A l.length c i2) := ⟨(blk_far RB.out NBg.out.symm _)⟩; have o_ : Aside0 (Kp w (W4.setCell ⟨g, 1, none⟩ (.slice A1_ x1.length c1_)) (fun k => k = B)) := ⟨(Kp.setCell (p := ⟨g, 1, none⟩) HK.out (.inr GEg.out) _)⟩
  have q_ : Aside0 (Kd.R (Kd.int .i64) 3 (W4.setCell ⟨g, 1, none⟩ (.slice A1_ x1.length c1_)) w.heap.size (fun k => w.heap.size ≤ k) (.slice A1_ x1.length c1_) x1) := ⟨(Kd.R_set HO1.out BKg.out (by decide) 1 _)⟩; clear HO1; have HO1 := q_; clear q_
  clear BKg RB HK; have BKg := n_; have RB := m_; have HK := o_; clear n_ m_ o_
  clear hcg_0 hfg_0
  clear hcg_1 hfg_1
  clear hcg_2 hfg_2
  clear hcg_3 hfg_3
  clear hcg_4 hfg_4
  generalize (W4.setCell ⟨g, 1, none⟩ (.slice A1_ x1.length c1_)) = W5 at *
  have hcg_0 : W5.cell? ⟨g, 0, none⟩ = some (.string x0) := (blk_cell BKg.out 0).trans rfl
  have hfg_0 := blk_frozen BKg.out 0
  have hcg_1 : W5.cell? ⟨g, 1, none⟩ = some (.slice A1_ x1.length c1_) := (blk_cell BKg.out 1).trans rfl
  have hfg_1 := blk_frozen BKg.out 1
  have hcg_2 : W5.cell? ⟨g, 2, none⟩ = some (.int .i64 0) := (blk_cell BKg.out 2).trans rfl
  have hfg_2 := blk_frozen BKg.out 2
  have hcg_3 : W5.cell? ⟨g, 3, none⟩ = some (.slice none 0 0) := (blk_cell BKg.out 3).trans rfl
  have hfg_3 := blk_frozen BKg.out 3
  have hcg_4 : W5.cell? ⟨g, 4, none⟩ = some (.slice none 0 0) := (blk_cell BKg.out 4).trans rfl
  have hfg_4 := blk_frozen BKg.out 4
  go_wp2_with fail
  refine (rd_nat B A c l i2 _ RB.out (HC.out _ HK.out.kept) HCC.out HBT.out HL.out (by have := HI.out; omega) (by have := HI.out; have := HL.out; omega)).mono ?_
  rintro e_ W6 ⟨hk_, h_⟩
  rcases hR2 : rdN l i2 with _ | ⟨x2, i3⟩
  · rw [hR2] at h_
    obtain ⟨m_, rfl⟩ := h_
    have HK2 := Aside0.mk (HK.out.then_ hk_ (fun _ h => .inl h)); have HX := Aside0.mk hR2
    clear hk_ hR2
    go_wp2
    rw [show R = none from HRR.out.trans (by simp only [rdF, HX0.out, HX1.out, HX.out, Option.bind_some, Option.bind_none])]
    exact ⟨rfl, HK2.out, m_, rfl⟩
  rw [hR2] at h_
  obtain ⟨⟨v2, rfl, hv2⟩, hb2_⟩ := h_
  obtain rfl := hv2
  have HX2 := Aside0.mk hR2; have n_ := Aside0.mk (rdN_rng HBT.out hR2); clear HI; have HI := n_; clear n_ hR2
  have n_ := Aside0.mk (blk_kept BKg.out hk_.kept NBg.out); clear BKg; have BKg := n_; clear n_
  clear hcg_0 hfg_0
  clear hcg_1 hfg_1
  clear hcg_2 hfg_2
  clear hcg_3 hfg_3
  clear hcg_4 hfg_4
  have n_ := Aside0.mk (Kd.R_kept HO1.out hk_.kept (fun k_ h_ e_ => by have := HBw.out; omega)); clear HO1; have HO1 := n_; clear n_
  have n_ := Aside0.mk (HK.out.then_ hk_ (fun _ h => .inl h)); clear HK RB; have HK := n_; have RB := Aside0.mk hb2_; clear n_ hk_ hb2_
  have hcg_0 : W6.cell? ⟨g, 0, none⟩ = some (.string x0) := (blk_cell BKg.out 0).trans rfl
  have hfg_0 := blk_frozen BKg.out 0
  have hcg_1 : W6.cell? ⟨g, 1, none⟩ = some (.slice A1_ x1.length c1_) := (blk_cell BKg.out 1).trans rfl
  have hfg_1 := blk_frozen BKg.out 1
  have hcg_2 : W6.cell? ⟨g, 2, none⟩ = some (.int .i64 0) := (blk_cell BKg.out 2).trans rfl
  have hfg_2 := blk_frozen BKg.out 2
  have hcg_3 : W6.cell? ⟨g, 3, none⟩ = some (.slice none 0 0) := (blk_cell BKg.out 3).trans rfl
  have hfg_3 := blk_frozen BKg.out 3
  have hcg_4 : W6.cell? ⟨g, 4, none⟩ = some (.slice none 0 0) := (blk_cell BKg.out 4).trans rfl
  have hfg_4 := blk_frozen BKg.out 4
  go_wp2_with fail
  have n_ : Aside0 ((W6.setCell ⟨g, 2, none⟩ (.int .i64 x2)).heap[g]? = some (.cells #[.string x0, .slice A1_ x1.length c1_, .int .i64 x2, .slice none 0 0, .slice none 0 0] 54 (0, 0))) := ⟨by refine blk_put (cs := #[.string x0, .slice A1_ x1.length c1_, .int .i64 0, .slice none 0 0, .slice none 0 0]) ?_ 2 _ rfl; exact BKg.out⟩
  have m_ : Aside0 (RdB (W6.setCell ⟨g, 2, none⟩ (.int .i64 x2)) B A l.length c i3) := ⟨(blk_far RB.out NBg.out.symm _)⟩; have o_ : Aside0 (Kp w (W6.setCell ⟨g, 2, none⟩ (.int .i64 x2)) (fun k => k = B)) := ⟨(Kp.setCell (p := ⟨g, 2, none⟩) HK.out (.inr GEg.out) _)⟩
  have q_ : Aside0 (Kd.R (Kd.int .i64) 3 (W6.setCell ⟨g, 2, none⟩ (.int .i64 x2)) w.heap.size (fun k => w.heap.size ≤ k) (.slice A1_ x1.length c1_) x1) := ⟨(Kd.R_set HO1.out BKg.out (by decide) 2 _)⟩; clear HO1; have HO1 := q_; clear q_
  clear BKg RB HK; have BKg := n_; have RB := m_; have HK := o_; clear n_ m_ o_
  clear hcg_0 hfg_0
  clear hcg_1 hfg_1
  clear hcg_2 hfg_2
  clear hcg_3 hfg_3
  clear hcg_4 hfg_4
  generalize (W6.setCell ⟨g, 2, none⟩ (.int .i64 x2)) = W7 at *
  have hcg_0 : W7.cell? ⟨g, 0, none⟩ = some (.string x0) := (blk_cell BKg.out 0).trans rfl
  have hfg_0 := blk_frozen BKg.out 0
  have hcg_1 : W7.cell? ⟨g, 1, none⟩ = some (.slice A1_ x1.length c1_) := (blk_cell BKg.out 1).trans rfl
  have hfg_1 := blk_frozen BKg.out 1
  have hcg_2 : W7.cell? ⟨g, 2, none⟩ = some (.int .i64 x2) := (blk_cell BKg.out 2).trans rfl
  have hfg_2 := blk_frozen BKg.out 2
  have hcg_3 : W7.cell? ⟨g, 3, none⟩ = some (.slice none 0 0) := (blk_cell BKg.out 3).trans rfl
  have hfg_3 := blk_frozen BKg.out 3
  have hcg_4 : W7.cell? ⟨g, 4, none⟩ = some (.slice none 0 0) := (blk_cell BKg.out 4).trans rfl
  have hfg_4 := blk_frozen BKg.out 4
  go_wp2_with fail
  obtain ⟨hm1_, HMx⟩ : Aside0 ((x1.length : Int) ≤ 8) ∧ True := ⟨⟨rdRows_len HBT.out HX1.out⟩, trivial⟩; clear HMx
  go_region_with (first | (go_at_call 71; refine (rd_rows_int B A c l i3 32 _ ⟨by decide, by decide⟩ ?rb_ ?hc_ HCC.out HBT.out HL.out HI.out.1 HI.out.2).mono ?_; (case rb_ => exact RB.out); (case hc_ => exact fun W' hk_ => HC.out W' (Kept.then_ HK.out.kept hk_ (fun _ h => .inl h))); rintro e_ W8 ⟨hk_, h_⟩; rcases hR3 : rdRows (rdN l) 32 l i3 with _ | ⟨x3, i4⟩; (focus (rw [hR3] at h_; obtain ⟨m_, rfl⟩ := h_; have HX := Aside0.mk hR3; have HK2 := Aside0.mk (Kp.then_ HK.out hk_ (fun _ h => .inl h)); clear hk_ hR3; go_wp2; rw [show R = none from HRR.out.trans (by simp only [rdF, HX0.out, HX1.out, HX2.out, HX.out, Option.bind_some, Option.bind_none])]; exact ⟨rfl, HK2.out, m_, rfl⟩)); rw [hR3] at h_; obtain ⟨⟨v3, rfl, hv3⟩, hb2_⟩ := h_; obtain ⟨A3_, c3_, rfl⟩ := Kd.R_slice hv3; have HO3 := Aside0.mk (Kd.R_mono (Kd.R_lower hv3 HK.out.1) (fun k_ h_ => (Nat.le_trans HK.out.1 h_ : w.heap.size ≤ k_))); clear hv3; have HX3 := Aside0.mk hR3; have HI4 := Aside0.mk (rdRows_rng HBT.out (fun i x j _ h => rdN_rng HBT.out h) hR3); have hm3_ := Aside0.mk (rdRows_len HBT.out hR3); clear hR3; have n_ := Aside0.mk (blk_kept (show _ from by first | exact BKg.out | exact blk_drew BKg.out) hk_.kept NBg.out); clear BKg; have BKg := n_; clear n_; (try clear hcg_0); (try clear hfg_0); (try clear hcg_1); (try clear hfg_1); (try clear hcg_2); (try clear hfg_2); (try clear hcg_3); (try clear hfg_3); (try clear hcg_4); (try clear hfg_4); have n_ := Aside0.mk (Kd.R_kept HO1.out hk_.kept (fun k_ h_ e_ => by have := HBw.out; omega)); clear HO1; have HO1 := n_; clear n_; have n_ := Aside0.mk (Kp.then_ HK.out hk_ (fun _ h => .inl h)); clear HK RB; have HK := n_; have RB := Aside0.mk hb2_; clear n_ hb2_ hk_; have hcg_0 : W8.cell? ⟨g, 0, none⟩ = some (.string x0) := (blk_cell BKg.out 0).trans rfl; have hcg_1 : W8.cell? ⟨g, 1, none⟩ = some (.slice A1_ x1.length c1_) := (blk_cell BKg.out 1).trans rfl; have hcg_2 : W8.cell? ⟨g, 2, none⟩ = some (.int .i64 x2) := (blk_cell BKg.out 2).trans rfl; have hcg_3 : W8.cell? ⟨g, 3, none⟩ = some (.slice none 0 0) := (blk_cell BKg.out 3).trans rfl; have hcg_4 : W8.cell? ⟨g, 4, none⟩ = some (.slice none 0 0) := (blk_cell BKg.out 4).trans rfl; have hfg_0 := blk_frozen BKg.out 0; have hfg_1 := blk_frozen BKg.out 1; have hfg_2 := blk_frozen BKg.out 2; have hfg_3 := blk_frozen BKg.out 3; have hfg_4 := blk_frozen BKg.out 4) | (go_at_call 72; (with_reducible show Calls _ _ _ (World.alloc W8 (.cells #[.slice A1_ x1.length c1_, .slice A3_ x3.length c3_] 52 (0, 0))) _); refine (concatI_two W8.heap.size A1_ A3_ c1_ c3_ x1 x3 _ ((blk_cell (blk_new W8 _) 0).trans rfl) ((blk_cell (blk_new W8 _) 1).trans rfl) (Kd.C_kept_own (S := fun _ => False) HO1.out (fun _ _ h => h) _ (Kept.alloc (Kept.refl _ _) _)) (Kd.C_kept_own (S := fun _ => False) HO3.out (fun _ _ h => h) _ (Kept.alloc (Kept.refl _ _) _)) (by have := hm1_.out; have := hm3_.out; omega)).mono ?_; rintro e_ W9 ⟨v4, rfl, hv4, hb_⟩; obtain ⟨y5, hy5⟩ : ∃ y, y = x1 ++ x3 := ⟨_, rfl⟩; rw [← hy5] at hv4; have HY5 := Aside0.mk hy5; clear hy5; obtain ⟨A5_, c5_, rfl⟩ := Kd.R_slice hv4; have HO5 := Aside0.mk (Kd.R_mono (ok' := fun k_ => w.heap.size ≤ k_) (Kd.R_lower (base' := w.heap.size) (Kd.R_bound hv4) (Nat.le_trans HK.out.1 (below_alloc (Below.refl W8.heap.size W8) _).size)) (fun k_ h_ => Nat.le_trans (Nat.le_trans HK.out.1 (below_alloc (Below.refl W8.heap.size W8) _).size) h_.2.1)); clear hv4; have n_ := Aside0.mk (blk_below (g := g) (blk_alloc (show _ from by first | exact BKg.out | exact blk_drew BKg.out) _) hb_); clear BKg; have BKg := n_; clear n_; (try clear hcg_0); (try clear hfg_0); (try clear hcg_1); (try clear hfg_1); (try clear hcg_2); (try clear hfg_2); (try clear hcg_3); (try clear hfg_3); (try clear hcg_4); (try clear hfg_4); have n_ := Aside0.mk (Kd.R_below (Kd.R_below HO1.out (below_alloc (Below.refl _ _) _)) hb_); clear HO1; have HO1 := n_; clear n_; have n_ := Aside0.mk (Kd.R_below (Kd.R_below HO3.out (below_alloc (Below.refl _ _) _)) hb_); clear HO3; have HO3 := n_; clear n_; have n_ := Aside0.mk (Kp.below (Kp.alloc HK.out _) hb_); have m_ := Aside0.mk (show RdB W9 B A l.length c i4 from blk_below (blk_alloc RB.out _) hb_); clear HK RB; have HK := n_; have RB := m_; clear n_ m_ hb_; have hcg_0 : W9.cell? ⟨g, 0, none⟩ = some (.string x0) := (blk_cell BKg.out 0).trans rfl; have hcg_1 : W9.cell? ⟨g, 1, none⟩ = some (.slice A1_ x1.length c1_) := (blk_cell BKg.out 1).trans rfl; have hcg_2 : W9.cell? ⟨g, 2, none⟩ = some (.int .i64 x2) := (blk_cell BKg.out 2).trans rfl; have hcg_3 : W9.cell? ⟨g, 3, none⟩ = some (.slice none 0 0) := (blk_cell BKg.out 3).trans rfl; have hcg_4 : W9.cell? ⟨g, 4, none⟩ = some (.slice none 0 0) := (blk_cell BKg.out 4).trans rfl; have hfg_0 := blk_frozen BKg.out 0; have hfg_1 := blk_frozen BKg.out 1; have hfg_2 := blk_frozen BKg.out 2; have hfg_3 := blk_frozen BKg.out 3; have hfg_4 := blk_frozen BKg.out 4))
  all_goals
    clear HI; have HI := HI4; clear HI4
    have n_ : Aside0 ((W9.setCell ⟨g, 3, none⟩ (.slice A5_ y5.length c5_)).heap[g]? = some (.cells #[.string x0, .slice A1_ x1.length c1_, .int .i64 x2, .slice A5_ y5.length c5_, .slice none 0 0] 54 (0, 0))) := ⟨by refine blk_put (cs := #[.string x0, .slice A1_ x1.length c1_, .int .i64 x2, .slice none 0 0, .slice none 0 0]) ?_ 3 _ rfl; exact BKg.out⟩
    have m_ : Aside0 (RdB (W9.setCell ⟨g, 3, none⟩ (.slice A5_ y5.length c5_)) B A l.length c i4) := ⟨(blk_far RB.out NBg.out.symm _)⟩; have o_ : Aside0 (Kp w (W9.setCell ⟨g, 3, none⟩ (.slice A5_ y5.length c5_)) (fun k => k = B)) := ⟨(Kp.setCell (p := ⟨g, 3, none⟩) HK.out (.inr GEg.out) _)⟩
    have q_ : Aside0 (Kd.R (Kd.int .i64) 3 (W9.setCell ⟨g, 3, none⟩ (.slice A5_ y5.length c5_)) w.heap.size (fun k => w.heap.size ≤ k) (.slice A1_ x1.length c1_) x1) := ⟨(Kd.R_set HO1.out BKg.out (by decide) 3 _)⟩; clear HO1; have HO1 := q_; clear q_
    have q_ : Aside0 (Kd.R (Kd.int .i64) 3 (W9.setCell ⟨g, 3, none⟩ (.slice A5_ y5.length c5_)) w.heap.size (fun k => w.heap.size ≤ k) (.slice A5_ y5.length c5_) y5) := ⟨(Kd.R_set HO5.out BKg.out (by decide) 3 _)⟩; clear HO5; have HO5 := q_; clear q_
    clear BKg RB HK; have BKg := n_; have RB := m_; have HK := o_; clear n_ m_ o_
    clear hcg_0 hfg_0
    clear hcg_1 hfg_1
    clear hcg_2 hfg_2
    clear hcg_3 hfg_3
    clear hcg_4 hfg_4
    generalize (W9.setCell ⟨g, 3, none⟩ (.slice A5_ y5.length c5_)) = W10 at *
    have hcg_0 : W10.cell? ⟨g, 0, none⟩ = some (.string x0) := (blk_cell BKg.out 0).trans rfl
    have hfg_0 := blk_frozen BKg.out 0
    have hcg_1 : W10.cell? ⟨g, 1, none⟩ = some (.slice A1_ x1.length c1_) := (blk_cell BKg.out 1).trans rfl
    have hfg_1 := blk_frozen BKg.out 1
    have hcg_2 : W10.cell? ⟨g, 2, none⟩ = some (.int .i64 x2) := (blk_cell BKg.out 2).trans rfl
    have hfg_2 := blk_frozen BKg.out 2
    have hcg_3 : W10.cell? ⟨g, 3, none⟩ = some (.slice A5_ y5.length c5_) := (blk_cell BKg.out 3).trans rfl
    have hfg_3 := blk_frozen BKg.out 3
    have hcg_4 : W10.cell? ⟨g, 4, none⟩ = some (.slice none 0 0) := (blk_cell BKg.out 4).trans rfl
    have hfg_4 := blk_frozen BKg.out 4
    go_wp2_with fail
    refine (rd_rows_ins B A c l i4 32768 _ ⟨by decide, by decide⟩ RB.out (fun W' hk_ => HC.out W' (Kept.then_ HK.out.kept hk_ (fun _ h => .inl h))) HCC.out HBT.out HL.out HI.out.1 HI.out.2).mono ?_
    rintro e_ W11 ⟨hk_, h_⟩
    rcases hR4 : rdRows (rdC l) 32768 l i4 with _ | ⟨x4, i5⟩
    · rw [hR4] at h_
      obtain ⟨m_, rfl⟩ := h_
      have HK2 := Aside0.mk (HK.out.then_ hk_ (fun _ h => .inl h)); have HX := Aside0.mk hR4
      clear hk_ hR4
      go_wp2
      rw [show R = none from HRR.out.trans (by simp only [rdF, HX0.out, HX1.out, HX2.out, HX3.out, HX.out, Option.bind_some, Option.bind_none])]
      exact ⟨rfl, HK2.out, m_, rfl⟩
    rw [hR4] at h_
    obtain ⟨⟨v4, rfl, hv4⟩, hb2_⟩ := h_
    obtain ⟨A4_, c4_, rfl⟩ := Kd.R_slice hv4
    have HO4_ := Aside0.mk (Kd.R_mono (Kd.R_lower hv4 HK.out.1) (fun k_ h_ => (Nat.le_trans HK.out.1 h_ : w.heap.size ≤ k_))); clear hv4
    have HX4 := Aside0.mk hR4; have n_ := Aside0.mk (rdRows_rng HBT.out (fun i x j _ h => rdC_rng HBT.out h) hR4); clear HI; have HI := n_; clear n_ hR4
    have n_ := Aside0.mk (blk_kept BKg.out hk_.kept NBg.out); clear BKg; have BKg := n_; clear n_
    clear hcg_0 hfg_0
    clear hcg_1 hfg_1
    clear hcg_2 hfg_2
    clear hcg_3 hfg_3
    clear hcg_4 hfg_4
    have n_ := Aside0.mk (Kd.R_kept HO1.out hk_.kept (fun k_ h_ e_ => by have := HBw.out; omega)); clear HO1; have HO1 := n_; clear n_
    have n_ := Aside0.mk (Kd.R_kept HO5.out hk_.kept (fun k_ h_ e_ => by have := HBw.out; omega)); clear HO5; have HO5 := n_; clear n_
    have HO4 := HO4_; clear HO4_
    have n_ := Aside0.mk (HK.out.then_ hk_ (fun _ h => .inl h)); clear HK RB; have HK := n_; have RB := Aside0.mk hb2_; clear n_ hk_ hb2_
    have hcg_0 : W11.cell? ⟨g, 0, none⟩ = some (.string x0) := (blk_cell BKg.out 0).trans rfl
    have hfg_0 := blk_frozen BKg.out 0
    have hcg_1 : W11.cell? ⟨g, 1, none⟩ = some (.slice A1_ x1.length c1_) := (blk_cell BKg.out 1).trans rfl
    have hfg_1 := blk_frozen BKg.out 1
    have hcg_2 : W11.cell? ⟨g, 2, none⟩ = some (.int .i64 x2) := (blk_cell BKg.out 2).trans rfl
    have hfg_2 := blk_frozen BKg.out 2
    have hcg_3 : W11.cell? ⟨g, 3, none⟩ = some (.slice A5_ y5.length c5_) := (blk_cell BKg.out 3).trans rfl
    have hfg_3 := blk_frozen BKg.out 3
    have hcg_4 : W11.cell? ⟨g, 4, none⟩ = some (.slice none 0 0) := (blk_cell BKg.out 4).trans rfl
    have hfg_4 := blk_frozen BKg.out 4
    go_wp2_with fail
    have n_ : Aside0 ((W11.setCell ⟨g, 4, none⟩ (.slice A4_ x4.length c4_)).heap[g]? = some (.cells #[.string x0, .slice A1_ x1.length c1_, .int .i64 x2, .slice A5_ y5.length c5_, .slice A4_ x4.length c4_] 54 (0, 0))) := ⟨by refine blk_put (cs := #[.string x0, .slice A1_ x1.length c1_, .int .i64 x2, .slice A5_ y5.length c5_, .slice none 0 0]) ?_ 4 _ rfl; exact BKg.out⟩
    have m_ : Aside0 (RdB (W11.setCell ⟨g, 4, none⟩ (.slice A4_ x4.length c4_)) B A l.length c i5) := ⟨(blk_far RB.out NBg.out.symm _)⟩; have o_ : Aside0 (Kp w (W11.setCell ⟨g, 4, none⟩ (.slice A4_ x4.length c4_)) (fun k => k = B)) := ⟨(Kp.setCell (p := ⟨g, 4, none⟩) HK.out (.inr GEg.out) _)⟩
    have q_ : Aside0 (Kd.R (Kd.int .i64) 3 (W11.setCell ⟨g, 4, none⟩ (.slice A4_ x4.length c4_)) w.heap.size (fun k => w.heap.size ≤ k) (.slice A1_ x1.length c1_) x1) := ⟨(Kd.R_set HO1.out BKg.out (by decide) 4 _)⟩; clear HO1; have HO1 := q_; clear q_
    have q_ : Aside0 (Kd.R (Kd.int .i64) 3 (W11.setCell ⟨g, 4, none⟩ (.slice A4_ x4.length c4_)) w.heap.size (fun k => w.heap.size ≤ k) (.slice A5_ y5.length c5_) y5) := ⟨(Kd.R_set HO5.out BKg.out (by decide) 4 _)⟩; clear HO5; have HO5 := q_; clear q_
    have q_ : Aside0 (Kd.R k50 50 (W11.setCell ⟨g, 4, none⟩ (.slice A4_ x4.length c4_)) w.heap.size (fun k => w.heap.size ≤ k) (.slice A4_ x4.length c4_) x4) := ⟨(Kd.R_set HO4.out BKg.out (by decide) 4 _)⟩; clear HO4; have HO4 := q_; clear q_
    clear BKg RB HK; have BKg := n_; have RB := m_; have HK := o_; clear n_ m_ o_
    clear hcg_0 hfg_0
    clear hcg_1 hfg_1
    clear hcg_2 hfg_2
    clear hcg_3 hfg_3
    clear hcg_4 hfg_4
    generalize (W11.setCell ⟨g, 4, none⟩ (.slice A4_ x4.length c4_)) = W12 at *
    have hcg_0 : W12.cell? ⟨g, 0, none⟩ = some (.string x0) := (blk_cell BKg.out 0).trans rfl
    have hfg_0 := blk_frozen BKg.out 0
    have hcg_1 : W12.cell? ⟨g, 1, none⟩ = some (.slice A1_ x1.length c1_) := (blk_cell BKg.out 1).trans rfl
    have hfg_1 := blk_frozen BKg.out 1
    have hcg_2 : W12.cell? ⟨g, 2, none⟩ = some (.int .i64 x2) := (blk_cell BKg.out 2).trans rfl
    have hfg_2 := blk_frozen BKg.out 2
    have hcg_3 : W12.cell? ⟨g, 3, none⟩ = some (.slice A5_ y5.length c5_) := (blk_cell BKg.out 3).trans rfl
    have hfg_3 := blk_frozen BKg.out 3
    have hcg_4 : W12.cell? ⟨g, 4, none⟩ = some (.slice A4_ x4.length c4_) := (blk_cell BKg.out 4).trans rfl
    have hfg_4 := blk_frozen BKg.out 4
    go_wp2_with fail
    have n_ : Aside0 ((((((W12.setCell ⟨g, 0, none⟩ (.string x0)).setCell ⟨g, 1, none⟩ (.slice A1_ x1.length c1_)).setCell ⟨g, 2, none⟩ (.int .i64 x2)).setCell ⟨g, 3, none⟩ (.slice A5_ y5.length c5_)).setCell ⟨g, 4, none⟩ (.slice A4_ x4.length c4_)).heap[g]? = some (.cells #[.string x0, .slice A1_ x1.length c1_, .int .i64 x2, .slice A5_ y5.length c5_, .slice A4_ x4.length c4_] 54 (0, 0))) := ⟨by refine blk_put (cs := #[.string x0, .slice A1_ x1.length c1_, .int .i64 x2, .slice A5_ y5.length c5_, .slice A4_ x4.length c4_]) ?_ 4 _ rfl; refine blk_put (cs := #[.string x0, .slice A1_ x1.length c1_, .int .i64 x2, .slice A5_ y5.length c5_, .slice A4_ x4.length c4_]) ?_ 3 _ rfl; refine blk_put (cs := #[.string x0, .slice A1_ x1.length c1_, .int .i64 x2, .slice A5_ y5.length c5_, .slice A4_ x4.length c4_]) ?_ 2 _ rfl; refine blk_put (cs := #[.string x0, .slice A1_ x1.length c1_, .int .i64 x2, .slice A5_ y5.length c5_, .slice A4_ x4.length c4_]) ?_ 1 _ rfl; refine blk_put (cs := #[.string x0, .slice A1_ x1.length c1_, .int .i64 x2, .slice A5_ y5.length c5_, .slice A4_ x4.length c4_]) ?_ 0 _ rfl; exact BKg.out⟩
    have m_ : Aside0 (RdB (((((W12.setCell ⟨g, 0, none⟩ (.string x0)).setCell ⟨g, 1, none⟩ (.slice A1_ x1.length c1_)).setCell ⟨g, 2, none⟩ (.int .i64 x2)).setCell ⟨g, 3, none⟩ (.slice A5_ y5.length c5_)).setCell ⟨g, 4, none⟩ (.slice A4_ x4.length c4_)) B A l.length c i5) := ⟨(blk_far (blk_far (blk_far (blk_far (blk_far RB.out NBg.out.symm _) NBg.out.symm _) NBg.out.symm _) NBg.out.symm _) NBg.out.symm _)⟩; have o_ : Aside0 (Kp w (((((W12.setCell ⟨g, 0, none⟩ (.string x0)).setCell ⟨g, 1, none⟩ (.slice A1_ x1.length c1_)).setCell ⟨g, 2, none⟩ (.int .i64 x2)).setCell ⟨g, 3, none⟩ (.slice A5_ y5.length c5_)).setCell ⟨g, 4, none⟩ (.slice A4_ x4.length c4_)) (fun k => k = B)) := ⟨(Kp.setCell (p := ⟨g, 4, none⟩) (Kp.setCell (p := ⟨g, 3, none⟩) (Kp.setCell (p := ⟨g, 2, none⟩) (Kp.setCell (p := ⟨g, 1, none⟩) (Kp.setCell (p := ⟨g, 0, none⟩) HK.out (.inr GEg.out) _) (.inr GEg.out) _) (.inr GEg.out) _) (.inr GEg.out) _) (.inr GEg.out) _)⟩
    have q_ : Aside0 (Kd.R (Kd.int .i64) 3 (((((W12.setCell ⟨g, 0, none⟩ (.string x0)).setCell ⟨g, 1, none⟩ (.slice A1_ x1.length c1_)).setCell ⟨g, 2, none⟩ (.int .i64 x2)).setCell ⟨g, 3, none⟩ (.slice A5_ y5.length c5_)).setCell ⟨g, 4, none⟩ (.slice A4_ x4.length c4_)) w.heap.size (fun k => w.heap.size ≤ k) (.slice A1_ x1.length c1_) x1) := ⟨(Kd.R_set (Kd.R_set (Kd.R_set (Kd.R_set (Kd.R_set HO1.out BKg.out (by decide) 0 _) (blk_put (cs := #[.string x0, .slice A1_ x1.length c1_, .int .i64 x2, .slice A5_ y5.length c5_, .slice A4_ x4.length c4_]) BKg.out 0 _ rfl) (by decide) 1 _) (blk_put (cs := #[.string x0, .slice A1_ x1.length c1_, .int .i64 x2, .slice A5_ y5.length c5_, .slice A4_ x4.length c4_]) (blk_put (cs := #[.string x0, .slice A1_ x1.length c1_, .int .i64 x2, .slice A5_ y5.length c5_, .slice A4_ x4.length c4_]) BKg.out 0 _ rfl) 1 _ rfl) (by decide) 2 _) (blk_put (cs := #[.string x0, .slice A1_ x1.length c1_, .int .i64 x2, .slice A5_ y5.length c5_, .slice A4_ x4.length c4_]) (blk_put (cs := #[.string x0, .slice A1_ x1.length c1_, .int .i64 x2, .slice A5_ y5.length c5_, .slice A4_ x4.length c4_]) (blk_put (cs := #[.string x0, .slice A1_ x1.length c1_, .int .i64 x2, .slice A5_ y5.length c5_, .slice A4_ x4.length c4_]) BKg.out 0 _ rfl) 1 _ rfl) 2 _ rfl) (by decide) 3 _) (blk_put (cs := #[.string x0, .slice A1_ x1.length c1_, .int .i64 x2, .slice A5_ y5.length c5_, .slice A4_ x4.length c4_]) (blk_put (cs := #[.string x0, .slice A1_ x1.length c1_, .int .i64 x2, .slice A5_ y5.length c5_, .slice A4_ x4.length c4_]) (blk_put (cs := #[.string x0, .slice A1_ x1.length c1_, .int .i64 x2, .slice A5_ y5.length c5_, .slice A4_ x4.length c4_]) (blk_put (cs := #[.string x0, .slice A1_ x1.length c1_, .int .i64 x2, .slice A5_ y5.length c5_, .slice A4_ x4.length c4_]) BKg.out 0 _ rfl) 1 _ rfl) 2 _ rfl) 3 _ rfl) (by decide) 4 _)⟩; clear HO1; have HO1 := q_; clear q_
    have q_ : Aside0 (Kd.R (Kd.int .i64) 3 (((((W12.setCell ⟨g, 0, none⟩ (.string x0)).setCell ⟨g, 1, none⟩ (.slice A1_ x1.length c1_)).setCell ⟨g, 2, none⟩ (.int .i64 x2)).setCell ⟨g, 3, none⟩ (.slice A5_ y5.length c5_)).setCell ⟨g, 4, none⟩ (.slice A4_ x4.length c4_)) w.heap.size (fun k => w.heap.size ≤ k) (.slice A5_ y5.length c5_) y5) := ⟨(Kd.R_set (Kd.R_set (Kd.R_set (Kd.R_set (Kd.R_set HO5.out BKg.out (by decide) 0 _) (blk_put (cs := #[.string x0, .slice A1_ x1.length c1_, .int .i64 x2, .slice A5_ y5.length c5_, .slice A4_ x4.length c4_]) BKg.out 0 _ rfl) (by decide) 1 _) (blk_put (cs := #[.string x0, .slice A1_ x1.length c1_, .int .i64 x2, .slice A5_ y5.length c5_, .slice A4_ x4.length c4_]) (blk_put (cs := #[.string x0, .slice A1_ x1.length c1_, .int .i64 x2, .slice A5_ y5.length c5_, .slice A4_ x4.length c4_]) BKg.out 0 _ rfl) 1 _ rfl) (by decide) 2 _) (blk_put (cs := #[.string x0, .slice A1_ x1.length c1_, .int .i64 x2, .slice A5_ y5.length c5_, .slice A4_ x4.length c4_]) (blk_put (cs := #[.string x0, .slice A1_ x1.length c1_, .int .i64 x2, .slice A5_ y5.length c5_, .slice A4_ x4.length c4_]) (blk_put (cs := #[.string x0, .slice A1_ x1.length c1_, .int .i64 x2, .slice A5_ y5.length c5_, .slice A4_ x4.length c4_]) BKg.out 0 _ rfl) 1 _ rfl) 2 _ rfl) (by decide) 3 _) (blk_put (cs := #[.string x0, .slice A1_ x1.length c1_, .int .i64 x2, .slice A5_ y5.length c5_, .slice A4_ x4.length c4_]) (blk_put (cs := #[.string x0, .slice A1_ x1.length c1_, .int .i64 x2, .slice A5_ y5.length c5_, .slice A4_ x4.length c4_]) (blk_put (cs := #[.string x0, .slice A1_ x1.length c1_, .int .i64 x2, .slice A5_ y5.length c5_, .slice A4_ x4.length c4_]) (blk_put (cs := #[.string x0, .slice A1_ x1.length c1_, .int .i64 x2, .slice A5_ y5.length c5_, .slice A4_ x4.length c4_]) BKg.out 0 _ rfl) 1 _ rfl) 2 _ rfl) 3 _ rfl) (by decide) 4 _)⟩; clear HO5; have HO5 := q_; clear q_
    have q_ : Aside0 (Kd.R k50 50 (((((W12.setCell ⟨g, 0, none⟩ (.string x0)).setCell ⟨g, 1, none⟩ (.slice A1_ x1.length c1_)).setCell ⟨g, 2, none⟩ (.int .i64 x2)).setCell ⟨g, 3, none⟩ (.slice A5_ y5.length c5_)).setCell ⟨g, 4, none⟩ (.slice A4_ x4.length c4_)) w.heap.size (fun k => w.heap.size ≤ k) (.slice A4_ x4.length c4_) x4) := ⟨(Kd.R_set (Kd.R_set (Kd.R_set (Kd.R_set (Kd.R_set HO4.out BKg.out (by decide) 0 _) (blk_put (cs := #[.string x0, .slice A1_ x1.length c1_, .int .i64 x2, .slice A5_ y5.length c5_, .slice A4_ x4.length c4_]) BKg.out 0 _ rfl) (by decide) 1 _) (blk_put (cs := #[.string x0, .slice A1_ x1.length c1_, .int .i64 x2, .slice A5_ y5.length c5_, .slice A4_ x4.length c4_]) (blk_put (cs := #[.string x0, .slice A1_ x1.length c1_, .int .i64 x2, .slice A5_ y5.length c5_, .slice A4_ x4.length c4_]) BKg.out 0 _ rfl) 1 _ rfl) (by decide) 2 _) (blk_put (cs := #[.string x0, .slice A1_ x1.length c1_, .int .i64 x2, .slice A5_ y5.length c5_, .slice A4_ x4.length c4_]) (blk_put (cs := #[.string x0, .slice A1_ x1.length c1_, .int .i64 x2, .slice A5_ y5.length c5_, .slice A4_ x4.length c4_]) (blk_put (cs := #[.string x0, .slice A1_ x1.length c1_, .int .i64 x2, .slice A5_ y5.length c5_, .slice A4_ x4.length c4_]) BKg.out 0 _ rfl) 1 _ rfl) 2 _ rfl) (by decide) 3 _) (blk_put (cs := #[.string x0, .slice A1_ x1.length c1_, .int .i64 x2, .slice A5_ y5.length c5_, .slice A4_ x4.length c4_]) (blk_put (cs := #[.string x0, .slice A1_ x1.length c1_, .int .i64 x2, .slice A5_ y5.length c5_, .slice A4_ x4.length c4_]) (blk_put (cs := #[.string x0, .slice A1_ x1.length c1_, .int .i64 x2, .slice A5_ y5.length c5_, .slice A4_ x4.length c4_]) (blk_put (cs := #[.string x0, .slice A1_ x1.length c1_, .int .i64 x2, .slice A5_ y5.length c5_, .slice A4_ x4.length c4_]) BKg.out 0 _ rfl) 1 _ rfl) 2 _ rfl) 3 _ rfl) (by decide) 4 _)⟩; clear HO4; have HO4 := q_; clear q_
    clear BKg RB HK; have BKg := n_; have RB := m_; have HK := o_; clear n_ m_ o_
    clear hcg_0 hfg_0
    clear hcg_1 hfg_1
    clear hcg_2 hfg_2
    clear hcg_3 hfg_3
    clear hcg_4 hfg_4
    generalize (((((W12.setCell ⟨g, 0, none⟩ (.string x0)).setCell ⟨g, 1, none⟩ (.slice A1_ x1.length c1_)).setCell ⟨g, 2, none⟩ (.int .i64 x2)).setCell ⟨g, 3, none⟩ (.slice A5_ y5.length c5_)).setCell ⟨g, 4, none⟩ (.slice A4_ x4.length c4_)) = W13 at *
    have hcg_0 : W13.cell? ⟨g, 0, none⟩ = some (.string x0) := (blk_cell BKg.out 0).trans rfl
    have hfg_0 := blk_frozen BKg.out 0
    have hcg_1 : W13.cell? ⟨g, 1, none⟩ = some (.slice A1_ x1.length c1_) := (blk_cell BKg.out 1).trans rfl
    have hfg_1 := blk_frozen BKg.out 1
    have hcg_2 : W13.cell? ⟨g, 2, none⟩ = some (.int .i64 x2) := (blk_cell BKg.out 2).trans rfl
    have hfg_2 := blk_frozen BKg.out 2
    have hcg_3 : W13.cell? ⟨g, 3, none⟩ = some (.slice A5_ y5.length c5_) := (blk_cell BKg.out 3).trans rfl
    have hfg_3 := blk_frozen BKg.out 3
    have hcg_4 : W13.cell? ⟨g, 4, none⟩ = some (.slice A4_ x4.length c4_) := (blk_cell BKg.out 4).trans rfl
    have hfg_4 := blk_frozen BKg.out 4
    refine bodyPost_ret (results_cell_row rfl _ _ g 54 #[.string x0, .slice A1_ x1.length c1_, .int .i64 x2, .slice A5_ y5.length c5_, .slice A4_ x4.length c4_] (0, 0) _ rfl BKg.out Tryd.underlying54 rfl (by kernel_rfl)) rfl ?_
    rw [show R = some (⟨x0, x1, x2, y5, x4⟩, i5) from HRR.out.trans (by simp only [HY5.out, rdF, Option.bind_some, HX0.out, HX1.out, HX2.out, HX3.out, HX4.out])]
    exact ⟨HK.out, ⟨_, rfl, A1_, c1_, A5_, c5_, A4_, c4_, rfl, HO1.out, HO5.out, HO4.out⟩, RB.out⟩
end Go.Proofs.YteidgpaakoeefaaDoor
namespace Go.Proofs.YteidgpaakoeefaaDoor
open Go.RowKit Go.Proofs.YteidgpaakoeefaaDoorW.PrintWords Go.Proofs.YteidgpaakoeefaaDoorW.PrintLast Go.Proofs.YteidgpaakoeefaaDoorW.PrintMore
set_option linter.unusedVariables false
set_option linter.unusedSimpArgs false
open PIm
set_option maxHeartbeats 4000000 in
set_option maxRecDepth 100000 in
theorem rd_rows_fn (B : Nat) (A : Option Addr) (c : Nat) (l : List Int) (i most : Int) (w : World) (hm : 0 ≤ most ∧ most ≤ 32768) (hb : RdB w B A l.length c i)
    (hr : ∀ W', Kept w W' (fun k => k = B) → Kd.C (Kd.int .u8) W' A l.length l) (hc : l.length ≤ c) (hbt : ∀ x ∈ l, 0 ≤ x ∧ x < 256) (hl : l.length ≤ 140737488355318) (h1 : 0 ≤ i) (h2 : i ≤ l.length) :
    Calls Tryd.prog 44 #[.pointer (some ⟨B, 0, none⟩), .int .i64 most, .func (.func 45) #[.pointer (some ⟨B, 0, none⟩)] #[]] w fun e w' => Rp w w' B A l.length c (rdRows (rdF l) most l i) (fun W y u => Kd.S k54 54 W w.heap.size (fun k => w.heap.size ≤ k) u y) e := by
  obtain ⟨R, hR⟩ : ∃ R, R = rdRows (rdF l) most l i := ⟨_, rfl⟩
  rw [← hR]
  have HRR := Aside0.mk hR; have RB := Aside0.mk hb; have HC := Aside0.mk hr; have HCC := Aside0.mk hc; have HBT := Aside0.mk hbt; have HL := Aside0.mk hl; have HI := Aside0.mk (And.intro h1 h2); have HM := Aside0.mk hm
  have HBw : Aside0 (B < w.heap.size) := ⟨blk_lt hb⟩
  have hcall := rd_nat B A c l i w hb (hr w (Kept.refl _ _)) hc hbt hl (by omega) (by omega)
  clear hR hb hr hc hbt hl h1 h2 hm
  go_enter Tryd.func44, Tryd.ntmps44
  go_wp2_with fail
  refine hcall.mono ?_
  clear hcall
  rintro e_ W1 ⟨hk_, h_⟩
  rcases hR0 : rdN l i with _ | ⟨n, i0⟩
  · rw [hR0] at h_
    obtain ⟨m_, rfl⟩ := h_
    have HK2 := Aside0.mk hk_; have HX := Aside0.mk hR0
    clear hk_ hR0
    go_wp2
    rw [show R = none from HRR.out.trans (by simp only [rdRows, Option.bind_none, HX.out])]
    exact ⟨rfl, HK2.out, m_, rfl⟩
  rw [hR0] at h_
  obtain ⟨⟨v0, rfl, hv0⟩, hb2_⟩ := h_
  obtain rfl := hv0
  have HX0 := Aside0.mk hR0; have HI0 := Aside0.mk (rdN_rng HBT.out hR0); have HN := Aside0.mk (rdN_val HBT.out hR0); have RB1 := Aside0.mk hb2_; have HK1 := Aside0.mk hk_
  clear hR0 hb2_ hk_ HI RB
  by_cases hlt : most < n
  · have d1 : decide (most < n) = true := decide_eq_true hlt
    have HLT := Aside0.mk hlt
    clear hlt
    go_wp2
    rw [show R = none from HRR.out.trans (by simp only [rdRows, Option.bind_some, HX0.out]; rw [if_pos HLT.out])]
    exact ⟨rfl, HK1.out, _, rfl⟩
  have d1 : decide (most < n) = false := decide_eq_false hlt
  have HR2 : Aside0 (R = rdRow (rdF l) n.toNat i0) := ⟨HRR.out.trans (by simp only [rdRows, Option.bind_some, HX0.out]; rw [if_neg hlt])⟩
  have HLT := Aside0.mk hlt
  clear hlt HRR HX0
  go_wp2_with fail
  go_loopw [8, 16] (fun vb vi wr => ∃ (k : Nat) (done : List S54) (ik : Int), vi = .int .i64 k ∧ Aside0 (k ≤ n.toNat ∧ done.length = k) ∧ Aside0 (R = (rdRow (rdF l) (n.toNat - k) ik).map fun b => (done ++ b.1, b.2)) ∧ Aside0 (0 ≤ ik ∧ ik ≤ (l.length : Int)) ∧ Aside0 (Kd.S k54 54 wr w.heap.size (fun k_ => w.heap.size ≤ k_) vb done) ∧ Aside0 (RdB wr B A l.length c ik) ∧ Aside0 (Kp w wr (fun k_ => k_ = B))) (fun _ v _ => n.toNat - (intOf v).toNat)
  case atStart => exact ⟨0, [], i0, rfl, ⟨Nat.zero_le _, rfl⟩, ⟨HR2.out.trans (by simp)⟩, HI0, ⟨Kd.S_nil _ _ _ _ _⟩, RB1, HK1⟩
  case round =>
    obtain ⟨k, done, ik, rfl, HKN, HRk, HIr, HO, RBr, HKr⟩ := hrel
    have hk := HKN.out
    have hnn := HN.out
    by_cases hlt : k < n.toNat
    · have z1 : decide ((k : Int) < n) = true := decide_eq_true (by omega)
      have HLT := Aside0.mk hlt
      have hcall := (rd_fn B A c l ik wr RBr.out (fun W' hk_ => HC.out W' (Kept.then_ HKr.out.kept hk_ (fun _ h => .inl h))) HCC.out HBT.out HL.out HIr.out.1 HIr.out.2)
      have HLT2 := Aside0.mk (fun k_ => own_lt (Kd.S_own HO.out).choose_spec k_)
      obtain ⟨Ao_, co_, hvo_⟩ := Kd.S_slice HO.out
      subst hvo_
      clear hlt hk hnn
      go_wp2_with fail
      refine hcall.mono ?_
      clear hcall
      rintro e_ W2 ⟨hk_, h_⟩
      rcases hR1 : rdF l ik with _ | ⟨x, i2⟩
      · rw [hR1] at h_
        obtain ⟨m_, rfl⟩ := h_
        have HK2 := Aside0.mk (HKr.out.then_ hk_ (fun _ h => .inl h)); have HX := Aside0.mk hR1
        clear hk_ hR1
        go_wp2
        rw [show R = none from (by
          have e1 := HRk.out
          rw [show n.toNat - k = (n.toNat - (k + 1)) + 1 by have := HLT.out; omega, rdRow, HX.out] at e1
          exact e1)]
        exact ⟨rfl, HK2.out, m_, rfl⟩
      rw [hR1] at h_
      obtain ⟨⟨v0, rfl, hv0⟩, hb2_⟩ := h_
      obtain ⟨A1_, c1_, A3_, c3_, A4_, c4_, rfl, hm1_, hm3_, hm4_⟩ := hv0
      have HM1_ := Aside0.mk hm1_; have HM3_ := Aside0.mk hm3_; have HM4_ := Aside0.mk hm4_; clear hm1_ hm3_ hm4_
      have HX1 := Aside0.mk hR1; have HI2 := Aside0.mk (rdF_rng HBT.out hR1); have RB2 := Aside0.mk hb2_; have HK2 := Aside0.mk (HKr.out.then_ hk_ (fun _ h => .inl h))
      have HO2 := Aside0.mk (Kd.S_kept (Kd.S_mono (ok' := fun k_ => w.heap.size ≤ k_ ∧ ¬ wr.heap.size ≤ k_) (Kd.S_bound HO.out) (fun k_ h_ => ⟨h_.1, by have := h_.2.2.1; omega⟩)) hk_.kept (fun k_ h_ e_ => by have := HBw.out; have := h_.1; omega))
      have HB2 := Aside0.mk hk_.1
      clear hR1 hb2_ hk_
      go_wp2_with (((with_reducible refine gate_builtin (b := .append) (xs := #[.tmp 18, .tmp 21]) rfl ?_); at_builtin; refine Kd.S_append k54 (w0 := W2) w.heap.size rfl (.tmp 18) (.tmp 21) 23 54 (.agg #[(.string ⟨#[]⟩), (.slice none 0 0), (.int .i64 0), (.slice none 0 0), (.slice none 0 0)]) 96 rfl Tryd.underlying23 info54 rfl (by decide) (by omega) (.slice Ao_ done.length co_) done x [.string x.f0, .slice A1_ x.f1.length c1_, .int .i64 x.f2, .slice A3_ x.f3.length c3_, .slice A4_ x.f4.length c4_] (fun k_ => w.heap.size ≤ k_) (fun k => wr.heap.size ≤ k) rfl rfl ?aP ?aK ?aF ?aO ?aB ?aS ?aL ?_; (case aP => exact k54_mkM _ _ _ x (Kd.R_lower HM1_.out HKr.out.1) (Kd.R_lower HM3_.out HKr.out.1) (Kd.R_lower HM4_.out HKr.out.1)); (case aK => exact fun k_ h_ => ⟨Nat.le_trans HKr.out.1 h_, fun e_ => by have := HLT2.out k_ e_.symm; omega⟩); (case aF => exact fun k_ h_ => Nat.le_trans HK2.out.1 h_); (case aO => exact HO2.out); (case aB => exact Below.refl _ _); (case aS => exact HK2.out.1); (case aL => have h1_ := HKN.out; have h2_ := HLT.out; have h3_ := HM.out; have h4_ := HN.out; have h5_ : ¬ most < n := of_decide_eq_false d1; omega); intro v1 w1 hR1 hb1 hg1 hat1))
      have HO3 := Aside0.mk hR1
      have hlt_ : B < W2.heap.size := Nat.lt_of_lt_of_le HBw.out HK2.out.1
      have hne_ : ∀ k_, (Value.slice Ao_ done.length co_).ownBlock = some k_ → w.heap.size ≤ k_ := fun k_ h_ => Kd.S_base HO2.out k_ h_
      have HK3 : Aside0 (Kp w w1 (fun k_ => k_ = B)) := ⟨Kp.of_grown hg1 HK2.out (fun k_ h_ => .inr (hne_ k_ h_))⟩
      have RB3 : Aside0 (RdB w1 B A l.length c i2) := ⟨(hg1.block B hlt_ (fun e_ => by have := hne_ B e_.symm; have := HBw.out; omega)).trans RB2.out⟩
      clear hR1 hb1 hg1 hat1 hlt_ hne_
      have hkn_ : (k : Int) + 1 ≤ 9223372036854775807 := by have := HLT.out; have := HN.out; omega
      have HKNX := Aside0.mk hkn_
      clear hkn_
      go_wp2
      rw [w64_succ k HKNX.out]
      exact ⟨⟨k + 1, done ++ [x], i2, rfl, ⟨HLT.out, by rw [List.length_append, HKN.out.2]; rfl⟩, ⟨by
          have e1 := HRk.out
          rw [show n.toNat - k = (n.toNat - (k + 1)) + 1 by have := HLT.out; omega, rdRow, HX1.out, Option.bind_some] at e1
          rw [e1]
          cases rdRow (rdF l) (n.toNat - (k + 1)) i2 with
          | none => rfl
          | some b => simp [List.append_assoc]⟩, HI2, HO3, RB3, HK3⟩, by have := HLT.out; simp only [intOf, Int.toNat_natCast]; omega⟩
    · have z1 : decide ((k : Int) < n) = false := decide_eq_false (by omega)
      have HLT := Aside0.mk hlt
      clear hlt hk hnn
      go_wp2
      go_ret
      rw [show R = some (done, ik) from by
        have e1 := HRk.out
        rw [show n.toNat - k = 0 by have := HLT.out; omega, rdRow] at e1
        rw [e1]; simp]
      exact ⟨HKr.out, ⟨_, rfl, HO.out⟩, RBr.out⟩
end Go.Proofs.YteidgpaakoeefaaDoor
namespace Go.Proofs.YteidgpaakoeefaaDoor
open Go.RowKit Go.Proofs.YteidgpaakoeefaaDoorW.PrintWords Go.Proofs.YteidgpaakoeefaaDoorW.PrintLast Go.Proofs.YteidgpaakoeefaaDoorW.PrintMore
set_option linter.unusedVariables false
set_option linter.unusedSimpArgs false
open PIm
theorem assert28 (m : Int) (W : World) : (Instr.typeAssert (.iface 28 (.int .i64 m)) 20 28 true).run Tryd.prog W = .ok (.tuple #[.int .i64 m, .bool true]) W := by kernel_rfl
set_option maxHeartbeats 2000000 in
set_option maxRecDepth 100000 in
theorem catch_idle (px pe : Nat) (w : World) :
    CallsD Tryd.prog 41 #[.pointer (some ⟨px, 0, none⟩), .pointer (some ⟨pe, 0, none⟩)] .returning w fun e u' w' => e = .returned (.tuple #[]) ∧ u' = .returning ∧ w' = w := by
  refine callsD_of_wpS Tryd.func41 rfl fun c₀ cs hu => ?_
  apply wpS_seq
  apply wpS_region
  simp [wpOpsS, go_sem, recoverD, hu, Tryd.ntmps41, Exit.thenS]
  refine wpS_of_wp ?_
  go_wp2
  cases c₀
  simp_all [bodyPostS, results, Tryd.results41]
set_option maxHeartbeats 2000000 in
set_option maxRecDepth 100000 in
theorem catch_panic (px pe : Nat) (m y : Int) (a b : Value) (older : List PanicEntry) (w : World) (hx : w.heap[px]? = some (.cells #[a, b] 25 (0, 0))) (he : w.heap[pe]? = some (.cells #[.int .i64 y] 28 (0, 0))) (hne : px ≠ pe) :
    CallsD Tryd.prog 41 #[.pointer (some ⟨px, 0, none⟩), .pointer (some ⟨pe, 0, none⟩)] (.panicking ({ v := .iface 28 (.int .i64 m), recovered := false } :: older)) w
      fun e u' w' => e = .returned (.tuple #[]) ∧ u' = .panicking ({ v := .iface 28 (.int .i64 m), recovered := true } :: older) ∧ w' = ((w.setCell ⟨px, 0, none⟩ (.slice none 0 0)).setCell ⟨px, 1, none⟩ (.slice none 0 0)).setCell ⟨pe, 0, none⟩ (.int .i64 150) := by
  have hc0 : w.cell? ⟨px, 0, none⟩ = some a := (blk_cell hx 0).trans rfl
  have hc1 : w.cell? ⟨px, 1, none⟩ = some b := (blk_cell hx 1).trans rfl
  have hc2 : w.cell? ⟨pe, 0, none⟩ = some (.int .i64 y) := (blk_cell he 0).trans rfl
  have hf0 := blk_frozen hx 0
  have hf1 := blk_frozen hx 1
  have hf2 := blk_frozen he 0
  have hta := assert28
  refine callsD_of_wpS Tryd.func41 rfl fun c₀ cs hu => ?_
  apply wpS_seq
  apply wpS_region
  simp [wpOpsS, go_sem, recoverD, hu, Tryd.ntmps41, Exit.thenS]
  refine wpS_of_wp ?_
  clear hx he hu
  go_wp2
  simp [bodyPostS, results, Tryd.results41]
end Go.Proofs.YteidgpaakoeefaaDoor
namespace Go.Proofs.YteidgpaakoeefaaDoor
open Go.RowKit Go.Proofs.YteidgpaakoeefaaDoorW.PrintWords Go.Proofs.YteidgpaakoeefaaDoorW.PrintLast Go.Proofs.YteidgpaakoeefaaDoorW.PrintMore
set_option linter.unusedVariables false
set_option linter.unusedSimpArgs false
open PIm
theorem ok_f (gs : List S48) (fs : List S54) (hg : gs.length ≤ 140737488355318) (hf : fs.length ≤ 140737488355318) (hfin : ∀ f ∈ fs, fnIn f) : image_ok.f gs fs = some (okF gs fs) := by
  have e1 : api_Glob_52.f gs 53 = some (gs.any fun x => !globB x) := by unfold api_Glob_52.f; rw [if_pos hg]
  have e2 : api_Fn_55.f fs 56 = some (fs.any fun x => !fnB x) := by unfold api_Fn_55.f; rw [if_pos ⟨hf, hfin⟩]
  unfold image_ok.f okF
  rw [e1, e2, Option.bind_some, Option.bind_some]
  generalize (gs.any fun x => !globB x) = b1
  generalize (fs.any fun x => !fnB x) = b2
  by_cases h1 : gs.length ≤ 64
  · by_cases h2 : fs.length ≤ 64
    · rw [if_pos (show (gs.length : Int) ≤ 64 by omega), if_pos (show (fs.length : Int) ≤ 64 by omega), decide_eq_true h1, decide_eq_true h2]
      cases b1 <;> cases b2 <;> rfl
    · rw [if_pos (show (gs.length : Int) ≤ 64 by omega), if_neg (show ¬ (fs.length : Int) ≤ 64 by omega), decide_eq_true h1, decide_eq_false h2]; rfl
  · rw [if_neg (show ¬ (gs.length : Int) ≤ 64 by omega), decide_eq_false h1]; rfl
theorem enc_f (gs : List S48) (fs : List S54) (hg : gs.length ≤ 140737488355318) (hf : fs.length ≤ 140737488355318) (hfin : ∀ f ∈ fs, fnIn f)
    (hr : okF gs fs = true → (∀ x ∈ gs, rngG x) ∧ (∀ f ∈ fs, rngF f) ∧ (bodyF gs fs).length ≤ 140737488355318) : image_Encode.f gs fs = some (encF gs fs) := by
  unfold image_Encode.f encF
  rw [ok_f gs fs hg hf hfin, Option.bind_some]
  cases hok : okF gs fs with
  | false => rw [if_neg (by decide), if_neg (by decide)]
  | true =>
    obtain ⟨h1, h2, h3⟩ := hr hok
    have hb : (bodyF gs fs).length = ([84, 73, 76, 84] ++ rowG gs ++ rowF fs : List Int).length := rfl
    rw [hb, List.length_append] at h3
    have e1 : api_Glob_23.f [84, 73, 76, 84] gs 24 = some ([84, 73, 76, 84] ++ rowG gs) := by
      unfold api_Glob_23.f
      rw [if_pos ⟨by rw [List.append_assoc]; exact (by omega : ([84, 73, 76, 84] ++ rowG gs : List Int).length < 140737488355328), hg, h1⟩]
    have e2 : api_Fn_27.f ([84, 73, 76, 84] ++ rowG gs) fs 28 = some (bodyF gs fs) := by
      unfold api_Fn_27.f
      rw [if_pos ⟨by rw [List.append_assoc]; show (([84, 73, 76, 84] ++ rowG gs) ++ rowF fs : List Int).length < _; rw [List.length_append]; omega, hf, h2⟩]
      rfl
    have e3 : wire_Frame.f (bodyF gs fs) = some (frameF (bodyF gs fs)) := by
      unfold wire_Frame.f
      rw [if_pos (by rw [hb, List.length_append]; exact h3)]
    rw [if_pos rfl, e1, Option.bind_some, e2, Option.bind_some, e3, Option.bind_some, if_pos rfl]
    by_cases h : 1048576 < (frameF (bodyF gs fs)).length
    · rw [if_pos (show ((frameF (bodyF gs fs)).length : Int) > 1048576 by omega), if_pos h]
    · rw [if_neg (show ¬ ((frameF (bodyF gs fs)).length : Int) > 1048576 by omega), if_neg h]
end Go.Proofs.YteidgpaakoeefaaDoor
namespace Go.Proofs.YteidgpaakoeefaaDoor
open Go.RowKit Go.Proofs.YteidgpaakoeefaaDoorW.PrintWords Go.Proofs.YteidgpaakoeefaaDoorW.PrintLast Go.Proofs.YteidgpaakoeefaaDoorW.PrintMore
set_option linter.unusedVariables false
set_option linter.unusedSimpArgs false
open PIm
def rdAll (b : List Int) : Option ((List S48 × List S54) × Int) := (rdRows (rdG b) 64 b 4).bind fun g => (rdRows (rdF b) 64 b g.2).bind fun f => some ((g.1, f.1), f.2)
def badI : List S48 × List S54 × Int := ([], [], 150)
def decF (l : List Int) : List S48 × List S54 × Int :=
  if 1048576 < l.length then ([], [], 2)
  else if (opF l).2 = false ∨ (opF l).1.length < 4 ∨ (opF l).1.take 4 ≠ [84, 73, 76, 84] then badI
  else match rdAll (opF l).1 with
    | none => badI
    | some (r, j) => if j = ((opF l).1.length : Int) ∧ okF r.1 r.2 = true then (r.1, r.2, 0) else badI
theorem opF_sub (l : List Int) : ∀ x ∈ (opF l).1, x ∈ l := by
  unfold opF
  intro x hx
  split at hx
  · cases hx
  · split at hx
    · exact List.mem_of_mem_take hx
    · cases hx
theorem opF_len (l : List Int) : (opF l).1.length ≤ l.length := by
  unfold opF
  split
  · exact Nat.zero_le _
  · split
    · simp only [List.length_take]; omega
    · exact Nat.zero_le _
theorem rdF_in {l : List Int} {i j : Int} {x : S54} (hb : ∀ x ∈ l, 0 ≤ x ∧ x < 256) (h : rdF l i = some (x, j)) : fnIn x := by
  unfold rdF at h
  rcases h1 : rdT l i with _ | ⟨a, i1⟩
  · rw [h1] at h; cases h
  rw [h1, Option.bind_some] at h
  rcases h2 : rdRows (rdN l) 8 l i1 with _ | ⟨b, i2⟩
  · rw [h2] at h; cases h
  rw [h2, Option.bind_some] at h
  rcases h3 : rdN l i2 with _ | ⟨n, i3⟩
  · rw [h3] at h; cases h
  rw [h3, Option.bind_some] at h
  rcases h4 : rdRows (rdN l) 32 l i3 with _ | ⟨m, i4⟩
  · rw [h4] at h; cases h
  rw [h4, Option.bind_some] at h
  rcases h5 : rdRows (rdC l) 32768 l i4 with _ | ⟨d, i5⟩
  · rw [h5] at h; cases h
  rw [h5, Option.bind_some] at h
  injection h with h; injection h with h _
  rw [← h]
  have e2 := rdRows_len hb h2
  have e4 := rdRows_len hb h4
  have e5 := rdRows_len hb h5
  have e1 : a.size ≤ 65536 := by
    have hr := tk_range l i 9 (by decide) (by decide) hb
    unfold rdT rtF at h1
    generalize tk l i 9 = t at h1 hr
    obtain ⟨z, p, e⟩ := t
    simp only [] at h1 hr
    by_cases q1 : e ≠ 0
    · rw [if_pos q1, if_neg q1] at h1; cases h1
    rw [if_neg q1] at h1
    by_cases q2 : 65536 < z
    · rw [if_pos q2, if_neg (by decide)] at h1; cases h1
    rw [if_neg q2] at h1
    by_cases q3 : (l.length : Int) - p < z
    · rw [if_pos q3, if_neg (by decide)] at h1; cases h1
    rw [if_neg q3, if_pos rfl] at h1
    injection h1 with h1; injection h1 with h1 _
    have h6 : strOfNums ((l.take (p + z).toNat).drop p.toNat) = a := h1
    rw [← h6, strOfNums_size]
    simp only [List.length_drop, List.length_take]
    omega
  exact ⟨by show a.size ≤ _; omega, by show b.length ≤ _; omega, by show (b ++ m).length ≤ _; rw [List.length_append]; omega, by show d.length ≤ _; omega⟩
theorem rdRow_all {α : Type} {one : Int → Option (α × Int)} {P : α → Prop} (ho : ∀ i x j, one i = some (x, j) → P x) : ∀ (n : Nat) (i : Int) (r : List α) (j : Int), rdRow one n i = some (r, j) → ∀ x ∈ r, P x
  | 0, i, r, j, h => by unfold rdRow at h; injection h with h; injection h with h _; rw [← h]; intro x hx; cases hx
  | n + 1, i, r, j, h => by
    unfold rdRow at h
    rcases h1 : one i with _ | ⟨a, i1⟩
    · rw [h1] at h; cases h
    rw [h1, Option.bind_some] at h
    rcases h2 : rdRow one n i1 with _ | ⟨b, i2⟩
    · rw [h2] at h; cases h
    rw [h2, Option.bind_some] at h
    injection h with h; injection h with h _
    rw [← h]
    intro x hx
    rcases List.mem_cons.1 hx with rfl | hx
    · exact ho _ _ _ h1
    · exact rdRow_all ho n i1 b i2 h2 x hx
theorem rdRows_all {α : Type} {one : Int → Option (α × Int)} {P : α → Prop} (ho : ∀ i x j, one i = some (x, j) → P x) {most : Int} {l : List Int} {i : Int} {r : List α} {j : Int} (h : rdRows one most l i = some (r, j)) : ∀ x ∈ r, P x := by
  unfold rdRows at h
  rcases h1 : rdN l i with _ | ⟨a, i1⟩
  · rw [h1] at h; cases h
  rw [h1, Option.bind_some] at h
  split at h
  · cases h
  · exact rdRow_all ho _ _ _ _ h
theorem tilt_list : (strOfNums [84, 73, 76, 84]).toList = [84, 73, 76, 84] := by kernel_rfl
theorem dec_results (tmps : Array Value) (px pe : Nat) (a b : Value) (y : Int) (W : World) (hp : tmps.getD 2 undef = .pointer (some ⟨px, 0, none⟩)) (hq : tmps.getD 3 undef = .pointer (some ⟨pe, 0, none⟩))
    (hx : W.heap[px]? = some (.cells #[a, b] 25 (0, 0))) (he : W.heap[pe]? = some (.cells #[.int .i64 y] 28 (0, 0))) :
    (results Tryd.f17 tmps).run Tryd.prog W = .ok (.tuple #[.agg #[a, b], .int .i64 y]) W := by
  have hc : W.cell? ⟨pe, 0, none⟩ = some (.int .i64 y) := (blk_cell he 0).trans rfl
  have h1 := run_loadVar_row (P := Tryd.prog) W px 25 25 #[a, b] (0, 0) _ hx Tryd.underlying25 rfl (by kernel_rfl)
  have h2 : (loadVar 28 ⟨pe, 0, none⟩).run Tryd.prog W = .ok (.int .i64 y) W := by
    simp [go_sem, hc]
  have hp' : tmps[2]?.getD undef = .pointer (some ⟨px, 0, none⟩) := by simpa using hp
  have hq' : tmps[3]?.getD undef = .pointer (some ⟨pe, 0, none⟩) := by simpa using hq
  unfold results
  rw [Tryd.results17]
  simp [hp', hq', asAddr, h1, h2]
theorem dec_leave {fn : Func} {tmps : Array Value} {R : Ending → World → Prop} {w : World} {v : Value} (hr : (results fn tmps).run Tryd.prog w = .ok v w) (hR : R (.returned v) w) : Leaves Tryd.prog fn tmps R [] .returning w := by
  unfold Leaves
  exact ⟨v, hr, hR⟩
theorem dec_post {fn : Func} {a : Act} {R : Ending → World → Prop} {w : World} {v : Value} (hd : a.defers = []) (hr : (results fn a.tmps).run Tryd.prog w = .ok v w) (hR : R (.returned v) w) : bodyPostD Tryd.prog fn R .ret a w := by
  show Leaves Tryd.prog fn a.tmps R a.defers .returning w
  rw [hd]
  exact dec_leave hr hR
set_option maxHeartbeats 8000000 in
set_option maxRecDepth 100000 in
theorem Decode_calls (A0 : Option Addr) (c0 : Nat) (l : List Int) (w : World) (hr0 : Kd.C (Kd.int .u8) w A0 l.length l) (hc0 : l.length ≤ c0) (hl : l.length ≤ 140737488355318) (hbt : ∀ x ∈ l, 0 ≤ x ∧ x < 256) (hT : Tab w) :
    Calls Tryd.prog 17 #[.slice A0 l.length c0] w
      fun e w' => ∃ v0 v1, e = .returned (.tuple #[.agg #[v0, v1], .int .i64 (decF l).2.2]) ∧ Kd.R k48 48 w' w.heap.size (fun _ => True) v0 (decF l).1 ∧ Kd.S k54 54 w' w.heap.size (fun _ => True) v1 (decF l).2.1 ∧ Below w.heap.size w w' := by
  have HB := Aside0.mk (Below.refl w.heap.size w)
  obtain ⟨R, hR⟩ : ∃ R, R = decF l := ⟨_, rfl⟩
  rw [← hR]
  obtain ⟨rest, is, hop⟩ : ∃ r b, opF l = (r, b) := ⟨_, _, rfl⟩
  have hrs : ∀ x ∈ rest, 0 ≤ x ∧ x < 256 := fun x hx => hbt x (opF_sub l x (by rw [hop]; exact hx))
  have hrl : rest.length ≤ l.length := by have := opF_len l; rw [hop] at this; exact this
  have hopen : wire_Open.f l = some (rest, is) := by unfold wire_Open.f; rw [if_pos hl, hop]
  unfold decF at hR
  rw [hop] at hR
  have HRR := Aside0.mk hR; have HR0 := Aside0.mk hr0; have HC0 := Aside0.mk hc0; have HL := Aside0.mk hl; have HRS := Aside0.mk hrs; have HRL := Aside0.mk hrl; have HT := Aside0.mk hT; have HOP := Aside0.mk hopen
  have hmf : ∀ (fn : Fn) (first cap : Array Value) (w : World), (Instr.makeFunc fn first cap).run Tryd.prog w = .ok (.func fn first cap) w := fun _ _ _ _ => rfl
  clear hR hr0 hc0 hl hbt hT hop hrs hrl hopen
  by_cases hbig : 1048576 < l.length
  · have d1 : decide ((1048576 : Int) < (l.length : Int)) = true := decide_eq_true (by omega)
    have HR2 : Aside0 (R = ([], [], 2)) := ⟨HRR.out.trans (if_pos hbig)⟩
    clear hbig HRR
    go_enter_defers Tryd.func17, Tryd.ntmps17
    go_wp2_with (first | ((with_reducible refine gate_dst (N := 2) rfl ?_); refine box_event ?hg (N := 2) ?hd (cs := #[.slice none 0 0, .slice none 0 0]) (t := 25) ?hr ?_; (case hd => rfl); (case hg => rfl); (case hr => first | (go_simp; done) | (go_simp; rfl)); intro px hg_ W1 hbox_ hb_; have GEpx := Aside0.mk ((by rw [hg_]; exact (below_size HB.out)) : w.heap.size ≤ px); clear hg_; have n_ := Aside0.mk (below_step HB.out hb_); clear HB; have HB := n_; clear n_; have BKpx := Aside0.mk hbox_; clear hbox_ hb_; have hcpx_0 : W1.cell? ⟨px, 0, none⟩ = some (.slice none 0 0) := (blk_cell BKpx.out 0).trans rfl; have hfpx_0 := blk_frozen BKpx.out 0; have hcpx_1 : W1.cell? ⟨px, 1, none⟩ = some (.slice none 0 0) := (blk_cell BKpx.out 1).trans rfl; have hfpx_1 := blk_frozen BKpx.out 1) | ((with_reducible refine gate_dst (N := 3) rfl ?_); refine box_event ?hg (N := 3) ?hd (cs := #[.int .i64 0]) (t := 28) ?hr ?_; (case hd => rfl); (case hg => rfl); (case hr => first | (go_simp; done) | (go_simp; rfl)); intro pe hg_ W2 hbox_ hb_; have GEpe := Aside0.mk ((by rw [hg_]; exact (below_size HB.out)) : w.heap.size ≤ pe); have NBpx_pe : px ≠ pe := (by rw [hg_]; exact Nat.ne_of_lt (blk_lt BKpx.out)); have NBpe_px : pe ≠ px := Ne.symm NBpx_pe; clear hg_; have n_ := Aside0.mk (blk_below BKpx.out hb_); clear BKpx; have BKpx := n_; clear n_; clear hcpx_0 hfpx_0; clear hcpx_1 hfpx_1; have n_ := Aside0.mk (below_step HB.out hb_); clear HB; have HB := n_; clear n_; have BKpe := Aside0.mk hbox_; clear hbox_ hb_; have hcpx_0 : W2.cell? ⟨px, 0, none⟩ = some (.slice none 0 0) := (blk_cell BKpx.out 0).trans rfl; have hfpx_0 := blk_frozen BKpx.out 0; have hcpx_1 : W2.cell? ⟨px, 1, none⟩ = some (.slice none 0 0) := (blk_cell BKpx.out 1).trans rfl; have hfpx_1 := blk_frozen BKpx.out 1; have hcpe_0 : W2.cell? ⟨pe, 0, none⟩ = some (.int .i64 0) := (blk_cell BKpe.out 0).trans rfl; have hfpe_0 := blk_frozen BKpe.out 0))
    have n_ : Aside0 (((W2.setCell ⟨px, 0, none⟩ (.slice none 0 0)).setCell ⟨px, 1, none⟩ (.slice none 0 0)).heap[px]? = some (.cells #[.slice none 0 0, .slice none 0 0] 25 (0, 0))) := ⟨by refine blk_put (cs := #[.slice none 0 0, .slice none 0 0]) ?_ 1 _ rfl; refine blk_put (cs := #[.slice none 0 0, .slice none 0 0]) ?_ 0 _ rfl; exact BKpx.out⟩
    have m_ : Aside0 (((W2.setCell ⟨px, 0, none⟩ (.slice none 0 0)).setCell ⟨px, 1, none⟩ (.slice none 0 0)).heap[pe]? = some (.cells #[.int .i64 0] 28 (0, 0))) := ⟨(blk_far (blk_far BKpe.out NBpe_px _) NBpe_px _)⟩
    clear BKpe; have BKpe := m_; clear m_
    have b_ : Aside0 (Below w.heap.size w ((W2.setCell ⟨px, 0, none⟩ (.slice none 0 0)).setCell ⟨px, 1, none⟩ (.slice none 0 0))) := ⟨(below_set (below_set HB.out GEpx.out) GEpx.out)⟩
    clear BKpx HB; have BKpx := n_; have HB := b_; clear n_ b_
    clear hcpx_0 hfpx_0
    clear hcpx_1 hfpx_1
    clear hcpe_0 hfpe_0
    generalize ((W2.setCell ⟨px, 0, none⟩ (.slice none 0 0)).setCell ⟨px, 1, none⟩ (.slice none 0 0)) = W3 at *
    have hcpx_0 : W3.cell? ⟨px, 0, none⟩ = some (.slice none 0 0) := (blk_cell BKpx.out 0).trans rfl
    have hfpx_0 := blk_frozen BKpx.out 0
    have hcpx_1 : W3.cell? ⟨px, 1, none⟩ = some (.slice none 0 0) := (blk_cell BKpx.out 1).trans rfl
    have hfpx_1 := blk_frozen BKpx.out 1
    have hcpe_0 : W3.cell? ⟨pe, 0, none⟩ = some (.int .i64 0) := (blk_cell BKpe.out 0).trans rfl
    have hfpe_0 := blk_frozen BKpe.out 0
    have n_ : Aside0 ((W3.setCell ⟨pe, 0, none⟩ (.int .i64 2)).heap[pe]? = some (.cells #[.int .i64 2] 28 (0, 0))) := ⟨by refine blk_put (cs := #[.int .i64 0]) ?_ 0 _ rfl; exact BKpe.out⟩
    have m_ : Aside0 ((W3.setCell ⟨pe, 0, none⟩ (.int .i64 2)).heap[px]? = some (.cells #[.slice none 0 0, .slice none 0 0] 25 (0, 0))) := ⟨(blk_far BKpx.out NBpx_pe _)⟩
    clear BKpx; have BKpx := m_; clear m_
    have b_ : Aside0 (Below w.heap.size w (W3.setCell ⟨pe, 0, none⟩ (.int .i64 2))) := ⟨(below_set HB.out GEpe.out)⟩
    clear BKpe HB; have BKpe := n_; have HB := b_; clear n_ b_
    clear hcpx_0 hfpx_0
    clear hcpx_1 hfpx_1
    clear hcpe_0 hfpe_0
    generalize (W3.setCell ⟨pe, 0, none⟩ (.int .i64 2)) = W4 at *
    have hcpx_0 : W4.cell? ⟨px, 0, none⟩ = some (.slice none 0 0) := (blk_cell BKpx.out 0).trans rfl
    have hfpx_0 := blk_frozen BKpx.out 0
    have hcpx_1 : W4.cell? ⟨px, 1, none⟩ = some (.slice none 0 0) := (blk_cell BKpx.out 1).trans rfl
    have hfpx_1 := blk_frozen BKpx.out 1
    have hcpe_0 : W4.cell? ⟨pe, 0, none⟩ = some (.int .i64 2) := (blk_cell BKpe.out 0).trans rfl
    have hfpe_0 := blk_frozen BKpe.out 0
    refine dec_post rfl (dec_results _ px pe _ _ _ _ rfl rfl BKpx.out BKpe.out) ?_
    exact ⟨.slice none 0 0, .slice none 0 0, by rw [HR2.out] <;> rfl, by rw [HR2.out]; exact Kd.R_nil _ _ _ _ _, by rw [HR2.out]; exact Kd.S_nil _ _ _ _ _, HB.out⟩
  have d1 : decide ((1048576 : Int) < (l.length : Int)) = false := decide_eq_false (by omega)
  have HR2 := Aside0.mk (HRR.out.trans (if_neg hbig)); have HBG := Aside0.mk hbig
  clear hbig HRR
  go_enter_defers Tryd.func17, Tryd.ntmps17
  go_wp2_with (first | ((with_reducible refine gate_dst (N := 2) rfl ?_); refine box_event ?hg (N := 2) ?hd (cs := #[.slice none 0 0, .slice none 0 0]) (t := 25) ?hr ?_; (case hd => rfl); (case hg => rfl); (case hr => first | (go_simp; done) | (go_simp; rfl)); intro px hg_ W1 hbox_ hb_; have GEpx := Aside0.mk ((by rw [hg_]; exact (below_size HB.out)) : w.heap.size ≤ px); clear hg_; have n_ := Aside0.mk (below_step HB.out hb_); clear HB; have HB := n_; clear n_; have BKpx := Aside0.mk hbox_; clear hbox_ hb_; have hcpx_0 : W1.cell? ⟨px, 0, none⟩ = some (.slice none 0 0) := (blk_cell BKpx.out 0).trans rfl; have hfpx_0 := blk_frozen BKpx.out 0; have hcpx_1 : W1.cell? ⟨px, 1, none⟩ = some (.slice none 0 0) := (blk_cell BKpx.out 1).trans rfl; have hfpx_1 := blk_frozen BKpx.out 1) | ((with_reducible refine gate_dst (N := 3) rfl ?_); refine box_event ?hg (N := 3) ?hd (cs := #[.int .i64 0]) (t := 28) ?hr ?_; (case hd => rfl); (case hg => rfl); (case hr => first | (go_simp; done) | (go_simp; rfl)); intro pe hg_ W2 hbox_ hb_; have GEpe := Aside0.mk ((by rw [hg_]; exact (below_size HB.out)) : w.heap.size ≤ pe); have NBpx_pe : px ≠ pe := (by rw [hg_]; exact Nat.ne_of_lt (blk_lt BKpx.out)); have NBpe_px : pe ≠ px := Ne.symm NBpx_pe; clear hg_; have n_ := Aside0.mk (blk_below BKpx.out hb_); clear BKpx; have BKpx := n_; clear n_; clear hcpx_0 hfpx_0; clear hcpx_1 hfpx_1; have n_ := Aside0.mk (below_step HB.out hb_); clear HB; have HB := n_; clear n_; have BKpe := Aside0.mk hbox_; clear hbox_ hb_; have hcpx_0 : W2.cell? ⟨px, 0, none⟩ = some (.slice none 0 0) := (blk_cell BKpx.out 0).trans rfl; have hfpx_0 := blk_frozen BKpx.out 0; have hcpx_1 : W2.cell? ⟨px, 1, none⟩ = some (.slice none 0 0) := (blk_cell BKpx.out 1).trans rfl; have hfpx_1 := blk_frozen BKpx.out 1; have hcpe_0 : W2.cell? ⟨pe, 0, none⟩ = some (.int .i64 0) := (blk_cell BKpe.out 0).trans rfl; have hfpe_0 := blk_frozen BKpe.out 0))
  ((with_reducible refine (wire_Open.calls A0 c0 l rest is _ (Kd.C_below HR0.out HB.out) HC0.out HOP.out (HT.out.below HB.out)).mono ?_); rintro e_ W3 ⟨v0, rfl, ho_, hb_⟩)
  have n_ := Aside0.mk (blk_below BKpx.out hb_); clear BKpx; have BKpx := n_; clear n_
  clear hcpx_0 hfpx_0
  clear hcpx_1 hfpx_1
  have n_ := Aside0.mk (blk_below BKpe.out hb_); clear BKpe; have BKpe := n_; clear n_
  clear hcpe_0 hfpe_0
  have n_ := Aside0.mk (below_step HB.out hb_); clear HB; have HB := n_; clear n_
  clear hb_
  have hcpx_0 : W3.cell? ⟨px, 0, none⟩ = some (.slice none 0 0) := (blk_cell BKpx.out 0).trans rfl
  have hfpx_0 := blk_frozen BKpx.out 0
  have hcpx_1 : W3.cell? ⟨px, 1, none⟩ = some (.slice none 0 0) := (blk_cell BKpx.out 1).trans rfl
  have hfpx_1 := blk_frozen BKpx.out 1
  have hcpe_0 : W3.cell? ⟨pe, 0, none⟩ = some (.int .i64 0) := (blk_cell BKpe.out 0).trans rfl
  have hfpe_0 := blk_frozen BKpe.out 0
  obtain ⟨Ar, cr, rfl, hcr_, hC_⟩ := Kd.R_reads ho_
  have HCR := Aside0.mk hcr_; have HO := Aside0.mk ho_; have HCC := Aside0.mk hC_
  clear ho_ hcr_ hC_
  cases is with
  | false =>
    have HR3 : Aside0 (R = badI) := ⟨HR2.out.trans (if_pos (.inl rfl))⟩
    clear HR2; have HR2 := HR3; clear HR3
    go_wp2
    have n_ : Aside0 (((W3.setCell ⟨px, 0, none⟩ (.slice none 0 0)).setCell ⟨px, 1, none⟩ (.slice none 0 0)).heap[px]? = some (.cells #[.slice none 0 0, .slice none 0 0] 25 (0, 0))) := ⟨by refine blk_put (cs := #[.slice none 0 0, .slice none 0 0]) ?_ 1 _ rfl; refine blk_put (cs := #[.slice none 0 0, .slice none 0 0]) ?_ 0 _ rfl; exact BKpx.out⟩
    have m_ : Aside0 (((W3.setCell ⟨px, 0, none⟩ (.slice none 0 0)).setCell ⟨px, 1, none⟩ (.slice none 0 0)).heap[pe]? = some (.cells #[.int .i64 0] 28 (0, 0))) := ⟨(blk_far (blk_far BKpe.out NBpe_px _) NBpe_px _)⟩
    clear BKpe; have BKpe := m_; clear m_
    have b_ : Aside0 (Below w.heap.size w ((W3.setCell ⟨px, 0, none⟩ (.slice none 0 0)).setCell ⟨px, 1, none⟩ (.slice none 0 0))) := ⟨(below_set (below_set HB.out GEpx.out) GEpx.out)⟩
    clear BKpx HB; have BKpx := n_; have HB := b_; clear n_ b_
    clear hcpx_0 hfpx_0
    clear hcpx_1 hfpx_1
    clear hcpe_0 hfpe_0
    generalize ((W3.setCell ⟨px, 0, none⟩ (.slice none 0 0)).setCell ⟨px, 1, none⟩ (.slice none 0 0)) = W4 at *
    have hcpx_0 : W4.cell? ⟨px, 0, none⟩ = some (.slice none 0 0) := (blk_cell BKpx.out 0).trans rfl
    have hfpx_0 := blk_frozen BKpx.out 0
    have hcpx_1 : W4.cell? ⟨px, 1, none⟩ = some (.slice none 0 0) := (blk_cell BKpx.out 1).trans rfl
    have hfpx_1 := blk_frozen BKpx.out 1
    have hcpe_0 : W4.cell? ⟨pe, 0, none⟩ = some (.int .i64 0) := (blk_cell BKpe.out 0).trans rfl
    have hfpe_0 := blk_frozen BKpe.out 0
    have n_ : Aside0 ((W4.setCell ⟨pe, 0, none⟩ (.int .i64 150)).heap[pe]? = some (.cells #[.int .i64 150] 28 (0, 0))) := ⟨by refine blk_put (cs := #[.int .i64 0]) ?_ 0 _ rfl; exact BKpe.out⟩
    have m_ : Aside0 ((W4.setCell ⟨pe, 0, none⟩ (.int .i64 150)).heap[px]? = some (.cells #[.slice none 0 0, .slice none 0 0] 25 (0, 0))) := ⟨(blk_far BKpx.out NBpx_pe _)⟩
    clear BKpx; have BKpx := m_; clear m_
    have b_ : Aside0 (Below w.heap.size w (W4.setCell ⟨pe, 0, none⟩ (.int .i64 150))) := ⟨(below_set HB.out GEpe.out)⟩
    clear BKpe HB; have BKpe := n_; have HB := b_; clear n_ b_
    clear hcpx_0 hfpx_0
    clear hcpx_1 hfpx_1
    clear hcpe_0 hfpe_0
    generalize (W4.setCell ⟨pe, 0, none⟩ (.int .i64 150)) = W5 at *
    have hcpx_0 : W5.cell? ⟨px, 0, none⟩ = some (.slice none 0 0) := (blk_cell BKpx.out 0).trans rfl
    have hfpx_0 := blk_frozen BKpx.out 0
    have hcpx_1 : W5.cell? ⟨px, 1, none⟩ = some (.slice none 0 0) := (blk_cell BKpx.out 1).trans rfl
    have hfpx_1 := blk_frozen BKpx.out 1
    have hcpe_0 : W5.cell? ⟨pe, 0, none⟩ = some (.int .i64 150) := (blk_cell BKpe.out 0).trans rfl
    have hfpe_0 := blk_frozen BKpe.out 0
    refine dec_post rfl (dec_results _ px pe _ _ _ _ rfl rfl BKpx.out BKpe.out) ?_
    exact ⟨.slice none 0 0, .slice none 0 0, by rw [HR2.out] <;> rfl, by rw [HR2.out]; exact Kd.R_nil _ _ _ _ _, by rw [HR2.out]; exact Kd.S_nil _ _ _ _ _, HB.out⟩
  | true =>
    by_cases h4 : rest.length < 4
    · have d4 : decide ((rest.length : Int) < 4) = true := decide_eq_true (by omega)
      have H4 := Aside0.mk h4; clear h4
      have HR3 : Aside0 (R = badI) := ⟨HR2.out.trans (if_pos (.inr (.inl H4.out)))⟩
      clear HR2; have HR2 := HR3; clear HR3
      go_wp2
      have n_ : Aside0 (((W3.setCell ⟨px, 0, none⟩ (.slice none 0 0)).setCell ⟨px, 1, none⟩ (.slice none 0 0)).heap[px]? = some (.cells #[.slice none 0 0, .slice none 0 0] 25 (0, 0))) := ⟨by refine blk_put (cs := #[.slice none 0 0, .slice none 0 0]) ?_ 1 _ rfl; refine blk_put (cs := #[.slice none 0 0, .slice none 0 0]) ?_ 0 _ rfl; exact BKpx.out⟩
      have m_ : Aside0 (((W3.setCell ⟨px, 0, none⟩ (.slice none 0 0)).setCell ⟨px, 1, none⟩ (.slice none 0 0)).heap[pe]? = some (.cells #[.int .i64 0] 28 (0, 0))) := ⟨(blk_far (blk_far BKpe.out NBpe_px _) NBpe_px _)⟩
      clear BKpe; have BKpe := m_; clear m_
      have b_ : Aside0 (Below w.heap.size w ((W3.setCell ⟨px, 0, none⟩ (.slice none 0 0)).setCell ⟨px, 1, none⟩ (.slice none 0 0))) := ⟨(below_set (below_set HB.out GEpx.out) GEpx.out)⟩
      clear BKpx HB; have BKpx := n_; have HB := b_; clear n_ b_
      clear hcpx_0 hfpx_0
      clear hcpx_1 hfpx_1
      clear hcpe_0 hfpe_0
      generalize ((W3.setCell ⟨px, 0, none⟩ (.slice none 0 0)).setCell ⟨px, 1, none⟩ (.slice none 0 0)) = W4 at *
      have hcpx_0 : W4.cell? ⟨px, 0, none⟩ = some (.slice none 0 0) := (blk_cell BKpx.out 0).trans rfl
      have hfpx_0 := blk_frozen BKpx.out 0
      have hcpx_1 : W4.cell? ⟨px, 1, none⟩ = some (.slice none 0 0) := (blk_cell BKpx.out 1).trans rfl
      have hfpx_1 := blk_frozen BKpx.out 1
      have hcpe_0 : W4.cell? ⟨pe, 0, none⟩ = some (.int .i64 0) := (blk_cell BKpe.out 0).trans rfl
      have hfpe_0 := blk_frozen BKpe.out 0
      have n_ : Aside0 ((W4.setCell ⟨pe, 0, none⟩ (.int .i64 150)).heap[pe]? = some (.cells #[.int .i64 150] 28 (0, 0))) := ⟨by refine blk_put (cs := #[.int .i64 0]) ?_ 0 _ rfl; exact BKpe.out⟩
      have m_ : Aside0 ((W4.setCell ⟨pe, 0, none⟩ (.int .i64 150)).heap[px]? = some (.cells #[.slice none 0 0, .slice none 0 0] 25 (0, 0))) := ⟨(blk_far BKpx.out NBpx_pe _)⟩
      clear BKpx; have BKpx := m_; clear m_
      have b_ : Aside0 (Below w.heap.size w (W4.setCell ⟨pe, 0, none⟩ (.int .i64 150))) := ⟨(below_set HB.out GEpe.out)⟩
      clear BKpe HB; have BKpe := n_; have HB := b_; clear n_ b_
      clear hcpx_0 hfpx_0
      clear hcpx_1 hfpx_1
      clear hcpe_0 hfpe_0
      generalize (W4.setCell ⟨pe, 0, none⟩ (.int .i64 150)) = W5 at *
      have hcpx_0 : W5.cell? ⟨px, 0, none⟩ = some (.slice none 0 0) := (blk_cell BKpx.out 0).trans rfl
      have hfpx_0 := blk_frozen BKpx.out 0
      have hcpx_1 : W5.cell? ⟨px, 1, none⟩ = some (.slice none 0 0) := (blk_cell BKpx.out 1).trans rfl
      have hfpx_1 := blk_frozen BKpx.out 1
      have hcpe_0 : W5.cell? ⟨pe, 0, none⟩ = some (.int .i64 150) := (blk_cell BKpe.out 0).trans rfl
      have hfpe_0 := blk_frozen BKpe.out 0
      refine dec_post rfl (dec_results _ px pe _ _ _ _ rfl rfl BKpx.out BKpe.out) ?_
      exact ⟨.slice none 0 0, .slice none 0 0, by rw [HR2.out] <;> rfl, by rw [HR2.out]; exact Kd.R_nil _ _ _ _ _, by rw [HR2.out]; exact Kd.S_nil _ _ _ _ _, HB.out⟩
    have d4 : decide ((rest.length : Int) < 4) = false := decide_eq_false (by omega)
    have H4 := Aside0.mk h4
    have hcr4 : (4 : Int) ≤ (cr : Int) := by have := HCR.out; omega
    have htl : (rest.take 4).length = 4 := by rw [List.length_take]; omega
    have hC4 := Kd.C_take HCC.out (show 4 ≤ rest.length by omega)
    rw [htl] at hC4
    have hconv := Kd.C_string (P := Tryd.prog) Tryd.underlying30 Tryd.underlying5 Tryd.underlying9 (c := cr) hC4
    have HTL := Aside0.mk htl
    clear h4 htl hC4
    obtain ⟨s4, hs4⟩ : ∃ s, s = strOfNums (rest.take 4) := ⟨_, rfl⟩
    rw [← hs4] at hconv
    have HS4 := Aside0.mk hs4; clear hs4
    have hiff : s4.toList = [84, 73, 76, 84] ↔ rest.take 4 = [84, 73, 76, 84] := by
      rw [HS4.out, ← tilt_list]
      exact strList_inj (fun x hx => HRS.out x (List.mem_of_mem_take hx)) (by decide)
    by_cases hm : s4.toList = [84, 73, 76, 84]
    · have b4 : (s4.toList == [84, 73, 76, 84]) = true := by rw [hm]; rfl
      have HTK := Aside0.mk (hiff.1 hm)
      have HR3 : Aside0 (R = match rdAll rest with | none => badI | some (r, j) => if j = (rest.length : Int) ∧ okF r.1 r.2 = true then (r.1, r.2, 0) else badI) := ⟨HR2.out.trans (if_neg (fun h => h.elim (fun h => by cases h) (fun h => h.elim H4.out (fun h => h HTK.out))))⟩
      clear HR2; have HR2 := HR3; clear HR3 hm hiff
      go_wp2_with (first | ((with_reducible refine gate_dst (N := 33) rfl ?_); refine box_event ?hg (N := 33) ?hd (cs := #[.slice Ar rest.length cr, .int .i64 4]) (t := 78) ?hr ?_; (case hd => rfl); (case hg => rfl); (case hr => first | (go_simp; done) | (go_simp; rfl)); intro B hg_ W4 hbox_ hb_; have GEB := Aside0.mk ((by rw [hg_]; exact (below_size HB.out)) : w.heap.size ≤ B); have NBpx_B : px ≠ B := (by rw [hg_]; exact Nat.ne_of_lt (blk_lt BKpx.out)); have NBB_px : B ≠ px := Ne.symm NBpx_B; have NBpe_B : pe ≠ B := (by rw [hg_]; exact Nat.ne_of_lt (blk_lt BKpe.out)); have NBB_pe : B ≠ pe := Ne.symm NBpe_B; have HOB := Aside0.mk (Kd.R_mono (ok' := fun k_ => k_ ≠ B) (Kd.R_bound HO.out) (fun k_ h_ => by have := h_.2.2.1; rw [hg_]; omega)); clear hg_; have n_ := Aside0.mk (blk_below BKpx.out hb_); clear BKpx; have BKpx := n_; clear n_; clear hcpx_0 hfpx_0; clear hcpx_1 hfpx_1; have n_ := Aside0.mk (blk_below BKpe.out hb_); clear BKpe; have BKpe := n_; clear n_; clear hcpe_0 hfpe_0; have n_ := Aside0.mk (below_step HB.out hb_); clear HB; have HB := n_; clear n_; have BKB := Aside0.mk hbox_; have n_ := Aside0.mk (Kd.R_below HOB.out hb_); clear HOB; have HOB := n_; clear n_ hbox_ hb_; have hcpx_0 : W4.cell? ⟨px, 0, none⟩ = some (.slice none 0 0) := (blk_cell BKpx.out 0).trans rfl; have hfpx_0 := blk_frozen BKpx.out 0; have hcpx_1 : W4.cell? ⟨px, 1, none⟩ = some (.slice none 0 0) := (blk_cell BKpx.out 1).trans rfl; have hfpx_1 := blk_frozen BKpx.out 1; have hcpe_0 : W4.cell? ⟨pe, 0, none⟩ = some (.int .i64 0) := (blk_cell BKpe.out 0).trans rfl; have hfpe_0 := blk_frozen BKpe.out 0; have hcB_0 : W4.cell? ⟨B, 0, none⟩ = some (.slice Ar rest.length cr) := (blk_cell BKB.out 0).trans rfl; have hfB_0 := blk_frozen BKB.out 0; have hcB_1 : W4.cell? ⟨B, 1, none⟩ = some (.int .i64 4) := (blk_cell BKB.out 1).trans rfl; have hfB_1 := blk_frozen BKB.out 1))
      have HC := Aside0.mk (fun W' (hk_ : Kept W4 W' (fun k => k = B)) => Kd.C_kept_own HOB.out (fun k h e => h e) W' hk_)
      refine (rd_rows_glo B Ar cr rest 4 64 _ ⟨by decide, by decide⟩ BKB.out HC.out HCR.out HRS.out (by have := HRL.out; have := HBG.out; omega) (by decide) (by have := H4.out; omega)).mono ?_
      rintro e_ W5 ⟨hk_, h_⟩
      have hb_ := hk_.below_of HB.out GEB.out
      have n_ := Aside0.mk (blk_kept BKpx.out hk_.kept NBpx_B); clear BKpx; have BKpx := n_; clear n_
      have n_ := Aside0.mk (blk_kept BKpe.out hk_.kept NBpe_B); clear BKpe; have BKpe := n_; clear n_
      rcases hR0 : rdRows (rdG rest) 64 rest 4 with _ | ⟨x0, i1⟩
      · rw [hR0] at h_
        obtain ⟨m_, rfl⟩ := h_
        have HR3 : Aside0 (R = badI) := ⟨HR2.out.trans (by simp only [rdAll, hR0, Option.bind_none])⟩
        clear HR2 HB; have HR2 := HR3; have HB := Aside0.mk hb_; clear HR3 hk_ hb_ hR0
        clear hcpx_0 hfpx_0
        clear hcpx_1 hfpx_1
        clear hcpe_0 hfpe_0
        have hcpx_0 : W5.cell? ⟨px, 0, none⟩ = some (.slice none 0 0) := (blk_cell BKpx.out 0).trans rfl
        have hfpx_0 := blk_frozen BKpx.out 0
        have hcpx_1 : W5.cell? ⟨px, 1, none⟩ = some (.slice none 0 0) := (blk_cell BKpx.out 1).trans rfl
        have hfpx_1 := blk_frozen BKpx.out 1
        have hcpe_0 : W5.cell? ⟨pe, 0, none⟩ = some (.int .i64 0) := (blk_cell BKpe.out 0).trans rfl
        have hfpe_0 := blk_frozen BKpe.out 0
        go_wp2
        refine leaves_cons (f := 41) (args := #[.pointer (some ⟨px, 0, none⟩), .pointer (some ⟨pe, 0, none⟩)]) (by simp) (by simp [go_sem]) ?_
        refine (catch_panic px pe m_ 0 (.slice none 0 0) (.slice none 0 0) [] _ BKpx.out BKpe.out NBpx_pe).mono ?_
        rintro e_ u_ w_ ⟨rfl, rfl, rfl⟩
        show Leaves _ _ _ _ [] .returning _
        have n_ : Aside0 (((W5.setCell ⟨px, 0, none⟩ (.slice none 0 0)).setCell ⟨px, 1, none⟩ (.slice none 0 0)).heap[px]? = some (.cells #[.slice none 0 0, .slice none 0 0] 25 (0, 0))) := ⟨by refine blk_put (cs := #[.slice none 0 0, .slice none 0 0]) ?_ 1 _ rfl; refine blk_put (cs := #[.slice none 0 0, .slice none 0 0]) ?_ 0 _ rfl; exact BKpx.out⟩
        have m_ : Aside0 (((W5.setCell ⟨px, 0, none⟩ (.slice none 0 0)).setCell ⟨px, 1, none⟩ (.slice none 0 0)).heap[pe]? = some (.cells #[.int .i64 0] 28 (0, 0))) := ⟨(blk_far (blk_far BKpe.out NBpe_px _) NBpe_px _)⟩
        clear BKpe; have BKpe := m_; clear m_
        have b_ : Aside0 (Below w.heap.size w ((W5.setCell ⟨px, 0, none⟩ (.slice none 0 0)).setCell ⟨px, 1, none⟩ (.slice none 0 0))) := ⟨(below_set (below_set HB.out GEpx.out) GEpx.out)⟩
        clear BKpx HB; have BKpx := n_; have HB := b_; clear n_ b_
        clear hcpx_0 hfpx_0
        clear hcpx_1 hfpx_1
        clear hcpe_0 hfpe_0
        generalize ((W5.setCell ⟨px, 0, none⟩ (.slice none 0 0)).setCell ⟨px, 1, none⟩ (.slice none 0 0)) = W6 at *
        have hcpx_0 : W6.cell? ⟨px, 0, none⟩ = some (.slice none 0 0) := (blk_cell BKpx.out 0).trans rfl
        have hfpx_0 := blk_frozen BKpx.out 0
        have hcpx_1 : W6.cell? ⟨px, 1, none⟩ = some (.slice none 0 0) := (blk_cell BKpx.out 1).trans rfl
        have hfpx_1 := blk_frozen BKpx.out 1
        have hcpe_0 : W6.cell? ⟨pe, 0, none⟩ = some (.int .i64 0) := (blk_cell BKpe.out 0).trans rfl
        have hfpe_0 := blk_frozen BKpe.out 0
        have n_ : Aside0 ((W6.setCell ⟨pe, 0, none⟩ (.int .i64 150)).heap[pe]? = some (.cells #[.int .i64 150] 28 (0, 0))) := ⟨by refine blk_put (cs := #[.int .i64 0]) ?_ 0 _ rfl; exact BKpe.out⟩
        have m_ : Aside0 ((W6.setCell ⟨pe, 0, none⟩ (.int .i64 150)).heap[px]? = some (.cells #[.slice none 0 0, .slice none 0 0] 25 (0, 0))) := ⟨(blk_far BKpx.out NBpx_pe _)⟩
        clear BKpx; have BKpx := m_; clear m_
        have b_ : Aside0 (Below w.heap.size w (W6.setCell ⟨pe, 0, none⟩ (.int .i64 150))) := ⟨(below_set HB.out GEpe.out)⟩
        clear BKpe HB; have BKpe := n_; have HB := b_; clear n_ b_
        clear hcpx_0 hfpx_0
        clear hcpx_1 hfpx_1
        clear hcpe_0 hfpe_0
        generalize (W6.setCell ⟨pe, 0, none⟩ (.int .i64 150)) = W7 at *
        have hcpx_0 : W7.cell? ⟨px, 0, none⟩ = some (.slice none 0 0) := (blk_cell BKpx.out 0).trans rfl
        have hfpx_0 := blk_frozen BKpx.out 0
        have hcpx_1 : W7.cell? ⟨px, 1, none⟩ = some (.slice none 0 0) := (blk_cell BKpx.out 1).trans rfl
        have hfpx_1 := blk_frozen BKpx.out 1
        have hcpe_0 : W7.cell? ⟨pe, 0, none⟩ = some (.int .i64 150) := (blk_cell BKpe.out 0).trans rfl
        have hfpe_0 := blk_frozen BKpe.out 0
        refine dec_leave (dec_results _ px pe _ _ _ _ rfl rfl BKpx.out BKpe.out) ?_
        exact ⟨.slice none 0 0, .slice none 0 0, by rw [HR2.out] <;> rfl, by rw [HR2.out]; exact Kd.R_nil _ _ _ _ _, by rw [HR2.out]; exact Kd.S_nil _ _ _ _ _, HB.out⟩
      rw [hR0] at h_
      obtain ⟨⟨v0, rfl, hv0⟩, hb2_⟩ := h_
      obtain ⟨A0_, c0_, rfl⟩ := Kd.R_slice hv0
      have HV0 := Aside0.mk (Kd.R_mono (ok' := fun k_ => k_ ≠ B) (Kd.R_lower (base' := w.heap.size) hv0 (HB.out.size)) (fun k_ h_ e_ => by have h2_ : B < W4.heap.size := blk_lt BKB.out; omega))
      have n_ := Aside0.mk (Kd.R_kept HOB.out hk_.kept (fun k_ h_ => h_)); clear HOB; have HOB := n_; clear n_
      clear HC
      have HI1 := Aside0.mk (rdRows_rng HRS.out (fun i x j hi_ h => rdG_rng HRS.out h) hR0)
      have HX0 := Aside0.mk hR0; clear BKB HB hR0 hv0; have BKB := Aside0.mk hb2_; have HB := Aside0.mk hb_; clear hk_ hb_ hb2_
      clear hcpx_0 hfpx_0
      clear hcpx_1 hfpx_1
      clear hcpe_0 hfpe_0
      clear hcB_0 hfB_0
      clear hcB_1 hfB_1
      have hcpx_0 : W5.cell? ⟨px, 0, none⟩ = some (.slice none 0 0) := (blk_cell BKpx.out 0).trans rfl
      have hfpx_0 := blk_frozen BKpx.out 0
      have hcpx_1 : W5.cell? ⟨px, 1, none⟩ = some (.slice none 0 0) := (blk_cell BKpx.out 1).trans rfl
      have hfpx_1 := blk_frozen BKpx.out 1
      have hcpe_0 : W5.cell? ⟨pe, 0, none⟩ = some (.int .i64 0) := (blk_cell BKpe.out 0).trans rfl
      have hfpe_0 := blk_frozen BKpe.out 0
      have hcB_0 : W5.cell? ⟨B, 0, none⟩ = some (.slice Ar rest.length cr) := (blk_cell BKB.out 0).trans rfl
      have hfB_0 := blk_frozen BKB.out 0
      have hcB_1 : W5.cell? ⟨B, 1, none⟩ = some (.int .i64 i1) := (blk_cell BKB.out 1).trans rfl
      have hfB_1 := blk_frozen BKB.out 1
      go_wp2_with fail
      have q_ : Aside0 (Kd.R (Kd.int .u8) 5 (W5.setCell ⟨px, 0, none⟩ (.slice A0_ x0.length c0_)) _ (fun k_ => k_ ≠ B) (.slice Ar rest.length cr) rest) := ⟨(Kd.R_set HOB.out BKpx.out (by decide) 0 _)⟩; clear HOB; have HOB := q_; clear q_
      have q_ : Aside0 (Kd.R k48 48 (W5.setCell ⟨px, 0, none⟩ (.slice A0_ x0.length c0_)) w.heap.size (fun k_ => k_ ≠ B) (.slice A0_ x0.length c0_) x0) := ⟨(Kd.R_set HV0.out BKpx.out (by decide) 0 _)⟩; clear HV0; have HV0 := q_; clear q_
      have n_ : Aside0 ((W5.setCell ⟨px, 0, none⟩ (.slice A0_ x0.length c0_)).heap[px]? = some (.cells #[.slice A0_ x0.length c0_, .slice none 0 0] 25 (0, 0))) := ⟨by refine blk_put (cs := #[.slice none 0 0, .slice none 0 0]) ?_ 0 _ rfl; exact BKpx.out⟩
      have m_ : Aside0 ((W5.setCell ⟨px, 0, none⟩ (.slice A0_ x0.length c0_)).heap[pe]? = some (.cells #[.int .i64 0] 28 (0, 0))) := ⟨(blk_far BKpe.out NBpe_px _)⟩
      clear BKpe; have BKpe := m_; clear m_
      have m_ : Aside0 ((W5.setCell ⟨px, 0, none⟩ (.slice A0_ x0.length c0_)).heap[B]? = some (.cells #[.slice Ar rest.length cr, .int .i64 i1] 78 (0, 0))) := ⟨(blk_far BKB.out NBB_px _)⟩
      clear BKB; have BKB := m_; clear m_
      have b_ : Aside0 (Below w.heap.size w (W5.setCell ⟨px, 0, none⟩ (.slice A0_ x0.length c0_))) := ⟨(below_set HB.out GEpx.out)⟩
      clear BKpx HB; have BKpx := n_; have HB := b_; clear n_ b_
      clear hcpx_0 hfpx_0
      clear hcpx_1 hfpx_1
      clear hcpe_0 hfpe_0
      clear hcB_0 hfB_0
      clear hcB_1 hfB_1
      generalize (W5.setCell ⟨px, 0, none⟩ (.slice A0_ x0.length c0_)) = W6 at *
      have hcpx_0 : W6.cell? ⟨px, 0, none⟩ = some (.slice A0_ x0.length c0_) := (blk_cell BKpx.out 0).trans rfl
      have hfpx_0 := blk_frozen BKpx.out 0
      have hcpx_1 : W6.cell? ⟨px, 1, none⟩ = some (.slice none 0 0) := (blk_cell BKpx.out 1).trans rfl
      have hfpx_1 := blk_frozen BKpx.out 1
      have hcpe_0 : W6.cell? ⟨pe, 0, none⟩ = some (.int .i64 0) := (blk_cell BKpe.out 0).trans rfl
      have hfpe_0 := blk_frozen BKpe.out 0
      have hcB_0 : W6.cell? ⟨B, 0, none⟩ = some (.slice Ar rest.length cr) := (blk_cell BKB.out 0).trans rfl
      have hfB_0 := blk_frozen BKB.out 0
      have hcB_1 : W6.cell? ⟨B, 1, none⟩ = some (.int .i64 i1) := (blk_cell BKB.out 1).trans rfl
      have hfB_1 := blk_frozen BKB.out 1
      have HC := Aside0.mk (fun W' (hk_ : Kept W6 W' (fun k => k = B)) => Kd.C_kept_own HOB.out (fun k h e => h e) W' hk_)
      refine (rd_rows_fn B Ar cr rest i1 64 _ ⟨by decide, by decide⟩ BKB.out HC.out HCR.out HRS.out (by have := HRL.out; have := HBG.out; omega) HI1.out.1 HI1.out.2).mono ?_
      rintro e_ W7 ⟨hk_, h_⟩
      have hb_ := hk_.below_of HB.out GEB.out
      have n_ := Aside0.mk (blk_kept BKpx.out hk_.kept NBpx_B); clear BKpx; have BKpx := n_; clear n_
      have n_ := Aside0.mk (blk_kept BKpe.out hk_.kept NBpe_B); clear BKpe; have BKpe := n_; clear n_
      rcases hR1 : rdRows (rdF rest) 64 rest i1 with _ | ⟨x1, i2⟩
      · rw [hR1] at h_
        obtain ⟨m_, rfl⟩ := h_
        have HR3 : Aside0 (R = badI) := ⟨HR2.out.trans (by simp only [rdAll, HX0.out, hR1, Option.bind_some, Option.bind_none])⟩
        clear HR2 HB; have HR2 := HR3; have HB := Aside0.mk hb_; clear HR3 hk_ hb_ hR1
        clear hcpx_0 hfpx_0
        clear hcpx_1 hfpx_1
        clear hcpe_0 hfpe_0
        have hcpx_0 : W7.cell? ⟨px, 0, none⟩ = some (.slice A0_ x0.length c0_) := (blk_cell BKpx.out 0).trans rfl
        have hfpx_0 := blk_frozen BKpx.out 0
        have hcpx_1 : W7.cell? ⟨px, 1, none⟩ = some (.slice none 0 0) := (blk_cell BKpx.out 1).trans rfl
        have hfpx_1 := blk_frozen BKpx.out 1
        have hcpe_0 : W7.cell? ⟨pe, 0, none⟩ = some (.int .i64 0) := (blk_cell BKpe.out 0).trans rfl
        have hfpe_0 := blk_frozen BKpe.out 0
        go_wp2
        refine leaves_cons (f := 41) (args := #[.pointer (some ⟨px, 0, none⟩), .pointer (some ⟨pe, 0, none⟩)]) (by simp) (by simp [go_sem]) ?_
        refine (catch_panic px pe m_ 0 (.slice A0_ x0.length c0_) (.slice none 0 0) [] _ BKpx.out BKpe.out NBpx_pe).mono ?_
        rintro e_ u_ w_ ⟨rfl, rfl, rfl⟩
        show Leaves _ _ _ _ [] .returning _
        have n_ : Aside0 (((W7.setCell ⟨px, 0, none⟩ (.slice none 0 0)).setCell ⟨px, 1, none⟩ (.slice none 0 0)).heap[px]? = some (.cells #[.slice none 0 0, .slice none 0 0] 25 (0, 0))) := ⟨by refine blk_put (cs := #[.slice none 0 0, .slice none 0 0]) ?_ 1 _ rfl; refine blk_put (cs := #[.slice A0_ x0.length c0_, .slice none 0 0]) ?_ 0 _ rfl; exact BKpx.out⟩
        have m_ : Aside0 (((W7.setCell ⟨px, 0, none⟩ (.slice none 0 0)).setCell ⟨px, 1, none⟩ (.slice none 0 0)).heap[pe]? = some (.cells #[.int .i64 0] 28 (0, 0))) := ⟨(blk_far (blk_far BKpe.out NBpe_px _) NBpe_px _)⟩
        clear BKpe; have BKpe := m_; clear m_
        have b_ : Aside0 (Below w.heap.size w ((W7.setCell ⟨px, 0, none⟩ (.slice none 0 0)).setCell ⟨px, 1, none⟩ (.slice none 0 0))) := ⟨(below_set (below_set HB.out GEpx.out) GEpx.out)⟩
        clear BKpx HB; have BKpx := n_; have HB := b_; clear n_ b_
        clear hcpx_0 hfpx_0
        clear hcpx_1 hfpx_1
        clear hcpe_0 hfpe_0
        generalize ((W7.setCell ⟨px, 0, none⟩ (.slice none 0 0)).setCell ⟨px, 1, none⟩ (.slice none 0 0)) = W8 at *
        have hcpx_0 : W8.cell? ⟨px, 0, none⟩ = some (.slice none 0 0) := (blk_cell BKpx.out 0).trans rfl
        have hfpx_0 := blk_frozen BKpx.out 0
        have hcpx_1 : W8.cell? ⟨px, 1, none⟩ = some (.slice none 0 0) := (blk_cell BKpx.out 1).trans rfl
        have hfpx_1 := blk_frozen BKpx.out 1
        have hcpe_0 : W8.cell? ⟨pe, 0, none⟩ = some (.int .i64 0) := (blk_cell BKpe.out 0).trans rfl
        have hfpe_0 := blk_frozen BKpe.out 0
        have n_ : Aside0 ((W8.setCell ⟨pe, 0, none⟩ (.int .i64 150)).heap[pe]? = some (.cells #[.int .i64 150] 28 (0, 0))) := ⟨by refine blk_put (cs := #[.int .i64 0]) ?_ 0 _ rfl; exact BKpe.out⟩
        have m_ : Aside0 ((W8.setCell ⟨pe, 0, none⟩ (.int .i64 150)).heap[px]? = some (.cells #[.slice none 0 0, .slice none 0 0] 25 (0, 0))) := ⟨(blk_far BKpx.out NBpx_pe _)⟩
        clear BKpx; have BKpx := m_; clear m_
        have b_ : Aside0 (Below w.heap.size w (W8.setCell ⟨pe, 0, none⟩ (.int .i64 150))) := ⟨(below_set HB.out GEpe.out)⟩
        clear BKpe HB; have BKpe := n_; have HB := b_; clear n_ b_
        clear hcpx_0 hfpx_0
        clear hcpx_1 hfpx_1
        clear hcpe_0 hfpe_0
        generalize (W8.setCell ⟨pe, 0, none⟩ (.int .i64 150)) = W9 at *
        have hcpx_0 : W9.cell? ⟨px, 0, none⟩ = some (.slice none 0 0) := (blk_cell BKpx.out 0).trans rfl
        have hfpx_0 := blk_frozen BKpx.out 0
        have hcpx_1 : W9.cell? ⟨px, 1, none⟩ = some (.slice none 0 0) := (blk_cell BKpx.out 1).trans rfl
        have hfpx_1 := blk_frozen BKpx.out 1
        have hcpe_0 : W9.cell? ⟨pe, 0, none⟩ = some (.int .i64 150) := (blk_cell BKpe.out 0).trans rfl
        have hfpe_0 := blk_frozen BKpe.out 0
        refine dec_leave (dec_results _ px pe _ _ _ _ rfl rfl BKpx.out BKpe.out) ?_
        exact ⟨.slice none 0 0, .slice none 0 0, by rw [HR2.out] <;> rfl, by rw [HR2.out]; exact Kd.R_nil _ _ _ _ _, by rw [HR2.out]; exact Kd.S_nil _ _ _ _ _, HB.out⟩
      rw [hR1] at h_
      obtain ⟨⟨v1, rfl, hv1⟩, hb2_⟩ := h_
      obtain ⟨A1_, c1_, rfl⟩ := Kd.S_slice hv1
      have HV1 := Aside0.mk (Kd.S_mono (ok' := fun k_ => k_ ≠ B) (Kd.S_lower (base' := w.heap.size) hv1 (HB.out.size)) (fun k_ h_ e_ => by have h2_ : B < W6.heap.size := blk_lt BKB.out; omega))
      have n_ := Aside0.mk (Kd.R_kept HOB.out hk_.kept (fun k_ h_ => h_)); clear HOB; have HOB := n_; clear n_
      have n_ := Aside0.mk (Kd.R_kept HV0.out hk_.kept (fun k_ h_ => h_)); clear HV0; have HV0 := n_; clear n_
      clear HC
      have HI2 := Aside0.mk (rdRows_rng HRS.out (fun i x j hi_ h => rdF_rng HRS.out h) hR1)
      have HX1 := Aside0.mk hR1; clear BKB HB hR1 hv1; have BKB := Aside0.mk hb2_; have HB := Aside0.mk hb_; clear hk_ hb_ hb2_
      clear hcpx_0 hfpx_0
      clear hcpx_1 hfpx_1
      clear hcpe_0 hfpe_0
      clear hcB_0 hfB_0
      clear hcB_1 hfB_1
      have hcpx_0 : W7.cell? ⟨px, 0, none⟩ = some (.slice A0_ x0.length c0_) := (blk_cell BKpx.out 0).trans rfl
      have hfpx_0 := blk_frozen BKpx.out 0
      have hcpx_1 : W7.cell? ⟨px, 1, none⟩ = some (.slice none 0 0) := (blk_cell BKpx.out 1).trans rfl
      have hfpx_1 := blk_frozen BKpx.out 1
      have hcpe_0 : W7.cell? ⟨pe, 0, none⟩ = some (.int .i64 0) := (blk_cell BKpe.out 0).trans rfl
      have hfpe_0 := blk_frozen BKpe.out 0
      have hcB_0 : W7.cell? ⟨B, 0, none⟩ = some (.slice Ar rest.length cr) := (blk_cell BKB.out 0).trans rfl
      have hfB_0 := blk_frozen BKB.out 0
      have hcB_1 : W7.cell? ⟨B, 1, none⟩ = some (.int .i64 i2) := (blk_cell BKB.out 1).trans rfl
      have hfB_1 := blk_frozen BKB.out 1
      have HR3 : Aside0 (R = if i2 = (rest.length : Int) ∧ okF x0 x1 = true then (x0, x1, 0) else badI) := ⟨HR2.out.trans (by simp only [rdAll, HX0.out, HX1.out, Option.bind_some])⟩
      clear HR2; have HR2 := HR3; clear HR3
      obtain ⟨nr, hnr⟩ : ∃ n : Int, n = (rest.length : Int) := ⟨_, rfl⟩
      by_cases hj : i2 = (rest.length : Int)
      · have b5 : (i2 != (rest.length : Int)) = false := by simp [hj]
        have HJ := Aside0.mk hj; clear hj hnr
        go_wp2_with fail
        have q_ : Aside0 (Kd.R (Kd.int .u8) 5 (W7.setCell ⟨px, 1, none⟩ (.slice A1_ x1.length c1_)) _ (fun k_ => k_ ≠ B) (.slice Ar rest.length cr) rest) := ⟨(Kd.R_set HOB.out BKpx.out (by decide) 1 _)⟩; clear HOB; have HOB := q_; clear q_
        have q_ : Aside0 (Kd.R k48 48 (W7.setCell ⟨px, 1, none⟩ (.slice A1_ x1.length c1_)) w.heap.size (fun k_ => k_ ≠ B) (.slice A0_ x0.length c0_) x0) := ⟨(Kd.R_set HV0.out BKpx.out (by decide) 1 _)⟩; clear HV0; have HV0 := q_; clear q_
        have q_ : Aside0 (Kd.S k54 54 (W7.setCell ⟨px, 1, none⟩ (.slice A1_ x1.length c1_)) w.heap.size (fun k_ => k_ ≠ B) (.slice A1_ x1.length c1_) x1) := ⟨(Kd.S_set HV1.out BKpx.out (by decide) 1 _)⟩; clear HV1; have HV1 := q_; clear q_
        have n_ : Aside0 ((W7.setCell ⟨px, 1, none⟩ (.slice A1_ x1.length c1_)).heap[px]? = some (.cells #[.slice A0_ x0.length c0_, .slice A1_ x1.length c1_] 25 (0, 0))) := ⟨by refine blk_put (cs := #[.slice A0_ x0.length c0_, .slice none 0 0]) ?_ 1 _ rfl; exact BKpx.out⟩
        have m_ : Aside0 ((W7.setCell ⟨px, 1, none⟩ (.slice A1_ x1.length c1_)).heap[pe]? = some (.cells #[.int .i64 0] 28 (0, 0))) := ⟨(blk_far BKpe.out NBpe_px _)⟩
        clear BKpe; have BKpe := m_; clear m_
        have m_ : Aside0 ((W7.setCell ⟨px, 1, none⟩ (.slice A1_ x1.length c1_)).heap[B]? = some (.cells #[.slice Ar rest.length cr, .int .i64 i2] 78 (0, 0))) := ⟨(blk_far BKB.out NBB_px _)⟩
        clear BKB; have BKB := m_; clear m_
        have b_ : Aside0 (Below w.heap.size w (W7.setCell ⟨px, 1, none⟩ (.slice A1_ x1.length c1_))) := ⟨(below_set HB.out GEpx.out)⟩
        clear BKpx HB; have BKpx := n_; have HB := b_; clear n_ b_
        clear hcpx_0 hfpx_0
        clear hcpx_1 hfpx_1
        clear hcpe_0 hfpe_0
        clear hcB_0 hfB_0
        clear hcB_1 hfB_1
        generalize (W7.setCell ⟨px, 1, none⟩ (.slice A1_ x1.length c1_)) = W8 at *
        have hcpx_0 : W8.cell? ⟨px, 0, none⟩ = some (.slice A0_ x0.length c0_) := (blk_cell BKpx.out 0).trans rfl
        have hfpx_0 := blk_frozen BKpx.out 0
        have hcpx_1 : W8.cell? ⟨px, 1, none⟩ = some (.slice A1_ x1.length c1_) := (blk_cell BKpx.out 1).trans rfl
        have hfpx_1 := blk_frozen BKpx.out 1
        have hcpe_0 : W8.cell? ⟨pe, 0, none⟩ = some (.int .i64 0) := (blk_cell BKpe.out 0).trans rfl
        have hfpe_0 := blk_frozen BKpe.out 0
        have hcB_0 : W8.cell? ⟨B, 0, none⟩ = some (.slice Ar rest.length cr) := (blk_cell BKB.out 0).trans rfl
        have hfB_0 := blk_frozen BKB.out 0
        have hcB_1 : W8.cell? ⟨B, 1, none⟩ = some (.int .i64 i2) := (blk_cell BKB.out 1).trans rfl
        have hfB_1 := blk_frozen BKB.out 1
        have hok : image_ok.f x0 x1 = some (okF x0 x1) := ok_f x0 x1 (by have := rdRows_len HRS.out HX0.out; omega) (by have := rdRows_len HRS.out HX1.out; omega) (rdRows_all (fun i x j h => rdF_in HRS.out h) HX1.out)
        refine (image_ok.calls A0_ c0_ x0 A1_ c1_ x1 (okF x0 x1) _ (Kd.R_reads' HV0.out).2.2 (Kd.R_reads' HV0.out).2.1 (Kd.S_reads' HV1.out).2.2 (Kd.S_reads' HV1.out).2.1 hok).mono ?_
        rintro e_ W9 ⟨rfl, hb_⟩
        have n_ := Aside0.mk (Kd.R_below HV0.out hb_); clear HV0; have HV0 := n_; clear n_
        have n_ := Aside0.mk (Kd.S_below HV1.out hb_); clear HV1; have HV1 := n_; clear n_
        clear hcB_0 hfB_0 hcB_1 hfB_1 BKB HOB hok
        have n_ := Aside0.mk (blk_below BKpx.out hb_); clear BKpx; have BKpx := n_; clear n_
        clear hcpx_0 hfpx_0
        clear hcpx_1 hfpx_1
        have n_ := Aside0.mk (blk_below BKpe.out hb_); clear BKpe; have BKpe := n_; clear n_
        clear hcpe_0 hfpe_0
        have n_ := Aside0.mk (below_step HB.out hb_); clear HB; have HB := n_; clear n_
        clear hb_
        have hcpx_0 : W9.cell? ⟨px, 0, none⟩ = some (.slice A0_ x0.length c0_) := (blk_cell BKpx.out 0).trans rfl
        have hfpx_0 := blk_frozen BKpx.out 0
        have hcpx_1 : W9.cell? ⟨px, 1, none⟩ = some (.slice A1_ x1.length c1_) := (blk_cell BKpx.out 1).trans rfl
        have hfpx_1 := blk_frozen BKpx.out 1
        have hcpe_0 : W9.cell? ⟨pe, 0, none⟩ = some (.int .i64 0) := (blk_cell BKpe.out 0).trans rfl
        have hfpe_0 := blk_frozen BKpe.out 0
        by_cases hk : okF x0 x1 = true
        · have HOK := Aside0.mk hk
          rw [hk]
          clear hk
          have HR3 : Aside0 (R = (x0, x1, 0)) := ⟨HR2.out.trans (if_pos ⟨HJ.out, HOK.out⟩)⟩
          clear HR2; have HR2 := HR3; clear HR3
          go_wp2
          have q_ : Aside0 (Kd.R k48 48 ((W9.setCell ⟨px, 0, none⟩ (.slice A0_ x0.length c0_)).setCell ⟨px, 1, none⟩ (.slice A1_ x1.length c1_)) w.heap.size (fun k_ => k_ ≠ B) (.slice A0_ x0.length c0_) x0) := ⟨(Kd.R_set (Kd.R_set HV0.out BKpx.out (by decide) 0 _) (blk_put (cs := #[.slice A0_ x0.length c0_, .slice A1_ x1.length c1_]) BKpx.out 0 _ rfl) (by decide) 1 _)⟩; clear HV0; have HV0 := q_; clear q_
          have q_ : Aside0 (Kd.S k54 54 ((W9.setCell ⟨px, 0, none⟩ (.slice A0_ x0.length c0_)).setCell ⟨px, 1, none⟩ (.slice A1_ x1.length c1_)) w.heap.size (fun k_ => k_ ≠ B) (.slice A1_ x1.length c1_) x1) := ⟨(Kd.S_set (Kd.S_set HV1.out BKpx.out (by decide) 0 _) (blk_put (cs := #[.slice A0_ x0.length c0_, .slice A1_ x1.length c1_]) BKpx.out 0 _ rfl) (by decide) 1 _)⟩; clear HV1; have HV1 := q_; clear q_
          have n_ : Aside0 (((W9.setCell ⟨px, 0, none⟩ (.slice A0_ x0.length c0_)).setCell ⟨px, 1, none⟩ (.slice A1_ x1.length c1_)).heap[px]? = some (.cells #[.slice A0_ x0.length c0_, .slice A1_ x1.length c1_] 25 (0, 0))) := ⟨by refine blk_put (cs := #[.slice A0_ x0.length c0_, .slice A1_ x1.length c1_]) ?_ 1 _ rfl; refine blk_put (cs := #[.slice A0_ x0.length c0_, .slice A1_ x1.length c1_]) ?_ 0 _ rfl; exact BKpx.out⟩
          have m_ : Aside0 (((W9.setCell ⟨px, 0, none⟩ (.slice A0_ x0.length c0_)).setCell ⟨px, 1, none⟩ (.slice A1_ x1.length c1_)).heap[pe]? = some (.cells #[.int .i64 0] 28 (0, 0))) := ⟨(blk_far (blk_far BKpe.out NBpe_px _) NBpe_px _)⟩
          clear BKpe; have BKpe := m_; clear m_
          have b_ : Aside0 (Below w.heap.size w ((W9.setCell ⟨px, 0, none⟩ (.slice A0_ x0.length c0_)).setCell ⟨px, 1, none⟩ (.slice A1_ x1.length c1_))) := ⟨(below_set (below_set HB.out GEpx.out) GEpx.out)⟩
          clear BKpx HB; have BKpx := n_; have HB := b_; clear n_ b_
          clear hcpx_0 hfpx_0
          clear hcpx_1 hfpx_1
          clear hcpe_0 hfpe_0
          generalize ((W9.setCell ⟨px, 0, none⟩ (.slice A0_ x0.length c0_)).setCell ⟨px, 1, none⟩ (.slice A1_ x1.length c1_)) = W10 at *
          have hcpx_0 : W10.cell? ⟨px, 0, none⟩ = some (.slice A0_ x0.length c0_) := (blk_cell BKpx.out 0).trans rfl
          have hfpx_0 := blk_frozen BKpx.out 0
          have hcpx_1 : W10.cell? ⟨px, 1, none⟩ = some (.slice A1_ x1.length c1_) := (blk_cell BKpx.out 1).trans rfl
          have hfpx_1 := blk_frozen BKpx.out 1
          have hcpe_0 : W10.cell? ⟨pe, 0, none⟩ = some (.int .i64 0) := (blk_cell BKpe.out 0).trans rfl
          have hfpe_0 := blk_frozen BKpe.out 0
          have q_ : Aside0 (Kd.R k48 48 (W10.setCell ⟨pe, 0, none⟩ (.int .i64 0)) w.heap.size (fun k_ => k_ ≠ B) (.slice A0_ x0.length c0_) x0) := ⟨(Kd.R_set HV0.out BKpe.out (by decide) 0 _)⟩; clear HV0; have HV0 := q_; clear q_
          have q_ : Aside0 (Kd.S k54 54 (W10.setCell ⟨pe, 0, none⟩ (.int .i64 0)) w.heap.size (fun k_ => k_ ≠ B) (.slice A1_ x1.length c1_) x1) := ⟨(Kd.S_set HV1.out BKpe.out (by decide) 0 _)⟩; clear HV1; have HV1 := q_; clear q_
          have n_ : Aside0 ((W10.setCell ⟨pe, 0, none⟩ (.int .i64 0)).heap[pe]? = some (.cells #[.int .i64 0] 28 (0, 0))) := ⟨by refine blk_put (cs := #[.int .i64 0]) ?_ 0 _ rfl; exact BKpe.out⟩
          have m_ : Aside0 ((W10.setCell ⟨pe, 0, none⟩ (.int .i64 0)).heap[px]? = some (.cells #[.slice A0_ x0.length c0_, .slice A1_ x1.length c1_] 25 (0, 0))) := ⟨(blk_far BKpx.out NBpx_pe _)⟩
          clear BKpx; have BKpx := m_; clear m_
          have b_ : Aside0 (Below w.heap.size w (W10.setCell ⟨pe, 0, none⟩ (.int .i64 0))) := ⟨(below_set HB.out GEpe.out)⟩
          clear BKpe HB; have BKpe := n_; have HB := b_; clear n_ b_
          clear hcpx_0 hfpx_0
          clear hcpx_1 hfpx_1
          clear hcpe_0 hfpe_0
          generalize (W10.setCell ⟨pe, 0, none⟩ (.int .i64 0)) = W11 at *
          have hcpx_0 : W11.cell? ⟨px, 0, none⟩ = some (.slice A0_ x0.length c0_) := (blk_cell BKpx.out 0).trans rfl
          have hfpx_0 := blk_frozen BKpx.out 0
          have hcpx_1 : W11.cell? ⟨px, 1, none⟩ = some (.slice A1_ x1.length c1_) := (blk_cell BKpx.out 1).trans rfl
          have hfpx_1 := blk_frozen BKpx.out 1
          have hcpe_0 : W11.cell? ⟨pe, 0, none⟩ = some (.int .i64 0) := (blk_cell BKpe.out 0).trans rfl
          have hfpe_0 := blk_frozen BKpe.out 0
          refine leaves_cons (f := 41) (args := #[.pointer (some ⟨px, 0, none⟩), .pointer (some ⟨pe, 0, none⟩)]) (by simp) (by simp [go_sem]) ?_
          refine (catch_idle px pe _).mono ?_
          rintro e_ u_ w_ ⟨rfl, rfl, rfl⟩
          refine dec_leave (dec_results _ px pe _ _ _ _ rfl rfl BKpx.out BKpe.out) ?_
          exact ⟨.slice A0_ x0.length c0_, .slice A1_ x1.length c1_, by rw [HR2.out] <;> rfl, by rw [HR2.out]; exact Kd.R_mono HV0.out (fun _ _ => trivial), by rw [HR2.out]; exact Kd.S_mono HV1.out (fun _ _ => trivial), HB.out⟩
        · have HOK := Aside0.mk hk
          have hk2 : okF x0 x1 = false := by simpa using hk
          rw [hk2]
          clear hk hk2
          have HR3 : Aside0 (R = badI) := ⟨HR2.out.trans (if_neg (fun h => HOK.out h.2))⟩
          clear HR2; have HR2 := HR3; clear HR3
          go_wp2
          have q_ : Aside0 (Kd.R k48 48 ((W9.setCell ⟨px, 0, none⟩ (.slice none 0 0)).setCell ⟨px, 1, none⟩ (.slice none 0 0)) w.heap.size (fun k_ => k_ ≠ B) (.slice A0_ x0.length c0_) x0) := ⟨(Kd.R_set (Kd.R_set HV0.out BKpx.out (by decide) 0 _) (blk_put (cs := #[.slice A0_ x0.length c0_, .slice A1_ x1.length c1_]) BKpx.out 0 _ rfl) (by decide) 1 _)⟩; clear HV0; have HV0 := q_; clear q_
          have q_ : Aside0 (Kd.S k54 54 ((W9.setCell ⟨px, 0, none⟩ (.slice none 0 0)).setCell ⟨px, 1, none⟩ (.slice none 0 0)) w.heap.size (fun k_ => k_ ≠ B) (.slice A1_ x1.length c1_) x1) := ⟨(Kd.S_set (Kd.S_set HV1.out BKpx.out (by decide) 0 _) (blk_put (cs := #[.slice A0_ x0.length c0_, .slice A1_ x1.length c1_]) BKpx.out 0 _ rfl) (by decide) 1 _)⟩; clear HV1; have HV1 := q_; clear q_
          have n_ : Aside0 (((W9.setCell ⟨px, 0, none⟩ (.slice none 0 0)).setCell ⟨px, 1, none⟩ (.slice none 0 0)).heap[px]? = some (.cells #[.slice none 0 0, .slice none 0 0] 25 (0, 0))) := ⟨by refine blk_put (cs := #[.slice none 0 0, .slice A1_ x1.length c1_]) ?_ 1 _ rfl; refine blk_put (cs := #[.slice A0_ x0.length c0_, .slice A1_ x1.length c1_]) ?_ 0 _ rfl; exact BKpx.out⟩
          have m_ : Aside0 (((W9.setCell ⟨px, 0, none⟩ (.slice none 0 0)).setCell ⟨px, 1, none⟩ (.slice none 0 0)).heap[pe]? = some (.cells #[.int .i64 0] 28 (0, 0))) := ⟨(blk_far (blk_far BKpe.out NBpe_px _) NBpe_px _)⟩
          clear BKpe; have BKpe := m_; clear m_
          have b_ : Aside0 (Below w.heap.size w ((W9.setCell ⟨px, 0, none⟩ (.slice none 0 0)).setCell ⟨px, 1, none⟩ (.slice none 0 0))) := ⟨(below_set (below_set HB.out GEpx.out) GEpx.out)⟩
          clear BKpx HB; have BKpx := n_; have HB := b_; clear n_ b_
          clear hcpx_0 hfpx_0
          clear hcpx_1 hfpx_1
          clear hcpe_0 hfpe_0
          generalize ((W9.setCell ⟨px, 0, none⟩ (.slice none 0 0)).setCell ⟨px, 1, none⟩ (.slice none 0 0)) = W10 at *
          have hcpx_0 : W10.cell? ⟨px, 0, none⟩ = some (.slice none 0 0) := (blk_cell BKpx.out 0).trans rfl
          have hfpx_0 := blk_frozen BKpx.out 0
          have hcpx_1 : W10.cell? ⟨px, 1, none⟩ = some (.slice none 0 0) := (blk_cell BKpx.out 1).trans rfl
          have hfpx_1 := blk_frozen BKpx.out 1
          have hcpe_0 : W10.cell? ⟨pe, 0, none⟩ = some (.int .i64 0) := (blk_cell BKpe.out 0).trans rfl
          have hfpe_0 := blk_frozen BKpe.out 0
          have q_ : Aside0 (Kd.R k48 48 (W10.setCell ⟨pe, 0, none⟩ (.int .i64 150)) w.heap.size (fun k_ => k_ ≠ B) (.slice A0_ x0.length c0_) x0) := ⟨(Kd.R_set HV0.out BKpe.out (by decide) 0 _)⟩; clear HV0; have HV0 := q_; clear q_
          have q_ : Aside0 (Kd.S k54 54 (W10.setCell ⟨pe, 0, none⟩ (.int .i64 150)) w.heap.size (fun k_ => k_ ≠ B) (.slice A1_ x1.length c1_) x1) := ⟨(Kd.S_set HV1.out BKpe.out (by decide) 0 _)⟩; clear HV1; have HV1 := q_; clear q_
          have n_ : Aside0 ((W10.setCell ⟨pe, 0, none⟩ (.int .i64 150)).heap[pe]? = some (.cells #[.int .i64 150] 28 (0, 0))) := ⟨by refine blk_put (cs := #[.int .i64 0]) ?_ 0 _ rfl; exact BKpe.out⟩
          have m_ : Aside0 ((W10.setCell ⟨pe, 0, none⟩ (.int .i64 150)).heap[px]? = some (.cells #[.slice none 0 0, .slice none 0 0] 25 (0, 0))) := ⟨(blk_far BKpx.out NBpx_pe _)⟩
          clear BKpx; have BKpx := m_; clear m_
          have b_ : Aside0 (Below w.heap.size w (W10.setCell ⟨pe, 0, none⟩ (.int .i64 150))) := ⟨(below_set HB.out GEpe.out)⟩
          clear BKpe HB; have BKpe := n_; have HB := b_; clear n_ b_
          clear hcpx_0 hfpx_0
          clear hcpx_1 hfpx_1
          clear hcpe_0 hfpe_0
          generalize (W10.setCell ⟨pe, 0, none⟩ (.int .i64 150)) = W11 at *
          have hcpx_0 : W11.cell? ⟨px, 0, none⟩ = some (.slice none 0 0) := (blk_cell BKpx.out 0).trans rfl
          have hfpx_0 := blk_frozen BKpx.out 0
          have hcpx_1 : W11.cell? ⟨px, 1, none⟩ = some (.slice none 0 0) := (blk_cell BKpx.out 1).trans rfl
          have hfpx_1 := blk_frozen BKpx.out 1
          have hcpe_0 : W11.cell? ⟨pe, 0, none⟩ = some (.int .i64 150) := (blk_cell BKpe.out 0).trans rfl
          have hfpe_0 := blk_frozen BKpe.out 0
          refine leaves_cons (f := 41) (args := #[.pointer (some ⟨px, 0, none⟩), .pointer (some ⟨pe, 0, none⟩)]) (by simp) (by simp [go_sem]) ?_
          refine (catch_idle px pe _).mono ?_
          rintro e_ u_ w_ ⟨rfl, rfl, rfl⟩
          refine dec_leave (dec_results _ px pe _ _ _ _ rfl rfl BKpx.out BKpe.out) ?_
          exact ⟨.slice none 0 0, .slice none 0 0, by rw [HR2.out] <;> rfl, by rw [HR2.out]; exact Kd.R_nil _ _ _ _ _, by rw [HR2.out]; exact Kd.S_nil _ _ _ _ _, HB.out⟩
      · have b5 : (i2 != (rest.length : Int)) = true := bne_iff_ne.mpr hj
        have HJ := Aside0.mk hj; clear hj hnr
        have HR3 : Aside0 (R = badI) := ⟨HR2.out.trans (if_neg (fun h => HJ.out h.1))⟩
        clear HR2; have HR2 := HR3; clear HR3
        go_wp2
        have q_ : Aside0 (Kd.R (Kd.int .u8) 5 (W7.setCell ⟨px, 1, none⟩ (.slice A1_ x1.length c1_)) _ (fun k_ => k_ ≠ B) (.slice Ar rest.length cr) rest) := ⟨(Kd.R_set HOB.out BKpx.out (by decide) 1 _)⟩; clear HOB; have HOB := q_; clear q_
        have q_ : Aside0 (Kd.R k48 48 (W7.setCell ⟨px, 1, none⟩ (.slice A1_ x1.length c1_)) w.heap.size (fun k_ => k_ ≠ B) (.slice A0_ x0.length c0_) x0) := ⟨(Kd.R_set HV0.out BKpx.out (by decide) 1 _)⟩; clear HV0; have HV0 := q_; clear q_
        have q_ : Aside0 (Kd.S k54 54 (W7.setCell ⟨px, 1, none⟩ (.slice A1_ x1.length c1_)) w.heap.size (fun k_ => k_ ≠ B) (.slice A1_ x1.length c1_) x1) := ⟨(Kd.S_set HV1.out BKpx.out (by decide) 1 _)⟩; clear HV1; have HV1 := q_; clear q_
        have n_ : Aside0 ((W7.setCell ⟨px, 1, none⟩ (.slice A1_ x1.length c1_)).heap[px]? = some (.cells #[.slice A0_ x0.length c0_, .slice A1_ x1.length c1_] 25 (0, 0))) := ⟨by refine blk_put (cs := #[.slice A0_ x0.length c0_, .slice none 0 0]) ?_ 1 _ rfl; exact BKpx.out⟩
        have m_ : Aside0 ((W7.setCell ⟨px, 1, none⟩ (.slice A1_ x1.length c1_)).heap[pe]? = some (.cells #[.int .i64 0] 28 (0, 0))) := ⟨(blk_far BKpe.out NBpe_px _)⟩
        clear BKpe; have BKpe := m_; clear m_
        have m_ : Aside0 ((W7.setCell ⟨px, 1, none⟩ (.slice A1_ x1.length c1_)).heap[B]? = some (.cells #[.slice Ar rest.length cr, .int .i64 i2] 78 (0, 0))) := ⟨(blk_far BKB.out NBB_px _)⟩
        clear BKB; have BKB := m_; clear m_
        have b_ : Aside0 (Below w.heap.size w (W7.setCell ⟨px, 1, none⟩ (.slice A1_ x1.length c1_))) := ⟨(below_set HB.out GEpx.out)⟩
        clear BKpx HB; have BKpx := n_; have HB := b_; clear n_ b_
        clear hcpx_0 hfpx_0
        clear hcpx_1 hfpx_1
        clear hcpe_0 hfpe_0
        clear hcB_0 hfB_0
        clear hcB_1 hfB_1
        generalize (W7.setCell ⟨px, 1, none⟩ (.slice A1_ x1.length c1_)) = W8 at *
        have hcpx_0 : W8.cell? ⟨px, 0, none⟩ = some (.slice A0_ x0.length c0_) := (blk_cell BKpx.out 0).trans rfl
        have hfpx_0 := blk_frozen BKpx.out 0
        have hcpx_1 : W8.cell? ⟨px, 1, none⟩ = some (.slice A1_ x1.length c1_) := (blk_cell BKpx.out 1).trans rfl
        have hfpx_1 := blk_frozen BKpx.out 1
        have hcpe_0 : W8.cell? ⟨pe, 0, none⟩ = some (.int .i64 0) := (blk_cell BKpe.out 0).trans rfl
        have hfpe_0 := blk_frozen BKpe.out 0
        have hcB_0 : W8.cell? ⟨B, 0, none⟩ = some (.slice Ar rest.length cr) := (blk_cell BKB.out 0).trans rfl
        have hfB_0 := blk_frozen BKB.out 0
        have hcB_1 : W8.cell? ⟨B, 1, none⟩ = some (.int .i64 i2) := (blk_cell BKB.out 1).trans rfl
        have hfB_1 := blk_frozen BKB.out 1
        have n_ : Aside0 (((W8.setCell ⟨px, 0, none⟩ (.slice none 0 0)).setCell ⟨px, 1, none⟩ (.slice none 0 0)).heap[px]? = some (.cells #[.slice none 0 0, .slice none 0 0] 25 (0, 0))) := ⟨by refine blk_put (cs := #[.slice none 0 0, .slice A1_ x1.length c1_]) ?_ 1 _ rfl; refine blk_put (cs := #[.slice A0_ x0.length c0_, .slice A1_ x1.length c1_]) ?_ 0 _ rfl; exact BKpx.out⟩
        have m_ : Aside0 (((W8.setCell ⟨px, 0, none⟩ (.slice none 0 0)).setCell ⟨px, 1, none⟩ (.slice none 0 0)).heap[pe]? = some (.cells #[.int .i64 0] 28 (0, 0))) := ⟨(blk_far (blk_far BKpe.out NBpe_px _) NBpe_px _)⟩
        clear BKpe; have BKpe := m_; clear m_
        have m_ : Aside0 (((W8.setCell ⟨px, 0, none⟩ (.slice none 0 0)).setCell ⟨px, 1, none⟩ (.slice none 0 0)).heap[B]? = some (.cells #[.slice Ar rest.length cr, .int .i64 i2] 78 (0, 0))) := ⟨(blk_far (blk_far BKB.out NBB_px _) NBB_px _)⟩
        clear BKB; have BKB := m_; clear m_
        have b_ : Aside0 (Below w.heap.size w ((W8.setCell ⟨px, 0, none⟩ (.slice none 0 0)).setCell ⟨px, 1, none⟩ (.slice none 0 0))) := ⟨(below_set (below_set HB.out GEpx.out) GEpx.out)⟩
        clear BKpx HB; have BKpx := n_; have HB := b_; clear n_ b_
        clear hcpx_0 hfpx_0
        clear hcpx_1 hfpx_1
        clear hcpe_0 hfpe_0
        clear hcB_0 hfB_0
        clear hcB_1 hfB_1
        generalize ((W8.setCell ⟨px, 0, none⟩ (.slice none 0 0)).setCell ⟨px, 1, none⟩ (.slice none 0 0)) = W9 at *
        have hcpx_0 : W9.cell? ⟨px, 0, none⟩ = some (.slice none 0 0) := (blk_cell BKpx.out 0).trans rfl
        have hfpx_0 := blk_frozen BKpx.out 0
        have hcpx_1 : W9.cell? ⟨px, 1, none⟩ = some (.slice none 0 0) := (blk_cell BKpx.out 1).trans rfl
        have hfpx_1 := blk_frozen BKpx.out 1
        have hcpe_0 : W9.cell? ⟨pe, 0, none⟩ = some (.int .i64 0) := (blk_cell BKpe.out 0).trans rfl
        have hfpe_0 := blk_frozen BKpe.out 0
        have hcB_0 : W9.cell? ⟨B, 0, none⟩ = some (.slice Ar rest.length cr) := (blk_cell BKB.out 0).trans rfl
        have hfB_0 := blk_frozen BKB.out 0
        have hcB_1 : W9.cell? ⟨B, 1, none⟩ = some (.int .i64 i2) := (blk_cell BKB.out 1).trans rfl
        have hfB_1 := blk_frozen BKB.out 1
        have n_ : Aside0 ((W9.setCell ⟨pe, 0, none⟩ (.int .i64 150)).heap[pe]? = some (.cells #[.int .i64 150] 28 (0, 0))) := ⟨by refine blk_put (cs := #[.int .i64 0]) ?_ 0 _ rfl; exact BKpe.out⟩
        have m_ : Aside0 ((W9.setCell ⟨pe, 0, none⟩ (.int .i64 150)).heap[px]? = some (.cells #[.slice none 0 0, .slice none 0 0] 25 (0, 0))) := ⟨(blk_far BKpx.out NBpx_pe _)⟩
        clear BKpx; have BKpx := m_; clear m_
        have m_ : Aside0 ((W9.setCell ⟨pe, 0, none⟩ (.int .i64 150)).heap[B]? = some (.cells #[.slice Ar rest.length cr, .int .i64 i2] 78 (0, 0))) := ⟨(blk_far BKB.out NBB_pe _)⟩
        clear BKB; have BKB := m_; clear m_
        have b_ : Aside0 (Below w.heap.size w (W9.setCell ⟨pe, 0, none⟩ (.int .i64 150))) := ⟨(below_set HB.out GEpe.out)⟩
        clear BKpe HB; have BKpe := n_; have HB := b_; clear n_ b_
        clear hcpx_0 hfpx_0
        clear hcpx_1 hfpx_1
        clear hcpe_0 hfpe_0
        clear hcB_0 hfB_0
        clear hcB_1 hfB_1
        generalize (W9.setCell ⟨pe, 0, none⟩ (.int .i64 150)) = W10 at *
        have hcpx_0 : W10.cell? ⟨px, 0, none⟩ = some (.slice none 0 0) := (blk_cell BKpx.out 0).trans rfl
        have hfpx_0 := blk_frozen BKpx.out 0
        have hcpx_1 : W10.cell? ⟨px, 1, none⟩ = some (.slice none 0 0) := (blk_cell BKpx.out 1).trans rfl
        have hfpx_1 := blk_frozen BKpx.out 1
        have hcpe_0 : W10.cell? ⟨pe, 0, none⟩ = some (.int .i64 150) := (blk_cell BKpe.out 0).trans rfl
        have hfpe_0 := blk_frozen BKpe.out 0
        have hcB_0 : W10.cell? ⟨B, 0, none⟩ = some (.slice Ar rest.length cr) := (blk_cell BKB.out 0).trans rfl
        have hfB_0 := blk_frozen BKB.out 0
        have hcB_1 : W10.cell? ⟨B, 1, none⟩ = some (.int .i64 i2) := (blk_cell BKB.out 1).trans rfl
        have hfB_1 := blk_frozen BKB.out 1
        refine leaves_cons (f := 41) (args := #[.pointer (some ⟨px, 0, none⟩), .pointer (some ⟨pe, 0, none⟩)]) (by simp) (by simp [go_sem]) ?_
        refine (catch_idle px pe _).mono ?_
        rintro e_ u_ w_ ⟨rfl, rfl, rfl⟩
        refine dec_leave (dec_results _ px pe _ _ _ _ rfl rfl BKpx.out BKpe.out) ?_
        exact ⟨.slice none 0 0, .slice none 0 0, by rw [HR2.out] <;> rfl, by rw [HR2.out]; exact Kd.R_nil _ _ _ _ _, by rw [HR2.out]; exact Kd.S_nil _ _ _ _ _, HB.out⟩
    · have b4 : (s4.toList == [84, 73, 76, 84]) = false := beq_eq_false_iff_ne.mpr hm
      have HTK := Aside0.mk (fun h => hm (hiff.2 h)); clear hm hiff
      have HR3 : Aside0 (R = badI) := ⟨HR2.out.trans (if_pos (.inr (.inr HTK.out)))⟩
      clear HR2; have HR2 := HR3; clear HR3
      go_wp2
      have n_ : Aside0 (((W3.setCell ⟨px, 0, none⟩ (.slice none 0 0)).setCell ⟨px, 1, none⟩ (.slice none 0 0)).heap[px]? = some (.cells #[.slice none 0 0, .slice none 0 0] 25 (0, 0))) := ⟨by refine blk_put (cs := #[.slice none 0 0, .slice none 0 0]) ?_ 1 _ rfl; refine blk_put (cs := #[.slice none 0 0, .slice none 0 0]) ?_ 0 _ rfl; exact BKpx.out⟩
      have m_ : Aside0 (((W3.setCell ⟨px, 0, none⟩ (.slice none 0 0)).setCell ⟨px, 1, none⟩ (.slice none 0 0)).heap[pe]? = some (.cells #[.int .i64 0] 28 (0, 0))) := ⟨(blk_far (blk_far BKpe.out NBpe_px _) NBpe_px _)⟩
      clear BKpe; have BKpe := m_; clear m_
      have b_ : Aside0 (Below w.heap.size w ((W3.setCell ⟨px, 0, none⟩ (.slice none 0 0)).setCell ⟨px, 1, none⟩ (.slice none 0 0))) := ⟨(below_set (below_set HB.out GEpx.out) GEpx.out)⟩
      clear BKpx HB; have BKpx := n_; have HB := b_; clear n_ b_
      clear hcpx_0 hfpx_0
      clear hcpx_1 hfpx_1
      clear hcpe_0 hfpe_0
      generalize ((W3.setCell ⟨px, 0, none⟩ (.slice none 0 0)).setCell ⟨px, 1, none⟩ (.slice none 0 0)) = W4 at *
      have hcpx_0 : W4.cell? ⟨px, 0, none⟩ = some (.slice none 0 0) := (blk_cell BKpx.out 0).trans rfl
      have hfpx_0 := blk_frozen BKpx.out 0
      have hcpx_1 : W4.cell? ⟨px, 1, none⟩ = some (.slice none 0 0) := (blk_cell BKpx.out 1).trans rfl
      have hfpx_1 := blk_frozen BKpx.out 1
      have hcpe_0 : W4.cell? ⟨pe, 0, none⟩ = some (.int .i64 0) := (blk_cell BKpe.out 0).trans rfl
      have hfpe_0 := blk_frozen BKpe.out 0
      have n_ : Aside0 ((W4.setCell ⟨pe, 0, none⟩ (.int .i64 150)).heap[pe]? = some (.cells #[.int .i64 150] 28 (0, 0))) := ⟨by refine blk_put (cs := #[.int .i64 0]) ?_ 0 _ rfl; exact BKpe.out⟩
      have m_ : Aside0 ((W4.setCell ⟨pe, 0, none⟩ (.int .i64 150)).heap[px]? = some (.cells #[.slice none 0 0, .slice none 0 0] 25 (0, 0))) := ⟨(blk_far BKpx.out NBpx_pe _)⟩
      clear BKpx; have BKpx := m_; clear m_
      have b_ : Aside0 (Below w.heap.size w (W4.setCell ⟨pe, 0, none⟩ (.int .i64 150))) := ⟨(below_set HB.out GEpe.out)⟩
      clear BKpe HB; have BKpe := n_; have HB := b_; clear n_ b_
      clear hcpx_0 hfpx_0
      clear hcpx_1 hfpx_1
      clear hcpe_0 hfpe_0
      generalize (W4.setCell ⟨pe, 0, none⟩ (.int .i64 150)) = W5 at *
      have hcpx_0 : W5.cell? ⟨px, 0, none⟩ = some (.slice none 0 0) := (blk_cell BKpx.out 0).trans rfl
      have hfpx_0 := blk_frozen BKpx.out 0
      have hcpx_1 : W5.cell? ⟨px, 1, none⟩ = some (.slice none 0 0) := (blk_cell BKpx.out 1).trans rfl
      have hfpx_1 := blk_frozen BKpx.out 1
      have hcpe_0 : W5.cell? ⟨pe, 0, none⟩ = some (.int .i64 150) := (blk_cell BKpe.out 0).trans rfl
      have hfpe_0 := blk_frozen BKpe.out 0
      refine dec_post rfl (dec_results _ px pe _ _ _ _ rfl rfl BKpx.out BKpe.out) ?_
      exact ⟨.slice none 0 0, .slice none 0 0, by rw [HR2.out] <;> rfl, by rw [HR2.out]; exact Kd.R_nil _ _ _ _ _, by rw [HR2.out]; exact Kd.S_nil _ _ _ _ _, HB.out⟩
end Go.Proofs.YteidgpaakoeefaaDoor
namespace Go.Proofs.YteidgpaakoeefaaDoor
open Go.RowKit Go.Proofs.YteidgpaakoeefaaDoorW.PrintWords Go.Proofs.YteidgpaakoeefaaDoorW.PrintLast Go.Proofs.YteidgpaakoeefaaDoorW.PrintMore
set_option linter.unusedVariables false
open PIm
def PIm.image_Decode.f (l0 : List Int) : Option (List S48 × List S54 × Int) := if l0.length ≤ 140737488355318 ∧ ∀ x ∈ l0, 0 ≤ x ∧ x < 256 then some (decF l0) else none
theorem PIm.image_Decode.calls (A0 : Option Addr) (c0 : Nat) (l0 : List Int) (r1 : List S48) (r2 : List S54) (r3 : Int) (w : World) (hr0 : Kd.C (Kd.int .u8) w A0 l0.length l0) (hc0 : l0.length ≤ c0) (h : PIm.image_Decode.f l0 = some (r1, r2, r3)) (hW : Tab w) :
    Calls Tryd.prog 17 #[.slice A0 l0.length c0] w fun e w' => ∃ v0_ v1_ : Value, e = .returned (.tuple #[.agg #[v0_, v1_], .int .i64 r3]) ∧ Kd.R k48 48 w' w.heap.size (fun _ => True) v0_ r1 ∧ Kd.S k54 54 w' w.heap.size (fun _ => True) v1_ r2 ∧ Below w.heap.size w w' := by
  unfold PIm.image_Decode.f at h
  split at h
  · next hc =>
    have e := Option.some.inj h
    have := Decode_calls A0 c0 l0 w hr0 hc0 hc.1 hc.2 hW
    rw [e] at this
    exact this
  · cases h
end Go.Proofs.YteidgpaakoeefaaDoor
namespace Go.Proofs.YteidgpaakoeefaaDoor.PIm
open Go.RowKit Go.Proofs.YteidgpaakoeefaaDoorW.PrintWords Go.Proofs.YteidgpaakoeefaaDoorW.PrintLast Go.Proofs.YteidgpaakoeefaaDoorW.PrintMore
attribute [local go_sem] max2_int min2_int max_two min_two max_three min_three max_four min_four   -- for this text's walks alone
set_option linter.unusedVariables false
set_option linter.unusedSimpArgs false
def tiltyardref14_row.l0 : Nat → List Int → List Int → Int → Option (Bool)
  | 0, _, _, _ => none
  | k + 1, x0, x1, x5 => if x5 < (x0.length : Int) then (if 0 ≤ x5 then (if x5 < (x1.length : Int) then (if (rd x0 x5) = (rd x1 x5) then (tiltyardref14_row.l0 k x0 x1 (wrap64 (x5 + 1))) else (some false)) else (none)) else (none)) else (some true)
def tiltyardref14_row.f (k : Nat) (l0 : List Int) (l1 : List Int) : Option (Bool) := if (l0.length : Int) = (l1.length : Int) then (tiltyardref14_row.l0 k l0 l1 0) else (some false)
set_option maxHeartbeats 8000000 in
set_option maxRecDepth 100000 in
theorem tiltyardref14_row.calls (k : Nat) (A0 : Option Addr) (c0 : Nat) (l0 : List Int) (A1 : Option Addr) (c1 : Nat) (l1 : List Int) (r : Bool) (w : World) (hr0 : Kd.C (Kd.int .i64) w A0 l0.length l0) (hc0 : l0.length ≤ c0) (hr1 : Kd.C (Kd.int .i64) w A1 l1.length l1) (hc1 : l1.length ≤ c1) (h : tiltyardref14_row.f k l0 l1 = some r) :
    Calls Tryd.prog 33 #[.slice A0 l0.length c0, .slice A1 l1.length c1] w fun e w' => e = .returned (.bool r) ∧ Drawn0 w w' := by
  have HR0 := Aside0.mk hr0
  have HC0 := Aside0.mk hc0
  clear hr0 hc0
  have HR1 := Aside0.mk hr1
  have HC1 := Aside0.mk hc1
  clear hr1 hc1
  have H : (if (l0.length : Int) = (l1.length : Int) then (tiltyardref14_row.l0 k l0 l1 0) else (some false)) = some r := h
  clear h
  by_cases c3 : (l0.length : Int) = (l1.length : Int)
  · rw [if_pos c3] at H
    have c3b0 : ((l0.length : Int) == (l1.length : Int)) = true := beq_iff_eq.mpr c3
    have c3b1 : ((l0.length : Int) != (l1.length : Int)) = false := bne_eq_false_iff_eq.mpr c3
    have c3b2 : (l0.length == l1.length) = true := by first | simpa using c3 | (simp at c3 ⊢; omega)
    clear c3
    have H' := Aside0.mk H
    clear H
    go_enter Tryd.func33, Tryd.ntmps33
    go_wp2
    repeat (go_quiet (fail); try go_wp2)
    go_loopg [5] k (fun kq v5 w' => ∃ (x5_1 : Int), v5 = .int .i64 x5_1 ∧ Aside0 (tiltyardref14_row.l0 kq l0 l1 x5_1 = some r) ∧ Aside0 (kq ≤ k) ∧ Drawn0 w w')
    case atStart => exact ⟨(0), (by first | rfl | (simp; done) | (simp [*]; done)), H', ⟨Nat.le_refl _⟩, by repeat (first | exact Drawn0.refl _ | apply Drawn0.step)⟩
    case round =>
      clear H'
      try clear c1
      try clear p2
      try clear c3
      try clear c3b0
      try clear c3b1
      try clear c3b2
      obtain ⟨x5_1, rfl, HA, HK1, ⟨m1, rfl⟩⟩ := hrel
      cases gk with
      | zero => exact absurd HA.out (by simp [tiltyardref14_row.l0])
      | succ k1 =>
        have H := HA.out
        clear HA
        simp only [tiltyardref14_row.l0] at H
        by_cases c4 : x5_1 < (l0.length : Int)
        · rw [if_pos c4] at H
          have c4b0 : decide (x5_1 < (l0.length : Int)) = true := decide_eq_true c4
          clear c4
          by_cases c5 : 0 ≤ x5_1
          · rw [if_pos c5] at H
            have c5b0 : decide (0 ≤ x5_1) = true := decide_eq_true c5
            clear c5
            by_cases c6 : x5_1 < (l1.length : Int)
            · rw [if_pos c6] at H
              have c6b0 : decide (x5_1 < (l1.length : Int)) = true := decide_eq_true c6
              clear c6
              by_cases c7 : (rd l0 x5_1) = (rd l1 x5_1)
              · rw [if_pos c7] at H
                have c7b0 : ((rd l0 x5_1) == (rd l1 x5_1)) = true := beq_iff_eq.mpr c7
                have c7b1 : ((rd l0 x5_1) != (rd l1 x5_1)) = false := bne_eq_false_iff_eq.mpr c7
                clear c7
                have H' := Aside0.mk H
                clear H
                have p183 : 0 ≤ (x5_1 : Int) := of_decide_eq_true (by first | (with_reducible assumption) | assumption)
                have q183 : x5_1 < (l0.length : Int) := of_decide_eq_true (by first | (with_reducible assumption) | assumption)
                obtain ⟨ad183, e183, hx183_0⟩ := Kd.at_int HR0.out x5_1 p183 q183
                cases e183
                replace p183 := eq_true p183
                replace q183 := eq_true q183
                have p184 : 0 ≤ (x5_1 : Int) := of_decide_eq_true (by first | (with_reducible assumption) | assumption)
                have q184 : x5_1 < (l1.length : Int) := of_decide_eq_true (by first | (with_reducible assumption) | assumption)
                obtain ⟨ad184, e184, hx184_0⟩ := Kd.at_int HR1.out x5_1 p184 q184
                cases e184
                replace p184 := eq_true p184
                replace q184 := eq_true q184
                go_wp2
                repeat (go_quiet (fail); try go_wp2)
                go_roundg k1
                case measure => have := HK1.out; omega
                case rel => exact ⟨(wrap64 (x5_1 + 1)), (by first | rfl | (simp; done) | (simp [*]; done)), H', ⟨by have := HK1.out; omega⟩, by repeat (first | exact Drawn0.refl _ | apply Drawn0.step)⟩
              · rw [if_neg c7] at H
                have c7b0 : ((rd l0 x5_1) == (rd l1 x5_1)) = false := beq_eq_false_iff_ne.mpr c7
                have c7b1 : ((rd l0 x5_1) != (rd l1 x5_1)) = true := bne_iff_ne.mpr c7
                obtain rfl := Option.some.inj H
                have p183 : 0 ≤ (x5_1 : Int) := of_decide_eq_true (by first | (with_reducible assumption) | assumption)
                have q183 : x5_1 < (l0.length : Int) := of_decide_eq_true (by first | (with_reducible assumption) | assumption)
                obtain ⟨ad183, e183, hx183_0⟩ := Kd.at_int HR0.out x5_1 p183 q183
                cases e183
                replace p183 := eq_true p183
                replace q183 := eq_true q183
                have p184 : 0 ≤ (x5_1 : Int) := of_decide_eq_true (by first | (with_reducible assumption) | assumption)
                have q184 : x5_1 < (l1.length : Int) := of_decide_eq_true (by first | (with_reducible assumption) | assumption)
                obtain ⟨ad184, e184, hx184_0⟩ := Kd.at_int HR1.out x5_1 p184 q184
                cases e184
                replace p184 := eq_true p184
                replace q184 := eq_true q184
                go_wp2
                repeat (go_quiet (fail); try go_wp2)
                go_ret
                exact ⟨by first | rfl | (simp; done) | (simp [*]; done), by repeat (first | exact Drawn0.refl _ | apply Drawn0.step)⟩
            · rw [if_neg c6] at H
              exact absurd H (by simp)
          · rw [if_neg c5] at H
            exact absurd H (by simp)
        · rw [if_neg c4] at H
          have c4b0 : decide (x5_1 < (l0.length : Int)) = false := decide_eq_false c4
          clear c4
          obtain rfl := Option.some.inj H
          go_wp2
          repeat (go_quiet (fail); try go_wp2)
          go_ret
          exact ⟨by first | rfl | (simp; done) | (simp [*]; done), by repeat (first | exact Drawn0.refl _ | apply Drawn0.step)⟩
  · rw [if_neg c3] at H
    have c3b0 : ((l0.length : Int) == (l1.length : Int)) = false := beq_eq_false_iff_ne.mpr c3
    have c3b1 : ((l0.length : Int) != (l1.length : Int)) = true := bne_iff_ne.mpr c3
    have c3b2 : (l0.length == l1.length) = false := by first | simpa using c3 | (simp at c3 ⊢; omega)
    obtain rfl := Option.some.inj H
    go_enter Tryd.func33, Tryd.ntmps33
    go_wp2
    repeat (go_quiet (fail); try go_wp2)
    go_ret
    exact ⟨by first | rfl | (simp; done) | (simp [*]; done), by repeat (first | exact Drawn0.refl _ | apply Drawn0.step)⟩
end Go.Proofs.YteidgpaakoeefaaDoor.PIm
