/- Taken together by a program of mine: what the proof names, out of the texts of this seat (its words as the print wrote them), part 4. -/
import Derived.Test.YteidgpaakoeefaaDoorR3
namespace Go.Proofs.YteidgpaakoeefaaDoor
open Go.RowKit Go.Proofs.YteidgpaakoeefaaDoorW.PrintWords Go.Proofs.YteidgpaakoeefaaDoorW.PrintLast Go.Proofs.YteidgpaakoeefaaDoorW.PrintMore
set_option linter.unusedVariables false
set_option linter.unusedSimpArgs false
open PIm
theorem fnB_last {f : S54} (hn : nameF f.f0 = true) (l1 : f.f1.length ≤ 8) (l3 : f.f3.length ≤ 32) (l4 : f.f4.length ≤ 32768) (h3 : f.f3.all typB = true) (hz : f.f2 = 0 ∨ typB f.f2 = true) (l2 : f.f1.length ≤ f.f3.length) (ht : f.f1 = f.f3.take f.f1.length) : fnB f = !(f.f4.any insBad) := by
  have hz2 : (decide (f.f2 = 0) || typB f.f2) = true := by rcases hz with h | h <;> simp [h]
  unfold fnB
  rw [hn, h3, hz2, decide_eq_true l1, decide_eq_true l3, decide_eq_true l4, decide_eq_true l2, decide_eq_true ht]
  simp
theorem ins_f {l : List S50} (h : l.length ≤ 140737488355318) : PIm.api_Instr_85.f l 86 = some (l.any insBad) := by
  unfold PIm.api_Instr_85.f
  rw [if_pos h]
def fn57_T3 : Bool × List (List Nat × List Nat) := (true, [([], []), ([0], [0]), ([1], [1]), ([1], [1]), ([3, 1], [1, 3]), ([4, 1], [1, 4]), ([2, 5, 1], [1, 2, 5]), ([1, 6], [1, 6]), ([7, 1], [7]), ([8], [8]), ([9, 8], [8, 9]), ([8], [8]), ([11, 8], [8, 11]), ([8], [8]), ([12, 13, 8], [8, 12, 13]), ([10, 14, 8, 8], [8, 10, 14]), ([8, 15], [8, 15]), ([16, 15], [16]), ([17], [17]), ([18, 17], [17, 18]), ([19, 17, 17], [17, 19]), ([20, 17], [17, 20]), ([17, 21], [17, 21]), ([22, 20, 0, 1, 2, 3, 4, 5, 6, 7, 8, 9, 10, 11, 12, 13, 14, 15, 16, 17, 18, 19, 20, 21, 22], [22])])
def fn57_B3 : List Nat := [0, 1, 3, 3, 11, 27, 63, 127, 255, 511, 1023, 511, 2559, 511, 14847, 32767, 65535, 131071, 262143, 524287, 1048575, 2097151, 4194303, 8388607]
theorem fn57_tab3 : rtab .any (opsOf Tryd.f57 3) = fn57_T3 := by kernel_rfl
theorem fn57_bits3 : waitsOk fn57_T3.2 fn57_B3 = true := by kernel_rfl
set_option maxHeartbeats 8000000 in
set_option maxRecDepth 100000 in
theorem fn_calls (f : S54) (h : fnIn f) (A1 : Option Addr) (c1 : Nat) (A3 : Option Addr) (c3 : Nat) (A4 : Option Addr) (c4 : Nat) (w : World) (h1 : Kd.C (Kd.int .i64) w A1 f.f1.length f.f1) (g1 : f.f1.length ≤ c1) (h3 : Kd.C (Kd.int .i64) w A3 f.f3.length f.f3) (g3 : f.f3.length ≤ c3) (h4 : Kd.C k50 w A4 f.f4.length f.f4) (g4 : f.f4.length ≤ c4) :
    Calls Tryd.prog 57 #[.agg #[.string f.f0, .slice A1 f.f1.length c1, .int .i64 f.f2, .slice A3 f.f3.length c3, .slice A4 f.f4.length c4]] w fun e w' => e = .returned (.bool (fnB f)) ∧ Below w.heap.size w w' := by
  obtain ⟨r, hR⟩ : ∃ r, r = fnB f := ⟨_, rfl⟩
  rw [← hR]
  have HRR := Aside0.mk hR; have G1 := Aside0.mk h1; have G3 := Aside0.mk h3; have G4 := Aside0.mk h4; have HFI := Aside0.mk h; have HG1 := Aside0.mk g1; have HG3 := Aside0.mk g3; have HG4 := Aside0.mk g4
  have HNM : Aside0 (token_Name.f f.f0 = some (nameF f.f0)) := ⟨by unfold token_Name.f; rw [if_pos h.1]⟩
  clear hR h1 h3 h4 h g1 g3 g4
  have hu54 := Tryd.underlying54
  go_enter Tryd.func57, Tryd.ntmps57
  go_wp2_with (first | ((with_reducible refine gate_dst (N := 1) rfl ?_); refine box_event ?hg (N := 1) ?hd (cs := #[.string f.f0, .slice A1 f.f1.length c1, .int .i64 f.f2, .slice A3 f.f3.length c3, .slice A4 f.f4.length c4]) (t := 54) ?hr ?_; (case hd => rfl); (case hg => rfl); (case hr => first | (go_simp; done) | (go_simp; rfl)); intro gX hg_ WX hbox_ hb_; have HB : Aside0 (Below w.heap.size w WX) := ⟨hb_⟩; have BX := Aside0.mk hbox_; clear hg_ hbox_ hb_; have hcX0 := (blk_cell BX.out 0).trans rfl; have hcX1 := (blk_cell BX.out 1).trans rfl; have hcX2 := (blk_cell BX.out 2).trans rfl; have hcX3 := (blk_cell BX.out 3).trans rfl; have hcX4 := (blk_cell BX.out 4).trans rfl))
  refine (token_Name.calls f.f0 _ _ HNM.out).mono ?_
  rintro e_ W2 ⟨rfl, hb_⟩
  have n_ := Aside0.mk (blk_below (show _ from by first | exact BX.out | exact blk_drew BX.out) hb_); have m_ := Aside0.mk (below_step (by repeat (first | (with_reducible first | exact HB.out | apply below_alloc | apply pw_below_drewN | apply below_drew1) | exact HB.out)) hb_); clear hcX0 hcX1 hcX2 hcX3 hcX4; clear BX HB hb_; have BX := n_; have HB := m_; clear n_ m_; have hcX0 := (blk_cell BX.out 0).trans rfl; have hcX1 := (blk_cell BX.out 1).trans rfl; have hcX2 := (blk_cell BX.out 2).trans rfl; have hcX3 := (blk_cell BX.out 3).trans rfl; have hcX4 := (blk_cell BX.out 4).trans rfl
  cases hn : nameF f.f0 with
  | false =>
    have hr2 : r = false := HRR.out.trans (by simp [fnB, hn])
    subst hr2
    go_wp2_with fail
    go_region
    all_goals
      go_wp2
      go_ret
      exact ⟨rfl, (by repeat (first | (with_reducible first | exact HB.out | apply below_alloc | apply pw_below_drewN | apply below_drew1) | exact HB.out))⟩
  | true =>
    by_cases l1 : f.f1.length ≤ 8
    rotate_left
    · have zl1 : decide ((f.f1.length : Int) ≤ 8) = false := decide_eq_false (by omega)
      have hr2 : r = false := HRR.out.trans (by simp [fnB, l1])
      subst hr2
      go_wp2_with fail
      go_region
      all_goals
        go_wp2
        go_ret
        exact ⟨rfl, (by repeat (first | (with_reducible first | exact HB.out | apply below_alloc | apply pw_below_drewN | apply below_drew1) | exact HB.out))⟩
    have zl1 : decide ((f.f1.length : Int) ≤ 8) = true := decide_eq_true (by omega)
    by_cases l3 : f.f3.length ≤ 32
    rotate_left
    · have zl3 : decide ((f.f3.length : Int) ≤ 32) = false := decide_eq_false (by omega)
      have hr2 : r = false := HRR.out.trans (by simp [fnB, l3])
      subst hr2
      go_wp2_with fail
      go_region
      all_goals
        go_wp2
        go_ret
        exact ⟨rfl, (by repeat (first | (with_reducible first | exact HB.out | apply below_alloc | apply pw_below_drewN | apply below_drew1) | exact HB.out))⟩
    have zl3 : decide ((f.f3.length : Int) ≤ 32) = true := decide_eq_true (by omega)
    by_cases l4 : f.f4.length ≤ 32768
    rotate_left
    · have zl4 : decide ((f.f4.length : Int) ≤ 32768) = false := decide_eq_false (by omega)
      have hr2 : r = false := HRR.out.trans (by simp [fnB, l4])
      subst hr2
      go_wp2_with fail
      go_region
      all_goals
        go_wp2
        go_ret
        exact ⟨rfl, (by repeat (first | (with_reducible first | exact HB.out | apply below_alloc | apply pw_below_drewN | apply below_drew1) | exact HB.out))⟩
    have zl4 : decide ((f.f4.length : Int) ≤ 32768) = true := decide_eq_true (by omega)
    go_wp2_with fail
    refine (image_types.calls A3 c3 f.f3 (f.f3.all typB) _ (Kd.C_below G3.out (by repeat (first | (with_reducible first | exact HB.out | apply below_alloc | apply pw_below_drewN | apply below_drew1) | exact HB.out))) HG3.out (types_f _ HFI.out.2.2.1)).mono ?_
    rintro e_ W3 ⟨rfl, hb_⟩
    have n_ := Aside0.mk (blk_below (show _ from by first | exact BX.out | exact blk_drew BX.out) hb_); have m_ := Aside0.mk (below_step (by repeat (first | (with_reducible first | exact HB.out | apply below_alloc | apply pw_below_drewN | apply below_drew1) | exact HB.out)) hb_); clear hcX0 hcX1 hcX2 hcX3 hcX4; clear BX HB hb_; have BX := n_; have HB := m_; clear n_ m_; have hcX0 := (blk_cell BX.out 0).trans rfl; have hcX1 := (blk_cell BX.out 1).trans rfl; have hcX2 := (blk_cell BX.out 2).trans rfl; have hcX3 := (blk_cell BX.out 3).trans rfl; have hcX4 := (blk_cell BX.out 4).trans rfl
    cases h3 : f.f3.all typB with
    | false =>
      have hr2 : r = false := HRR.out.trans (by simp [fnB, h3])
      subst hr2
      go_wp2_with fail
      go_region
      all_goals
        go_wp2
        go_ret
        exact ⟨rfl, (by repeat (first | (with_reducible first | exact HB.out | apply below_alloc | apply pw_below_drewN | apply below_drew1) | exact HB.out))⟩
    | true =>
      by_cases hz : f.f2 = 0
      · have z0 : (f.f2 == 0) = true := by simp [hz]
        by_cases l2 : f.f1.length ≤ f.f3.length
        rotate_left
        · have zl2 : decide ((f.f1.length : Int) ≤ (f.f3.length : Int)) = false := decide_eq_false (by omega)
          have hr2 : r = false := HRR.out.trans (by simp [fnB, l2])
          subst hr2
          go_wp2_with fail
          go_region
          all_goals
            go_wp2
            go_ret
            exact ⟨rfl, (by repeat (first | (with_reducible first | exact HB.out | apply below_alloc | apply pw_below_drewN | apply below_drew1) | exact HB.out))⟩
        have zl2 : decide ((f.f1.length : Int) ≤ (f.f3.length : Int)) = true := decide_eq_true (by omega)
        have zl0 : decide (0 ≤ (f.f1.length : Int)) = true := decide_eq_true (by omega)
        have HEF := fun b hb => (iequal_law f.f1 (f.f3.take ((f.f1.length : Int) : Int).toNat) (f.f1.length + 1) (Nat.lt_succ_self _) (by omega)).trans (congrArg some (show _ = b from hb))
        have HI := Aside0.mk (ins_f HFI.out.2.2.2)
        by_cases heq : f.f1 = f.f3.take f.f1.length
        rotate_left
        · have hr2 : r = false := HRR.out.trans (by simp [fnB, heq])
          have HE := Aside0.mk (HEF false (decide_eq_false heq)); clear heq HEF
          subst hr2
          go_wp2_with fail
          have n0_ := Aside0.mk (blk_drew BX.out)
          have n1_ := Aside0.mk (below_drew1 HB.out)
          clear BX
          clear HB
          have BX := n0_
          have HB := n1_
          clear n0_ n1_
          obtain ⟨i032, hi032, _, hsz32, _⟩ := info_parts info3
          obtain ⟨hcut32, hA32, hC32⟩ := print_take_of (P := Tryd.prog) (Value.int .i64) 0 52 3 .i64 Tryd.underlying52 hi032 hsz32 A3 c3 f.f3 (f.f1.length : Int) (of_decide_eq_true (by first | (with_reducible assumption) | assumption)) (of_decide_eq_true (by first | (with_reducible assumption) | assumption)) HG3.out
          have HR151 := Aside0.mk (Kd.C_of_reads (h1 := fun _ => rfl) (hA32 _ (Kd.reads_of_C G3.out)))
          have HC151 := Aside0.mk hC32
          clear hA32 hC32 hi032 hsz32
          refine start_ (n := 24) (S := fun w' => w'.cell? ⟨gX, 0, none⟩ = some (.string f.f0) ∧ w'.cell? ⟨gX, 1, none⟩ = some (.slice A1 f.f1.length c1) ∧ w'.cell? ⟨gX, 2, none⟩ = some (.int .i64 f.f2) ∧ w'.cell? ⟨gX, 3, none⟩ = some (.slice A3 f.f3.length c3) ∧ w'.cell? ⟨gX, 4, none⟩ = some (.slice A4 f.f4.length c4)) (ds := []) #[false, false, false, false, false, false, false, false, false, false, false, false, false, false, false, false, false, false, false, false, false, false, false, false] (by kernel_rfl) rfl rfl ⟨(blk_cell BX.out 0).trans rfl, (blk_cell BX.out 1).trans rfl, (blk_cell BX.out 2).trans rfl, (blk_cell BX.out 3).trans rfl, (blk_cell BX.out 4).trans rfl⟩ (fun hHeld => ?_); refine with_tabW fn57_tab3 fn57_bits3 (fun HT_ HW_ => ?_)
          generalize W3.drew = w31 at BX HB HR151 hHeld ⊢
          refine pure_ (i := 0) (N := some 42) (v := ?_) (a' := ?_) #[true, false, false, false, false, false, false, false, false, false, false, false, false, false, false, false, false, false, false, false, false, false, false, false] rfl rfl (any_of HT_.out (by kernel_rfl)) (fun _ _ _ h => h) (Or.inl ⟨by rfl, ?_⟩) ?_ ?_
          rotate_left
          · intro w'
            go_simp
            with_reducible rfl
          rotate_left
          · simp only [Act.put, List.setIfInBounds_toArray, List.set_cons_zero, List.set_cons_succ, i64_w, i32_w]
            rfl
          refine pure_ (i := 1) (N := some 43) (v := ?_) (a' := ?_) #[true, true, false, false, false, false, false, false, false, false, false, false, false, false, false, false, false, false, false, false, false, false, false, false] rfl rfl (any_of HT_.out (by kernel_rfl)) (fun _ _ _ h => h) (Or.inl ⟨by rfl, ?_⟩) ?_ ?_
          rotate_left
          · intro w'
            go_simp
            with_reducible rfl
          rotate_left
          · simp only [Act.put, List.setIfInBounds_toArray, List.set_cons_zero, List.set_cons_succ, i64_w, i32_w]
            rfl
          refine pure_ (i := 2) (N := some 44) (v := ?_) (a' := ?_) #[true, true, true, false, false, false, false, false, false, false, false, false, false, false, false, false, false, false, false, false, false, false, false, false] rfl rfl (any_of HT_.out (by kernel_rfl)) (fun _ _ _ h => h) (Or.inl ⟨by rfl, ?_⟩) ?_ ?_
          rotate_left
          · intro w'
            go_simp
            with_reducible rfl
          rotate_left
          · simp only [Act.put, List.setIfInBounds_toArray, List.set_cons_zero, List.set_cons_succ, i64_w, i32_w]
            rfl
          refine pure_ (i := 3) (N := some 45) (v := ?_) (a' := ?_) #[true, true, true, true, false, false, false, false, false, false, false, false, false, false, false, false, false, false, false, false, false, false, false, false] rfl rfl (any_of HT_.out (by kernel_rfl)) (fun _ _ _ h => h) (Or.inl ⟨by rfl, ?_⟩) ?_ ?_
          rotate_left
          · intro w'
            go_simp
            with_reducible rfl
          rotate_left
          · simp only [Act.put, List.setIfInBounds_toArray, List.set_cons_zero, List.set_cons_succ, i64_w, i32_w]
            rfl
          refine take_ (i := 4) (N := some 46) (v := ?_) (a' := ?_) #[true, true, true, true, true, false, false, false, false, false, false, false, false, false, false, false, false, false, false, false, false, false, false, false] rfl rfl (take_ofW HT_.out HW_.out (by kernel_rfl)) (fun _ _ _ h => h) (Or.inl ⟨by rfl, ?_⟩) hHeld ?_ ?_
          rotate_left
          · rintro w' ⟨s0, s1, s2, s3, s4⟩
            go_simp
            with_reducible rfl
          rotate_left
          · simp only [Act.put, List.setIfInBounds_toArray, List.set_cons_zero, List.set_cons_succ, i64_w, i32_w]
            rfl
          refine pure_ (i := 5) (N := some 47) (v := ?_) (a' := ?_) #[true, true, true, true, true, true, false, false, false, false, false, false, false, false, false, false, false, false, false, false, false, false, false, false] rfl rfl (any_of HT_.out (by kernel_rfl)) (fun _ _ _ h => h) (Or.inl ⟨by rfl, ?_⟩) ?_ ?_
          rotate_left
          · intro w'
            go_simp
            with_reducible rfl
          rotate_left
          · simp only [Act.put, List.setIfInBounds_toArray, List.set_cons_zero, List.set_cons_succ, i64_w, i32_w]
            rfl
          refine pure_ (i := 6) (N := some 48) (v := ?_) (a' := ?_) #[true, true, true, true, true, true, true, false, false, false, false, false, false, false, false, false, false, false, false, false, false, false, false, false] rfl rfl (any_of HT_.out (by kernel_rfl)) (fun _ _ _ h => h) (Or.inl ⟨by rfl, ?_⟩) ?_ ?_
          rotate_left
          · intro w'
            go_simp
            with_reducible rfl
          rotate_left
          · simp only [Act.put, List.setIfInBounds_toArray, List.set_cons_zero, List.set_cons_succ, i64_w, i32_w]
            rfl
          refine pure_ (i := 7) (N := some 49) (v := ?_) (a' := ?_) #[true, true, true, true, true, true, true, true, false, false, false, false, false, false, false, false, false, false, false, false, false, false, false, false] rfl rfl (any_of HT_.out (by kernel_rfl)) (fun _ _ _ h => h) (Or.inl ⟨by rfl, ?_⟩) ?_ ?_
          rotate_left
          · intro w'
            go_simp
            with_reducible rfl
          rotate_left
          · simp only [Act.put, List.setIfInBounds_toArray, List.set_cons_zero, List.set_cons_succ, i64_w, i32_w]
            rfl
          refine pure_ (i := 8) (N := some 50) (v := ?_) (a' := ?_) #[true, true, true, true, true, true, true, true, true, false, false, false, false, false, false, false, false, false, false, false, false, false, false, false] rfl rfl (any_of HT_.out (by kernel_rfl)) (fun _ _ _ h => h) (Or.inl ⟨by rfl, ?_⟩) ?_ ?_
          rotate_left
          · intro w'
            go_simp
            with_reducible rfl
          rotate_left
          · simp only [Act.put, List.setIfInBounds_toArray, List.set_cons_zero, List.set_cons_succ, i64_w, i32_w]
            rfl
          refine pure_ (i := 9) (N := some 51) (v := ?_) (a' := ?_) #[true, true, true, true, true, true, true, true, true, true, false, false, false, false, false, false, false, false, false, false, false, false, false, false] rfl rfl (any_of HT_.out (by kernel_rfl)) (fun _ _ _ h => h) (Or.inl ⟨by rfl, ?_⟩) ?_ ?_
          rotate_left
          · intro w'
            go_simp
            with_reducible rfl
          rotate_left
          · simp only [Act.put, List.setIfInBounds_toArray, List.set_cons_zero, List.set_cons_succ, i64_w, i32_w]
            rfl
          refine pure_ (i := 11) (N := some 53) (v := ?_) (a' := ?_) #[true, true, true, true, true, true, true, true, true, true, false, true, false, false, false, false, false, false, false, false, false, false, false, false] rfl rfl (any_of HT_.out (by kernel_rfl)) (fun _ _ _ h => h) (Or.inl ⟨by rfl, ?_⟩) ?_ ?_
          rotate_left
          · intro w'
            go_simp
            with_reducible rfl
          rotate_left
          · simp only [Act.put, List.setIfInBounds_toArray, List.set_cons_zero, List.set_cons_succ, i64_w, i32_w]
            rfl
          refine pure_ (i := 13) (N := some 55) (v := ?_) (a' := ?_) #[true, true, true, true, true, true, true, true, true, true, false, true, false, true, false, false, false, false, false, false, false, false, false, false] rfl rfl (any_of HT_.out (by kernel_rfl)) (fun _ _ _ h => h) (Or.inl ⟨by rfl, ?_⟩) ?_ ?_
          rotate_left
          · intro w'
            go_simp
            with_reducible rfl
          rotate_left
          · simp only [Act.put, List.setIfInBounds_toArray, List.set_cons_zero, List.set_cons_succ, i64_w, i32_w]
            rfl
          refine take_ (i := 10) (N := some 52) (v := ?_) (a' := ?_) #[true, true, true, true, true, true, true, true, true, true, true, true, false, true, false, false, false, false, false, false, false, false, false, false] rfl rfl (take_ofW HT_.out HW_.out (by kernel_rfl)) (fun _ _ _ h => h) (Or.inl ⟨by rfl, ?_⟩) hHeld ?_ ?_
          rotate_left
          · rintro w' ⟨s0, s1, s2, s3, s4⟩
            go_simp
            with_reducible rfl
          rotate_left
          · simp only [Act.put, List.setIfInBounds_toArray, List.set_cons_zero, List.set_cons_succ, i64_w, i32_w]
            rfl
          refine take_ (i := 12) (N := some 54) (v := ?_) (a' := ?_) #[true, true, true, true, true, true, true, true, true, true, true, true, true, true, false, false, false, false, false, false, false, false, false, false] rfl rfl (take_ofW HT_.out HW_.out (by kernel_rfl)) (fun _ _ _ h => h) (Or.inl ⟨by rfl, ?_⟩) hHeld ?_ ?_
          rotate_left
          · rintro w' ⟨s0, s1, s2, s3, s4⟩
            go_simp
            with_reducible rfl
          rotate_left
          · simp only [Act.put, List.setIfInBounds_toArray, List.set_cons_zero, List.set_cons_succ, i64_w, i32_w]
            rfl
          refine pure_ (i := 14) (N := some 56) (v := ?_) (a' := ?_) #[true, true, true, true, true, true, true, true, true, true, true, true, true, true, true, false, false, false, false, false, false, false, false, false] rfl rfl (any_of HT_.out (by kernel_rfl)) (fun _ _ _ h => h) (Or.inl ⟨by rfl, ?_⟩) ?_ ?_
          rotate_left
          · intro w'
            go_simp
            with_reducible rfl
          rotate_left
          · simp only [Act.put, List.setIfInBounds_toArray, List.set_cons_zero, List.set_cons_succ, i64_w, i32_w]
            rfl
          refine one_ (i := 15) (N := some 57) #[true, true, true, true, true, true, true, true, true, true, true, true, true, true, true, true, false, false, false, false, false, false, false, false] rfl rfl (one_of HT_.out (by kernel_rfl)) (by decide) (fun K hK => ?_)
          refine goes_ Tryd.func84 (by kernel_rfl) rfl #[.slice A1 f.f1.length c1, .slice A3 (f.f3.take ((f.f1.length : Int) : Int).toNat).length c3] (by rfl) rfl rfl (by (try simp only [List.map_toArray, List.map_cons, List.map_nil]); first | done | (rw [show (f.f3.take ((f.f1.length : Int) : Int).toNat).length = (f.f1.length : Int).toNat from (by rw [List.length_take]; have h_ : ((f.f1.length : Int) : Int) ≤ (f.f3.length : Int) := of_decide_eq_true (by first | (with_reducible assumption) | assumption); omega)] <;> rfl) | rfl | (simp only [List.length_drop, List.length_take]; rfl)) ?_
          with_reducible refine (slices_Equal_int_int.calls (f.f1.length + 1) _ _ f.f1 _ _ (f.f3.take ((f.f1.length : Int) : Int).toNat) false _ ?side1 ?side2 ?side3 ?side4 HE.out).mono ?_
          (case side1 => repeat (first | exact (Kd.C_below G1.out HB.out) | (with_reducible refine Kd.C_alloc ?_ _) | (with_reducible refine Kd.C_drewN ?_ _) | (with_reducible refine Kd.C_drew ?_)))
          (case side2 => exact HG1.out)
          (case side3 => repeat (first | exact (Kd.C_below HR151.out HB.out) | (with_reducible refine Kd.C_alloc ?_ _) | (with_reducible refine Kd.C_drewN ?_ _) | (with_reducible refine Kd.C_drew ?_)))
          (case side4 => exact HC151.out)
          rintro e w' ⟨rfl, ⟨nd, rfl⟩⟩
          refine ⟨_, rfl, ?_⟩
          refine hK.out _ _ ⟨(blk_cell BX.out 0).trans rfl, (blk_cell BX.out 1).trans rfl, (blk_cell BX.out 2).trans rfl, (blk_cell BX.out 3).trans rfl, (blk_cell BX.out 4).trans rfl⟩ (fun hHeld => ?_)
          clear hK K
          refine norm_ (a' := ?_) ?_ ?_
          rotate_left
          · show Act.put _ (some 57) _ = _
            simp only [Act.put, List.setIfInBounds_toArray, List.set_cons_zero, List.set_cons_succ, i64_w, i32_w]
            rfl
          refine pure_ (i := 16) (N := some 58) (v := ?_) (a' := ?_) #[true, true, true, true, true, true, true, true, true, true, true, true, true, true, true, true, true, false, false, false, false, false, false, false] rfl rfl (any_of HT_.out (by kernel_rfl)) (fun _ _ _ h => h) (Or.inl ⟨by rfl, ?_⟩) ?_ ?_
          rotate_left
          · intro w'
            go_simp
            with_reducible rfl
          rotate_left
          · simp only [Act.put, List.setIfInBounds_toArray, List.set_cons_zero, List.set_cons_succ, i64_w, i32_w]
            rfl
          refine pure_ (i := 17) (N := some 59) (v := ?_) (a' := ?_) #[true, true, true, true, true, true, true, true, true, true, true, true, true, true, true, true, true, true, false, false, false, false, false, false] rfl rfl (any_of HT_.out (by kernel_rfl)) (fun _ _ _ h => h) (Or.inl ⟨by rfl, ?_⟩) ?_ ?_
          rotate_left
          · intro w'
            go_simp
            with_reducible rfl
          rotate_left
          · simp only [Act.put, List.setIfInBounds_toArray, List.set_cons_zero, List.set_cons_succ, i64_w, i32_w]
            rfl
          refine pure_ (i := 18) (N := some 60) (v := undef) (a' := ?_) #[true, true, true, true, true, true, true, true, true, true, true, true, true, true, true, true, true, true, true, false, false, false, false, false] rfl rfl (any_of HT_.out (by kernel_rfl)) (fun _ _ _ h => h) (Or.inr ⟨by rfl, rfl⟩) ?_ ?_
          rotate_left
          · simp only [Act.put, List.setIfInBounds_toArray, List.set_cons_zero, List.set_cons_succ, i64_w, i32_w]
            rfl
          refine pure_ (i := 19) (N := some 61) (v := undef) (a' := ?_) #[true, true, true, true, true, true, true, true, true, true, true, true, true, true, true, true, true, true, true, true, false, false, false, false] rfl rfl (any_of HT_.out (by kernel_rfl)) (fun _ _ _ h => h) (Or.inr ⟨by rfl, rfl⟩) ?_ ?_
          rotate_left
          · simp only [Act.put, List.setIfInBounds_toArray, List.set_cons_zero, List.set_cons_succ, i64_w, i32_w]
            rfl
          refine pure_ (i := 20) (N := some 62) (v := undef) (a' := ?_) #[true, true, true, true, true, true, true, true, true, true, true, true, true, true, true, true, true, true, true, true, true, false, false, false] rfl rfl (any_of HT_.out (by kernel_rfl)) (fun _ _ _ h => h) (Or.inr ⟨by rfl, rfl⟩) ?_ ?_
          rotate_left
          · simp only [Act.put, List.setIfInBounds_toArray, List.set_cons_zero, List.set_cons_succ, i64_w, i32_w]
            rfl
          refine pure_ (i := 21) (N := some 63) (v := undef) (a' := ?_) #[true, true, true, true, true, true, true, true, true, true, true, true, true, true, true, true, true, true, true, true, true, true, false, false] rfl rfl (any_of HT_.out (by kernel_rfl)) (fun _ _ _ h => h) (Or.inr ⟨by rfl, rfl⟩) ?_ ?_
          rotate_left
          · simp only [Act.put, List.setIfInBounds_toArray, List.set_cons_zero, List.set_cons_succ, i64_w, i32_w]
            rfl
          refine pure_ (i := 22) (N := some 64) (v := ?_) (a' := ?_) #[true, true, true, true, true, true, true, true, true, true, true, true, true, true, true, true, true, true, true, true, true, true, true, false] rfl rfl (any_of HT_.out (by kernel_rfl)) (fun _ _ _ h => h) (Or.inl ⟨by rfl, ?_⟩) ?_ ?_
          rotate_left
          · intro w'
            go_simp
            with_reducible rfl
          rotate_left
          · simp only [Act.put, List.setIfInBounds_toArray, List.set_cons_zero, List.set_cons_succ, i64_w, i32_w]
            rfl
          refine pure_ (i := 23) (N := some 2) (v := ?_) (a' := ?_) #[true, true, true, true, true, true, true, true, true, true, true, true, true, true, true, true, true, true, true, true, true, true, true, true] rfl rfl (any_of HT_.out (by kernel_rfl)) (fun _ _ _ h => h) (Or.inl ⟨by rfl, ?_⟩) ?_ ?_
          rotate_left
          · intro w'
            go_simp
            with_reducible rfl
          rotate_left
          · simp only [Act.put, List.setIfInBounds_toArray, List.set_cons_zero, List.set_cons_succ, i64_w, i32_w]
            rfl
          refine done_ (done_of HT_.out (by kernel_rfl)) ?_
          try go_wp2
          go_ret
          exact ⟨by first | rfl | (simp [errW_none, errW_some] <;> rfl) | (simp [*, errW_none, errW_some] <;> rfl), by repeat (first | (with_reducible first | exact HB.out | apply below_alloc | apply pw_below_drewN | apply below_drew1) | exact HB.out)⟩
        have hr2 : r = !(f.f4.any insBad) := HRR.out.trans (fnB_last hn l1 l3 l4 h3 (.inl hz) l2 heq)
        have HE := Aside0.mk (HEF true (decide_eq_true heq)); clear heq HEF
        subst hr2
        go_wp2_with fail
        have n0_ := Aside0.mk (blk_drew BX.out)
        have n1_ := Aside0.mk (below_drew1 HB.out)
        clear BX
        clear HB
        have BX := n0_
        have HB := n1_
        clear n0_ n1_
        obtain ⟨i023, hi023, _, hsz23, _⟩ := info_parts info3
        obtain ⟨hcut23, hA23, hC23⟩ := print_take_of (P := Tryd.prog) (Value.int .i64) 0 52 3 .i64 Tryd.underlying52 hi023 hsz23 A3 c3 f.f3 (f.f1.length : Int) (of_decide_eq_true (by first | (with_reducible assumption) | assumption)) (of_decide_eq_true (by first | (with_reducible assumption) | assumption)) HG3.out
        have HR151 := Aside0.mk (Kd.C_of_reads (h1 := fun _ => rfl) (hA23 _ (Kd.reads_of_C G3.out)))
        have HC151 := Aside0.mk hC23
        clear hA23 hC23 hi023 hsz23
        refine start_ (n := 24) (S := fun w' => w'.cell? ⟨gX, 0, none⟩ = some (.string f.f0) ∧ w'.cell? ⟨gX, 1, none⟩ = some (.slice A1 f.f1.length c1) ∧ w'.cell? ⟨gX, 2, none⟩ = some (.int .i64 f.f2) ∧ w'.cell? ⟨gX, 3, none⟩ = some (.slice A3 f.f3.length c3) ∧ w'.cell? ⟨gX, 4, none⟩ = some (.slice A4 f.f4.length c4)) (ds := []) #[false, false, false, false, false, false, false, false, false, false, false, false, false, false, false, false, false, false, false, false, false, false, false, false] (by kernel_rfl) rfl rfl ⟨(blk_cell BX.out 0).trans rfl, (blk_cell BX.out 1).trans rfl, (blk_cell BX.out 2).trans rfl, (blk_cell BX.out 3).trans rfl, (blk_cell BX.out 4).trans rfl⟩ (fun hHeld => ?_); refine with_tabW fn57_tab3 fn57_bits3 (fun HT_ HW_ => ?_)
        generalize W3.drew = w22 at BX HB HR151 hHeld ⊢
        refine pure_ (i := 0) (N := some 42) (v := ?_) (a' := ?_) #[true, false, false, false, false, false, false, false, false, false, false, false, false, false, false, false, false, false, false, false, false, false, false, false] rfl rfl (any_of HT_.out (by kernel_rfl)) (fun _ _ _ h => h) (Or.inl ⟨by rfl, ?_⟩) ?_ ?_
        rotate_left
        · intro w'
          go_simp
          with_reducible rfl
        rotate_left
        · simp only [Act.put, List.setIfInBounds_toArray, List.set_cons_zero, List.set_cons_succ, i64_w, i32_w]
          rfl
        refine pure_ (i := 1) (N := some 43) (v := ?_) (a' := ?_) #[true, true, false, false, false, false, false, false, false, false, false, false, false, false, false, false, false, false, false, false, false, false, false, false] rfl rfl (any_of HT_.out (by kernel_rfl)) (fun _ _ _ h => h) (Or.inl ⟨by rfl, ?_⟩) ?_ ?_
        rotate_left
        · intro w'
          go_simp
          with_reducible rfl
        rotate_left
        · simp only [Act.put, List.setIfInBounds_toArray, List.set_cons_zero, List.set_cons_succ, i64_w, i32_w]
          rfl
        refine pure_ (i := 2) (N := some 44) (v := ?_) (a' := ?_) #[true, true, true, false, false, false, false, false, false, false, false, false, false, false, false, false, false, false, false, false, false, false, false, false] rfl rfl (any_of HT_.out (by kernel_rfl)) (fun _ _ _ h => h) (Or.inl ⟨by rfl, ?_⟩) ?_ ?_
        rotate_left
        · intro w'
          go_simp
          with_reducible rfl
        rotate_left
        · simp only [Act.put, List.setIfInBounds_toArray, List.set_cons_zero, List.set_cons_succ, i64_w, i32_w]
          rfl
        refine pure_ (i := 3) (N := some 45) (v := ?_) (a' := ?_) #[true, true, true, true, false, false, false, false, false, false, false, false, false, false, false, false, false, false, false, false, false, false, false, false] rfl rfl (any_of HT_.out (by kernel_rfl)) (fun _ _ _ h => h) (Or.inl ⟨by rfl, ?_⟩) ?_ ?_
        rotate_left
        · intro w'
          go_simp
          with_reducible rfl
        rotate_left
        · simp only [Act.put, List.setIfInBounds_toArray, List.set_cons_zero, List.set_cons_succ, i64_w, i32_w]
          rfl
        refine take_ (i := 4) (N := some 46) (v := ?_) (a' := ?_) #[true, true, true, true, true, false, false, false, false, false, false, false, false, false, false, false, false, false, false, false, false, false, false, false] rfl rfl (take_ofW HT_.out HW_.out (by kernel_rfl)) (fun _ _ _ h => h) (Or.inl ⟨by rfl, ?_⟩) hHeld ?_ ?_
        rotate_left
        · rintro w' ⟨s0, s1, s2, s3, s4⟩
          go_simp
          with_reducible rfl
        rotate_left
        · simp only [Act.put, List.setIfInBounds_toArray, List.set_cons_zero, List.set_cons_succ, i64_w, i32_w]
          rfl
        refine pure_ (i := 5) (N := some 47) (v := ?_) (a' := ?_) #[true, true, true, true, true, true, false, false, false, false, false, false, false, false, false, false, false, false, false, false, false, false, false, false] rfl rfl (any_of HT_.out (by kernel_rfl)) (fun _ _ _ h => h) (Or.inl ⟨by rfl, ?_⟩) ?_ ?_
        rotate_left
        · intro w'
          go_simp
          with_reducible rfl
        rotate_left
        · simp only [Act.put, List.setIfInBounds_toArray, List.set_cons_zero, List.set_cons_succ, i64_w, i32_w]
          rfl
        refine pure_ (i := 6) (N := some 48) (v := ?_) (a' := ?_) #[true, true, true, true, true, true, true, false, false, false, false, false, false, false, false, false, false, false, false, false, false, false, false, false] rfl rfl (any_of HT_.out (by kernel_rfl)) (fun _ _ _ h => h) (Or.inl ⟨by rfl, ?_⟩) ?_ ?_
        rotate_left
        · intro w'
          go_simp
          with_reducible rfl
        rotate_left
        · simp only [Act.put, List.setIfInBounds_toArray, List.set_cons_zero, List.set_cons_succ, i64_w, i32_w]
          rfl
        refine pure_ (i := 7) (N := some 49) (v := ?_) (a' := ?_) #[true, true, true, true, true, true, true, true, false, false, false, false, false, false, false, false, false, false, false, false, false, false, false, false] rfl rfl (any_of HT_.out (by kernel_rfl)) (fun _ _ _ h => h) (Or.inl ⟨by rfl, ?_⟩) ?_ ?_
        rotate_left
        · intro w'
          go_simp
          with_reducible rfl
        rotate_left
        · simp only [Act.put, List.setIfInBounds_toArray, List.set_cons_zero, List.set_cons_succ, i64_w, i32_w]
          rfl
        refine pure_ (i := 8) (N := some 50) (v := ?_) (a' := ?_) #[true, true, true, true, true, true, true, true, true, false, false, false, false, false, false, false, false, false, false, false, false, false, false, false] rfl rfl (any_of HT_.out (by kernel_rfl)) (fun _ _ _ h => h) (Or.inl ⟨by rfl, ?_⟩) ?_ ?_
        rotate_left
        · intro w'
          go_simp
          with_reducible rfl
        rotate_left
        · simp only [Act.put, List.setIfInBounds_toArray, List.set_cons_zero, List.set_cons_succ, i64_w, i32_w]
          rfl
        refine pure_ (i := 9) (N := some 51) (v := ?_) (a' := ?_) #[true, true, true, true, true, true, true, true, true, true, false, false, false, false, false, false, false, false, false, false, false, false, false, false] rfl rfl (any_of HT_.out (by kernel_rfl)) (fun _ _ _ h => h) (Or.inl ⟨by rfl, ?_⟩) ?_ ?_
        rotate_left
        · intro w'
          go_simp
          with_reducible rfl
        rotate_left
        · simp only [Act.put, List.setIfInBounds_toArray, List.set_cons_zero, List.set_cons_succ, i64_w, i32_w]
          rfl
        refine pure_ (i := 11) (N := some 53) (v := ?_) (a' := ?_) #[true, true, true, true, true, true, true, true, true, true, false, true, false, false, false, false, false, false, false, false, false, false, false, false] rfl rfl (any_of HT_.out (by kernel_rfl)) (fun _ _ _ h => h) (Or.inl ⟨by rfl, ?_⟩) ?_ ?_
        rotate_left
        · intro w'
          go_simp
          with_reducible rfl
        rotate_left
        · simp only [Act.put, List.setIfInBounds_toArray, List.set_cons_zero, List.set_cons_succ, i64_w, i32_w]
          rfl
        refine pure_ (i := 13) (N := some 55) (v := ?_) (a' := ?_) #[true, true, true, true, true, true, true, true, true, true, false, true, false, true, false, false, false, false, false, false, false, false, false, false] rfl rfl (any_of HT_.out (by kernel_rfl)) (fun _ _ _ h => h) (Or.inl ⟨by rfl, ?_⟩) ?_ ?_
        rotate_left
        · intro w'
          go_simp
          with_reducible rfl
        rotate_left
        · simp only [Act.put, List.setIfInBounds_toArray, List.set_cons_zero, List.set_cons_succ, i64_w, i32_w]
          rfl
        refine take_ (i := 10) (N := some 52) (v := ?_) (a' := ?_) #[true, true, true, true, true, true, true, true, true, true, true, true, false, true, false, false, false, false, false, false, false, false, false, false] rfl rfl (take_ofW HT_.out HW_.out (by kernel_rfl)) (fun _ _ _ h => h) (Or.inl ⟨by rfl, ?_⟩) hHeld ?_ ?_
        rotate_left
        · rintro w' ⟨s0, s1, s2, s3, s4⟩
          go_simp
          with_reducible rfl
        rotate_left
        · simp only [Act.put, List.setIfInBounds_toArray, List.set_cons_zero, List.set_cons_succ, i64_w, i32_w]
          rfl
        refine take_ (i := 12) (N := some 54) (v := ?_) (a' := ?_) #[true, true, true, true, true, true, true, true, true, true, true, true, true, true, false, false, false, false, false, false, false, false, false, false] rfl rfl (take_ofW HT_.out HW_.out (by kernel_rfl)) (fun _ _ _ h => h) (Or.inl ⟨by rfl, ?_⟩) hHeld ?_ ?_
        rotate_left
        · rintro w' ⟨s0, s1, s2, s3, s4⟩
          go_simp
          with_reducible rfl
        rotate_left
        · simp only [Act.put, List.setIfInBounds_toArray, List.set_cons_zero, List.set_cons_succ, i64_w, i32_w]
          rfl
        refine pure_ (i := 14) (N := some 56) (v := ?_) (a' := ?_) #[true, true, true, true, true, true, true, true, true, true, true, true, true, true, true, false, false, false, false, false, false, false, false, false] rfl rfl (any_of HT_.out (by kernel_rfl)) (fun _ _ _ h => h) (Or.inl ⟨by rfl, ?_⟩) ?_ ?_
        rotate_left
        · intro w'
          go_simp
          with_reducible rfl
        rotate_left
        · simp only [Act.put, List.setIfInBounds_toArray, List.set_cons_zero, List.set_cons_succ, i64_w, i32_w]
          rfl
        refine one_ (i := 15) (N := some 57) #[true, true, true, true, true, true, true, true, true, true, true, true, true, true, true, true, false, false, false, false, false, false, false, false] rfl rfl (one_of HT_.out (by kernel_rfl)) (by decide) (fun K hK => ?_)
        refine goes_ Tryd.func84 (by kernel_rfl) rfl #[.slice A1 f.f1.length c1, .slice A3 (f.f3.take ((f.f1.length : Int) : Int).toNat).length c3] (by rfl) rfl rfl (by (try simp only [List.map_toArray, List.map_cons, List.map_nil]); first | done | (rw [show (f.f3.take ((f.f1.length : Int) : Int).toNat).length = (f.f1.length : Int).toNat from (by rw [List.length_take]; have h_ : ((f.f1.length : Int) : Int) ≤ (f.f3.length : Int) := of_decide_eq_true (by first | (with_reducible assumption) | assumption); omega)] <;> rfl) | rfl | (simp only [List.length_drop, List.length_take]; rfl)) ?_
        with_reducible refine (slices_Equal_int_int.calls (f.f1.length + 1) _ _ f.f1 _ _ (f.f3.take ((f.f1.length : Int) : Int).toNat) true _ ?side1 ?side2 ?side3 ?side4 HE.out).mono ?_
        (case side1 => repeat (first | exact (Kd.C_below G1.out HB.out) | (with_reducible refine Kd.C_alloc ?_ _) | (with_reducible refine Kd.C_drewN ?_ _) | (with_reducible refine Kd.C_drew ?_)))
        (case side2 => exact HG1.out)
        (case side3 => repeat (first | exact (Kd.C_below HR151.out HB.out) | (with_reducible refine Kd.C_alloc ?_ _) | (with_reducible refine Kd.C_drewN ?_ _) | (with_reducible refine Kd.C_drew ?_)))
        (case side4 => exact HC151.out)
        rintro e w' ⟨rfl, ⟨nd, rfl⟩⟩
        refine ⟨_, rfl, ?_⟩
        refine hK.out _ _ ⟨(blk_cell BX.out 0).trans rfl, (blk_cell BX.out 1).trans rfl, (blk_cell BX.out 2).trans rfl, (blk_cell BX.out 3).trans rfl, (blk_cell BX.out 4).trans rfl⟩ (fun hHeld => ?_)
        clear hK K
        refine norm_ (a' := ?_) ?_ ?_
        rotate_left
        · show Act.put _ (some 57) _ = _
          simp only [Act.put, List.setIfInBounds_toArray, List.set_cons_zero, List.set_cons_succ, i64_w, i32_w]
          rfl
        refine pure_ (i := 16) (N := some 58) (v := ?_) (a' := ?_) #[true, true, true, true, true, true, true, true, true, true, true, true, true, true, true, true, true, false, false, false, false, false, false, false] rfl rfl (any_of HT_.out (by kernel_rfl)) (fun _ _ _ h => h) (Or.inl ⟨by rfl, ?_⟩) ?_ ?_
        rotate_left
        · intro w'
          go_simp
          with_reducible rfl
        rotate_left
        · simp only [Act.put, List.setIfInBounds_toArray, List.set_cons_zero, List.set_cons_succ, i64_w, i32_w]
          rfl
        refine pure_ (i := 17) (N := some 59) (v := ?_) (a' := ?_) #[true, true, true, true, true, true, true, true, true, true, true, true, true, true, true, true, true, true, false, false, false, false, false, false] rfl rfl (any_of HT_.out (by kernel_rfl)) (fun _ _ _ h => h) (Or.inl ⟨by rfl, ?_⟩) ?_ ?_
        rotate_left
        · intro w'
          go_simp
          with_reducible rfl
        rotate_left
        · simp only [Act.put, List.setIfInBounds_toArray, List.set_cons_zero, List.set_cons_succ, i64_w, i32_w]
          rfl
        refine pure_ (i := 18) (N := some 60) (v := ?_) (a' := ?_) #[true, true, true, true, true, true, true, true, true, true, true, true, true, true, true, true, true, true, true, false, false, false, false, false] rfl rfl (any_of HT_.out (by kernel_rfl)) (fun _ _ _ h => h) (Or.inl ⟨by rfl, ?_⟩) ?_ ?_
        rotate_left
        · intro w'
          go_simp
          with_reducible rfl
        rotate_left
        · simp only [Act.put, List.setIfInBounds_toArray, List.set_cons_zero, List.set_cons_succ, i64_w, i32_w]
          rfl
        refine take_ (i := 19) (N := some 61) (v := ?_) (a' := ?_) #[true, true, true, true, true, true, true, true, true, true, true, true, true, true, true, true, true, true, true, true, false, false, false, false] rfl rfl (take_ofW HT_.out HW_.out (by kernel_rfl)) (fun _ _ _ h => h) (Or.inl ⟨by rfl, ?_⟩) hHeld ?_ ?_
        rotate_left
        · rintro w' ⟨s0, s1, s2, s3, s4⟩
          go_simp
          with_reducible rfl
        rotate_left
        · simp only [Act.put, List.setIfInBounds_toArray, List.set_cons_zero, List.set_cons_succ, i64_w, i32_w]
          rfl
        refine one_ (i := 20) (N := some 62) #[true, true, true, true, true, true, true, true, true, true, true, true, true, true, true, true, true, true, true, true, true, false, false, false] rfl rfl (one_of HT_.out (by kernel_rfl)) (by decide) (fun K hK => ?_)
        refine goes_ Tryd.func85 (by kernel_rfl) rfl #[.slice A4 f.f4.length c4, .func (.func 86) #[] #[]] (by rfl) rfl rfl (by (try simp only [List.map_toArray, List.map_cons, List.map_nil]); first | done | rfl | (simp only [List.length_drop, List.length_take]; rfl)) ?_
        with_reducible refine (PIm.api_Instr_85.calls _ _ f.f4 86 (f.f4.any insBad) _ ?side1 ?side2 HI.out).mono ?_
        (case side1 => repeat (first | exact (Kd.C_below G4.out (by repeat (first | (with_reducible first | exact HB.out | apply below_alloc | apply pw_below_drewN | apply below_drew1) | exact HB.out))) | (with_reducible refine Kd.C_alloc ?_ _) | (with_reducible refine Kd.C_drewN ?_ _) | (with_reducible refine Kd.C_drew ?_)))
        (case side2 => exact HG4.out)
        rintro e w24 ⟨rfl, hb⟩
        refine ⟨_, rfl, ?_⟩
        have n0_ := Aside0.mk (blk_below (g := gX) (o := .cells #[.string f.f0, .slice A1 f.f1.length c1, .int .i64 f.f2, .slice A3 f.f3.length c3, .slice A4 f.f4.length c4] 54 (0, 0)) (by (with_reducible repeat (first | refine blk_drewN ?_ _ | refine blk_drew ?_ | refine blk_alloc ?_ _)); exact BX.out) hb)
        have n1_ := Aside0.mk (below_step (by repeat (first | (with_reducible first | exact HB.out | apply below_alloc | apply pw_below_drewN | apply below_drew1) | exact HB.out)) hb)
        clear BX
        clear HB
        have BX := n0_
        have HB := n1_
        clear n0_ n1_
        (try clear hb)
        (try clear hb2)
        (try clear hk)
        (try clear hi)
        refine hK.out _ _ ⟨(blk_cell BX.out 0).trans rfl, (blk_cell BX.out 1).trans rfl, (blk_cell BX.out 2).trans rfl, (blk_cell BX.out 3).trans rfl, (blk_cell BX.out 4).trans rfl⟩ (fun hHeld => ?_)
        clear hK K
        refine norm_ (a' := ?_) ?_ ?_
        rotate_left
        · show Act.put _ (some 62) _ = _
          simp only [Act.put, List.setIfInBounds_toArray, List.set_cons_zero, List.set_cons_succ, i64_w, i32_w]
          rfl
        refine pure_ (i := 21) (N := some 63) (v := ?_) (a' := ?_) #[true, true, true, true, true, true, true, true, true, true, true, true, true, true, true, true, true, true, true, true, true, true, false, false] rfl rfl (any_of HT_.out (by kernel_rfl)) (fun _ _ _ h => h) (Or.inl ⟨by rfl, ?_⟩) ?_ ?_
        rotate_left
        · intro w'
          go_simp
          with_reducible rfl
        rotate_left
        · simp only [Act.put, List.setIfInBounds_toArray, List.set_cons_zero, List.set_cons_succ, i64_w, i32_w]
          rfl
        refine pure_ (i := 22) (N := some 64) (v := ?_) (a' := ?_) #[true, true, true, true, true, true, true, true, true, true, true, true, true, true, true, true, true, true, true, true, true, true, true, false] rfl rfl (any_of HT_.out (by kernel_rfl)) (fun _ _ _ h => h) (Or.inl ⟨by rfl, ?_⟩) ?_ ?_
        rotate_left
        · intro w'
          go_simp
          with_reducible rfl
        rotate_left
        · simp only [Act.put, List.setIfInBounds_toArray, List.set_cons_zero, List.set_cons_succ, i64_w, i32_w]
          rfl
        refine pure_ (i := 23) (N := some 2) (v := ?_) (a' := ?_) #[true, true, true, true, true, true, true, true, true, true, true, true, true, true, true, true, true, true, true, true, true, true, true, true] rfl rfl (any_of HT_.out (by kernel_rfl)) (fun _ _ _ h => h) (Or.inl ⟨by rfl, ?_⟩) ?_ ?_
        rotate_left
        · intro w'
          go_simp
          with_reducible rfl
        rotate_left
        · simp only [Act.put, List.setIfInBounds_toArray, List.set_cons_zero, List.set_cons_succ, i64_w, i32_w]
          rfl
        refine done_ (done_of HT_.out (by kernel_rfl)) ?_
        try go_wp2
        go_ret
        exact ⟨by first | rfl | (simp [errW_none, errW_some] <;> rfl) | (simp [*, errW_none, errW_some] <;> rfl), by repeat (first | (with_reducible first | exact HB.out | apply below_alloc | apply pw_below_drewN | apply below_drew1) | exact HB.out)⟩
      have z0 : (f.f2 == 0) = false := by simp [hz]
      go_wp2_with fail
      refine (image_typed.calls f.f2 (typB f.f2) _ (typed_f _)).mono ?_
      rintro e_ W4 ⟨rfl, hd_⟩
      have hb_ := hd_.below
      clear hd_
      have n_ := Aside0.mk (blk_below (show _ from by first | exact BX.out | exact blk_drew BX.out) hb_); have m_ := Aside0.mk (below_step (by repeat (first | (with_reducible first | exact HB.out | apply below_alloc | apply pw_below_drewN | apply below_drew1) | exact HB.out)) hb_); clear hcX0 hcX1 hcX2 hcX3 hcX4; clear BX HB hb_; have BX := n_; have HB := m_; clear n_ m_; have hcX0 := (blk_cell BX.out 0).trans rfl; have hcX1 := (blk_cell BX.out 1).trans rfl; have hcX2 := (blk_cell BX.out 2).trans rfl; have hcX3 := (blk_cell BX.out 3).trans rfl; have hcX4 := (blk_cell BX.out 4).trans rfl
      cases ht : typB f.f2 with
      | false =>
        have hr2 : r = false := HRR.out.trans (by simp [fnB, hz, ht])
        subst hr2
        go_wp2_with fail
        go_region
        all_goals
          go_wp2
          go_ret
          exact ⟨rfl, (by repeat (first | (with_reducible first | exact HB.out | apply below_alloc | apply pw_below_drewN | apply below_drew1) | exact HB.out))⟩
      | true =>
        by_cases l2 : f.f1.length ≤ f.f3.length
        rotate_left
        · have zl2 : decide ((f.f1.length : Int) ≤ (f.f3.length : Int)) = false := decide_eq_false (by omega)
          have hr2 : r = false := HRR.out.trans (by simp [fnB, l2])
          subst hr2
          go_wp2_with fail
          go_region
          all_goals
            go_wp2
            go_ret
            exact ⟨rfl, (by repeat (first | (with_reducible first | exact HB.out | apply below_alloc | apply pw_below_drewN | apply below_drew1) | exact HB.out))⟩
        have zl2 : decide ((f.f1.length : Int) ≤ (f.f3.length : Int)) = true := decide_eq_true (by omega)
        have zl0 : decide (0 ≤ (f.f1.length : Int)) = true := decide_eq_true (by omega)
        have HEF := fun b hb => (iequal_law f.f1 (f.f3.take ((f.f1.length : Int) : Int).toNat) (f.f1.length + 1) (Nat.lt_succ_self _) (by omega)).trans (congrArg some (show _ = b from hb))
        have HI := Aside0.mk (ins_f HFI.out.2.2.2)
        by_cases heq : f.f1 = f.f3.take f.f1.length
        rotate_left
        · have hr2 : r = false := HRR.out.trans (by simp [fnB, heq])
          have HE := Aside0.mk (HEF false (decide_eq_false heq)); clear heq HEF
          subst hr2
          go_wp2_with fail
          have n0_ := Aside0.mk (blk_drew BX.out)
          have n1_ := Aside0.mk (below_drew1 HB.out)
          clear BX
          clear HB
          have BX := n0_
          have HB := n1_
          clear n0_ n1_
          obtain ⟨i032, hi032, _, hsz32, _⟩ := info_parts info3
          obtain ⟨hcut32, hA32, hC32⟩ := print_take_of (P := Tryd.prog) (Value.int .i64) 0 52 3 .i64 Tryd.underlying52 hi032 hsz32 A3 c3 f.f3 (f.f1.length : Int) (of_decide_eq_true (by first | (with_reducible assumption) | assumption)) (of_decide_eq_true (by first | (with_reducible assumption) | assumption)) HG3.out
          have HR151 := Aside0.mk (Kd.C_of_reads (h1 := fun _ => rfl) (hA32 _ (Kd.reads_of_C G3.out)))
          have HC151 := Aside0.mk hC32
          clear hA32 hC32 hi032 hsz32
          refine start_ (n := 24) (S := fun w' => w'.cell? ⟨gX, 0, none⟩ = some (.string f.f0) ∧ w'.cell? ⟨gX, 1, none⟩ = some (.slice A1 f.f1.length c1) ∧ w'.cell? ⟨gX, 2, none⟩ = some (.int .i64 f.f2) ∧ w'.cell? ⟨gX, 3, none⟩ = some (.slice A3 f.f3.length c3) ∧ w'.cell? ⟨gX, 4, none⟩ = some (.slice A4 f.f4.length c4)) (ds := []) #[false, false, false, false, false, false, false, false, false, false, false, false, false, false, false, false, false, false, false, false, false, false, false, false] (by kernel_rfl) rfl rfl ⟨(blk_cell BX.out 0).trans rfl, (blk_cell BX.out 1).trans rfl, (blk_cell BX.out 2).trans rfl, (blk_cell BX.out 3).trans rfl, (blk_cell BX.out 4).trans rfl⟩ (fun hHeld => ?_); refine with_tabW fn57_tab3 fn57_bits3 (fun HT_ HW_ => ?_)
          generalize W4.drew = w31 at BX HB HR151 hHeld ⊢
          refine pure_ (i := 0) (N := some 42) (v := ?_) (a' := ?_) #[true, false, false, false, false, false, false, false, false, false, false, false, false, false, false, false, false, false, false, false, false, false, false, false] rfl rfl (any_of HT_.out (by kernel_rfl)) (fun _ _ _ h => h) (Or.inl ⟨by rfl, ?_⟩) ?_ ?_
          rotate_left
          · intro w'
            go_simp
            with_reducible rfl
          rotate_left
          · simp only [Act.put, List.setIfInBounds_toArray, List.set_cons_zero, List.set_cons_succ, i64_w, i32_w]
            rfl
          refine pure_ (i := 1) (N := some 43) (v := ?_) (a' := ?_) #[true, true, false, false, false, false, false, false, false, false, false, false, false, false, false, false, false, false, false, false, false, false, false, false] rfl rfl (any_of HT_.out (by kernel_rfl)) (fun _ _ _ h => h) (Or.inl ⟨by rfl, ?_⟩) ?_ ?_
          rotate_left
          · intro w'
            go_simp
            with_reducible rfl
          rotate_left
          · simp only [Act.put, List.setIfInBounds_toArray, List.set_cons_zero, List.set_cons_succ, i64_w, i32_w]
            rfl
          refine pure_ (i := 2) (N := some 44) (v := ?_) (a' := ?_) #[true, true, true, false, false, false, false, false, false, false, false, false, false, false, false, false, false, false, false, false, false, false, false, false] rfl rfl (any_of HT_.out (by kernel_rfl)) (fun _ _ _ h => h) (Or.inl ⟨by rfl, ?_⟩) ?_ ?_
          rotate_left
          · intro w'
            go_simp
            with_reducible rfl
          rotate_left
          · simp only [Act.put, List.setIfInBounds_toArray, List.set_cons_zero, List.set_cons_succ, i64_w, i32_w]
            rfl
          refine pure_ (i := 3) (N := some 45) (v := ?_) (a' := ?_) #[true, true, true, true, false, false, false, false, false, false, false, false, false, false, false, false, false, false, false, false, false, false, false, false] rfl rfl (any_of HT_.out (by kernel_rfl)) (fun _ _ _ h => h) (Or.inl ⟨by rfl, ?_⟩) ?_ ?_
          rotate_left
          · intro w'
            go_simp
            with_reducible rfl
          rotate_left
          · simp only [Act.put, List.setIfInBounds_toArray, List.set_cons_zero, List.set_cons_succ, i64_w, i32_w]
            rfl
          refine take_ (i := 4) (N := some 46) (v := ?_) (a' := ?_) #[true, true, true, true, true, false, false, false, false, false, false, false, false, false, false, false, false, false, false, false, false, false, false, false] rfl rfl (take_ofW HT_.out HW_.out (by kernel_rfl)) (fun _ _ _ h => h) (Or.inl ⟨by rfl, ?_⟩) hHeld ?_ ?_
          rotate_left
          · rintro w' ⟨s0, s1, s2, s3, s4⟩
            go_simp
            with_reducible rfl
          rotate_left
          · simp only [Act.put, List.setIfInBounds_toArray, List.set_cons_zero, List.set_cons_succ, i64_w, i32_w]
            rfl
          refine pure_ (i := 5) (N := some 47) (v := ?_) (a' := ?_) #[true, true, true, true, true, true, false, false, false, false, false, false, false, false, false, false, false, false, false, false, false, false, false, false] rfl rfl (any_of HT_.out (by kernel_rfl)) (fun _ _ _ h => h) (Or.inl ⟨by rfl, ?_⟩) ?_ ?_
          rotate_left
          · intro w'
            go_simp
            with_reducible rfl
          rotate_left
          · simp only [Act.put, List.setIfInBounds_toArray, List.set_cons_zero, List.set_cons_succ, i64_w, i32_w]
            rfl
          refine pure_ (i := 6) (N := some 48) (v := ?_) (a' := ?_) #[true, true, true, true, true, true, true, false, false, false, false, false, false, false, false, false, false, false, false, false, false, false, false, false] rfl rfl (any_of HT_.out (by kernel_rfl)) (fun _ _ _ h => h) (Or.inl ⟨by rfl, ?_⟩) ?_ ?_
          rotate_left
          · intro w'
            go_simp
            with_reducible rfl
          rotate_left
          · simp only [Act.put, List.setIfInBounds_toArray, List.set_cons_zero, List.set_cons_succ, i64_w, i32_w]
            rfl
          refine pure_ (i := 7) (N := some 49) (v := ?_) (a' := ?_) #[true, true, true, true, true, true, true, true, false, false, false, false, false, false, false, false, false, false, false, false, false, false, false, false] rfl rfl (any_of HT_.out (by kernel_rfl)) (fun _ _ _ h => h) (Or.inl ⟨by rfl, ?_⟩) ?_ ?_
          rotate_left
          · intro w'
            go_simp
            with_reducible rfl
          rotate_left
          · simp only [Act.put, List.setIfInBounds_toArray, List.set_cons_zero, List.set_cons_succ, i64_w, i32_w]
            rfl
          refine pure_ (i := 8) (N := some 50) (v := ?_) (a' := ?_) #[true, true, true, true, true, true, true, true, true, false, false, false, false, false, false, false, false, false, false, false, false, false, false, false] rfl rfl (any_of HT_.out (by kernel_rfl)) (fun _ _ _ h => h) (Or.inl ⟨by rfl, ?_⟩) ?_ ?_
          rotate_left
          · intro w'
            go_simp
            with_reducible rfl
          rotate_left
          · simp only [Act.put, List.setIfInBounds_toArray, List.set_cons_zero, List.set_cons_succ, i64_w, i32_w]
            rfl
          refine pure_ (i := 9) (N := some 51) (v := ?_) (a' := ?_) #[true, true, true, true, true, true, true, true, true, true, false, false, false, false, false, false, false, false, false, false, false, false, false, false] rfl rfl (any_of HT_.out (by kernel_rfl)) (fun _ _ _ h => h) (Or.inl ⟨by rfl, ?_⟩) ?_ ?_
          rotate_left
          · intro w'
            go_simp
            with_reducible rfl
          rotate_left
          · simp only [Act.put, List.setIfInBounds_toArray, List.set_cons_zero, List.set_cons_succ, i64_w, i32_w]
            rfl
          refine pure_ (i := 11) (N := some 53) (v := ?_) (a' := ?_) #[true, true, true, true, true, true, true, true, true, true, false, true, false, false, false, false, false, false, false, false, false, false, false, false] rfl rfl (any_of HT_.out (by kernel_rfl)) (fun _ _ _ h => h) (Or.inl ⟨by rfl, ?_⟩) ?_ ?_
          rotate_left
          · intro w'
            go_simp
            with_reducible rfl
          rotate_left
          · simp only [Act.put, List.setIfInBounds_toArray, List.set_cons_zero, List.set_cons_succ, i64_w, i32_w]
            rfl
          refine pure_ (i := 13) (N := some 55) (v := ?_) (a' := ?_) #[true, true, true, true, true, true, true, true, true, true, false, true, false, true, false, false, false, false, false, false, false, false, false, false] rfl rfl (any_of HT_.out (by kernel_rfl)) (fun _ _ _ h => h) (Or.inl ⟨by rfl, ?_⟩) ?_ ?_
          rotate_left
          · intro w'
            go_simp
            with_reducible rfl
          rotate_left
          · simp only [Act.put, List.setIfInBounds_toArray, List.set_cons_zero, List.set_cons_succ, i64_w, i32_w]
            rfl
          refine take_ (i := 10) (N := some 52) (v := ?_) (a' := ?_) #[true, true, true, true, true, true, true, true, true, true, true, true, false, true, false, false, false, false, false, false, false, false, false, false] rfl rfl (take_ofW HT_.out HW_.out (by kernel_rfl)) (fun _ _ _ h => h) (Or.inl ⟨by rfl, ?_⟩) hHeld ?_ ?_
          rotate_left
          · rintro w' ⟨s0, s1, s2, s3, s4⟩
            go_simp
            with_reducible rfl
          rotate_left
          · simp only [Act.put, List.setIfInBounds_toArray, List.set_cons_zero, List.set_cons_succ, i64_w, i32_w]
            rfl
          refine take_ (i := 12) (N := some 54) (v := ?_) (a' := ?_) #[true, true, true, true, true, true, true, true, true, true, true, true, true, true, false, false, false, false, false, false, false, false, false, false] rfl rfl (take_ofW HT_.out HW_.out (by kernel_rfl)) (fun _ _ _ h => h) (Or.inl ⟨by rfl, ?_⟩) hHeld ?_ ?_
          rotate_left
          · rintro w' ⟨s0, s1, s2, s3, s4⟩
            go_simp
            with_reducible rfl
          rotate_left
          · simp only [Act.put, List.setIfInBounds_toArray, List.set_cons_zero, List.set_cons_succ, i64_w, i32_w]
            rfl
          refine pure_ (i := 14) (N := some 56) (v := ?_) (a' := ?_) #[true, true, true, true, true, true, true, true, true, true, true, true, true, true, true, false, false, false, false, false, false, false, false, false] rfl rfl (any_of HT_.out (by kernel_rfl)) (fun _ _ _ h => h) (Or.inl ⟨by rfl, ?_⟩) ?_ ?_
          rotate_left
          · intro w'
            go_simp
            with_reducible rfl
          rotate_left
          · simp only [Act.put, List.setIfInBounds_toArray, List.set_cons_zero, List.set_cons_succ, i64_w, i32_w]
            rfl
          refine one_ (i := 15) (N := some 57) #[true, true, true, true, true, true, true, true, true, true, true, true, true, true, true, true, false, false, false, false, false, false, false, false] rfl rfl (one_of HT_.out (by kernel_rfl)) (by decide) (fun K hK => ?_)
          refine goes_ Tryd.func84 (by kernel_rfl) rfl #[.slice A1 f.f1.length c1, .slice A3 (f.f3.take ((f.f1.length : Int) : Int).toNat).length c3] (by rfl) rfl rfl (by (try simp only [List.map_toArray, List.map_cons, List.map_nil]); first | done | (rw [show (f.f3.take ((f.f1.length : Int) : Int).toNat).length = (f.f1.length : Int).toNat from (by rw [List.length_take]; have h_ : ((f.f1.length : Int) : Int) ≤ (f.f3.length : Int) := of_decide_eq_true (by first | (with_reducible assumption) | assumption); omega)] <;> rfl) | rfl | (simp only [List.length_drop, List.length_take]; rfl)) ?_
          with_reducible refine (slices_Equal_int_int.calls (f.f1.length + 1) _ _ f.f1 _ _ (f.f3.take ((f.f1.length : Int) : Int).toNat) false _ ?side1 ?side2 ?side3 ?side4 HE.out).mono ?_
          (case side1 => repeat (first | exact (Kd.C_below G1.out HB.out) | (with_reducible refine Kd.C_alloc ?_ _) | (with_reducible refine Kd.C_drewN ?_ _) | (with_reducible refine Kd.C_drew ?_)))
          (case side2 => exact HG1.out)
          (case side3 => repeat (first | exact (Kd.C_below HR151.out HB.out) | (with_reducible refine Kd.C_alloc ?_ _) | (with_reducible refine Kd.C_drewN ?_ _) | (with_reducible refine Kd.C_drew ?_)))
          (case side4 => exact HC151.out)
          rintro e w' ⟨rfl, ⟨nd, rfl⟩⟩
          refine ⟨_, rfl, ?_⟩
          refine hK.out _ _ ⟨(blk_cell BX.out 0).trans rfl, (blk_cell BX.out 1).trans rfl, (blk_cell BX.out 2).trans rfl, (blk_cell BX.out 3).trans rfl, (blk_cell BX.out 4).trans rfl⟩ (fun hHeld => ?_)
          clear hK K
          refine norm_ (a' := ?_) ?_ ?_
          rotate_left
          · show Act.put _ (some 57) _ = _
            simp only [Act.put, List.setIfInBounds_toArray, List.set_cons_zero, List.set_cons_succ, i64_w, i32_w]
            rfl
          refine pure_ (i := 16) (N := some 58) (v := ?_) (a' := ?_) #[true, true, true, true, true, true, true, true, true, true, true, true, true, true, true, true, true, false, false, false, false, false, false, false] rfl rfl (any_of HT_.out (by kernel_rfl)) (fun _ _ _ h => h) (Or.inl ⟨by rfl, ?_⟩) ?_ ?_
          rotate_left
          · intro w'
            go_simp
            with_reducible rfl
          rotate_left
          · simp only [Act.put, List.setIfInBounds_toArray, List.set_cons_zero, List.set_cons_succ, i64_w, i32_w]
            rfl
          refine pure_ (i := 17) (N := some 59) (v := ?_) (a' := ?_) #[true, true, true, true, true, true, true, true, true, true, true, true, true, true, true, true, true, true, false, false, false, false, false, false] rfl rfl (any_of HT_.out (by kernel_rfl)) (fun _ _ _ h => h) (Or.inl ⟨by rfl, ?_⟩) ?_ ?_
          rotate_left
          · intro w'
            go_simp
            with_reducible rfl
          rotate_left
          · simp only [Act.put, List.setIfInBounds_toArray, List.set_cons_zero, List.set_cons_succ, i64_w, i32_w]
            rfl
          refine pure_ (i := 18) (N := some 60) (v := undef) (a' := ?_) #[true, true, true, true, true, true, true, true, true, true, true, true, true, true, true, true, true, true, true, false, false, false, false, false] rfl rfl (any_of HT_.out (by kernel_rfl)) (fun _ _ _ h => h) (Or.inr ⟨by rfl, rfl⟩) ?_ ?_
          rotate_left
          · simp only [Act.put, List.setIfInBounds_toArray, List.set_cons_zero, List.set_cons_succ, i64_w, i32_w]
            rfl
          refine pure_ (i := 19) (N := some 61) (v := undef) (a' := ?_) #[true, true, true, true, true, true, true, true, true, true, true, true, true, true, true, true, true, true, true, true, false, false, false, false] rfl rfl (any_of HT_.out (by kernel_rfl)) (fun _ _ _ h => h) (Or.inr ⟨by rfl, rfl⟩) ?_ ?_
          rotate_left
          · simp only [Act.put, List.setIfInBounds_toArray, List.set_cons_zero, List.set_cons_succ, i64_w, i32_w]
            rfl
          refine pure_ (i := 20) (N := some 62) (v := undef) (a' := ?_) #[true, true, true, true, true, true, true, true, true, true, true, true, true, true, true, true, true, true, true, true, true, false, false, false] rfl rfl (any_of HT_.out (by kernel_rfl)) (fun _ _ _ h => h) (Or.inr ⟨by rfl, rfl⟩) ?_ ?_
          rotate_left
          · simp only [Act.put, List.setIfInBounds_toArray, List.set_cons_zero, List.set_cons_succ, i64_w, i32_w]
            rfl
          refine pure_ (i := 21) (N := some 63) (v := undef) (a' := ?_) #[true, true, true, true, true, true, true, true, true, true, true, true, true, true, true, true, true, true, true, true, true, true, false, false] rfl rfl (any_of HT_.out (by kernel_rfl)) (fun _ _ _ h => h) (Or.inr ⟨by rfl, rfl⟩) ?_ ?_
          rotate_left
          · simp only [Act.put, List.setIfInBounds_toArray, List.set_cons_zero, List.set_cons_succ, i64_w, i32_w]
            rfl
          refine pure_ (i := 22) (N := some 64) (v := ?_) (a' := ?_) #[true, true, true, true, true, true, true, true, true, true, true, true, true, true, true, true, true, true, true, true, true, true, true, false] rfl rfl (any_of HT_.out (by kernel_rfl)) (fun _ _ _ h => h) (Or.inl ⟨by rfl, ?_⟩) ?_ ?_
          rotate_left
          · intro w'
            go_simp
            with_reducible rfl
          rotate_left
          · simp only [Act.put, List.setIfInBounds_toArray, List.set_cons_zero, List.set_cons_succ, i64_w, i32_w]
            rfl
          refine pure_ (i := 23) (N := some 2) (v := ?_) (a' := ?_) #[true, true, true, true, true, true, true, true, true, true, true, true, true, true, true, true, true, true, true, true, true, true, true, true] rfl rfl (any_of HT_.out (by kernel_rfl)) (fun _ _ _ h => h) (Or.inl ⟨by rfl, ?_⟩) ?_ ?_
          rotate_left
          · intro w'
            go_simp
            with_reducible rfl
          rotate_left
          · simp only [Act.put, List.setIfInBounds_toArray, List.set_cons_zero, List.set_cons_succ, i64_w, i32_w]
            rfl
          refine done_ (done_of HT_.out (by kernel_rfl)) ?_
          try go_wp2
          go_ret
          exact ⟨by first | rfl | (simp [errW_none, errW_some] <;> rfl) | (simp [*, errW_none, errW_some] <;> rfl), by repeat (first | (with_reducible first | exact HB.out | apply below_alloc | apply pw_below_drewN | apply below_drew1) | exact HB.out)⟩
        have hr2 : r = !(f.f4.any insBad) := HRR.out.trans (fnB_last hn l1 l3 l4 h3 (.inr ht) l2 heq)
        have HE := Aside0.mk (HEF true (decide_eq_true heq)); clear heq HEF
        subst hr2
        go_wp2_with fail
        have n0_ := Aside0.mk (blk_drew BX.out)
        have n1_ := Aside0.mk (below_drew1 HB.out)
        clear BX
        clear HB
        have BX := n0_
        have HB := n1_
        clear n0_ n1_
        obtain ⟨i023, hi023, _, hsz23, _⟩ := info_parts info3
        obtain ⟨hcut23, hA23, hC23⟩ := print_take_of (P := Tryd.prog) (Value.int .i64) 0 52 3 .i64 Tryd.underlying52 hi023 hsz23 A3 c3 f.f3 (f.f1.length : Int) (of_decide_eq_true (by first | (with_reducible assumption) | assumption)) (of_decide_eq_true (by first | (with_reducible assumption) | assumption)) HG3.out
        have HR151 := Aside0.mk (Kd.C_of_reads (h1 := fun _ => rfl) (hA23 _ (Kd.reads_of_C G3.out)))
        have HC151 := Aside0.mk hC23
        clear hA23 hC23 hi023 hsz23
        refine start_ (n := 24) (S := fun w' => w'.cell? ⟨gX, 0, none⟩ = some (.string f.f0) ∧ w'.cell? ⟨gX, 1, none⟩ = some (.slice A1 f.f1.length c1) ∧ w'.cell? ⟨gX, 2, none⟩ = some (.int .i64 f.f2) ∧ w'.cell? ⟨gX, 3, none⟩ = some (.slice A3 f.f3.length c3) ∧ w'.cell? ⟨gX, 4, none⟩ = some (.slice A4 f.f4.length c4)) (ds := []) #[false, false, false, false, false, false, false, false, false, false, false, false, false, false, false, false, false, false, false, false, false, false, false, false] (by kernel_rfl) rfl rfl ⟨(blk_cell BX.out 0).trans rfl, (blk_cell BX.out 1).trans rfl, (blk_cell BX.out 2).trans rfl, (blk_cell BX.out 3).trans rfl, (blk_cell BX.out 4).trans rfl⟩ (fun hHeld => ?_); refine with_tabW fn57_tab3 fn57_bits3 (fun HT_ HW_ => ?_)
        generalize W4.drew = w22 at BX HB HR151 hHeld ⊢
        refine pure_ (i := 0) (N := some 42) (v := ?_) (a' := ?_) #[true, false, false, false, false, false, false, false, false, false, false, false, false, false, false, false, false, false, false, false, false, false, false, false] rfl rfl (any_of HT_.out (by kernel_rfl)) (fun _ _ _ h => h) (Or.inl ⟨by rfl, ?_⟩) ?_ ?_
        rotate_left
        · intro w'
          go_simp
          with_reducible rfl
        rotate_left
        · simp only [Act.put, List.setIfInBounds_toArray, List.set_cons_zero, List.set_cons_succ, i64_w, i32_w]
          rfl
        refine pure_ (i := 1) (N := some 43) (v := ?_) (a' := ?_) #[true, true, false, false, false, false, false, false, false, false, false, false, false, false, false, false, false, false, false, false, false, false, false, false] rfl rfl (any_of HT_.out (by kernel_rfl)) (fun _ _ _ h => h) (Or.inl ⟨by rfl, ?_⟩) ?_ ?_
        rotate_left
        · intro w'
          go_simp
          with_reducible rfl
        rotate_left
        · simp only [Act.put, List.setIfInBounds_toArray, List.set_cons_zero, List.set_cons_succ, i64_w, i32_w]
          rfl
        refine pure_ (i := 2) (N := some 44) (v := ?_) (a' := ?_) #[true, true, true, false, false, false, false, false, false, false, false, false, false, false, false, false, false, false, false, false, false, false, false, false] rfl rfl (any_of HT_.out (by kernel_rfl)) (fun _ _ _ h => h) (Or.inl ⟨by rfl, ?_⟩) ?_ ?_
        rotate_left
        · intro w'
          go_simp
          with_reducible rfl
        rotate_left
        · simp only [Act.put, List.setIfInBounds_toArray, List.set_cons_zero, List.set_cons_succ, i64_w, i32_w]
          rfl
        refine pure_ (i := 3) (N := some 45) (v := ?_) (a' := ?_) #[true, true, true, true, false, false, false, false, false, false, false, false, false, false, false, false, false, false, false, false, false, false, false, false] rfl rfl (any_of HT_.out (by kernel_rfl)) (fun _ _ _ h => h) (Or.inl ⟨by rfl, ?_⟩) ?_ ?_
        rotate_left
        · intro w'
          go_simp
          with_reducible rfl
        rotate_left
        · simp only [Act.put, List.setIfInBounds_toArray, List.set_cons_zero, List.set_cons_succ, i64_w, i32_w]
          rfl
        refine take_ (i := 4) (N := some 46) (v := ?_) (a' := ?_) #[true, true, true, true, true, false, false, false, false, false, false, false, false, false, false, false, false, false, false, false, false, false, false, false] rfl rfl (take_ofW HT_.out HW_.out (by kernel_rfl)) (fun _ _ _ h => h) (Or.inl ⟨by rfl, ?_⟩) hHeld ?_ ?_
        rotate_left
        · rintro w' ⟨s0, s1, s2, s3, s4⟩
          go_simp
          with_reducible rfl
        rotate_left
        · simp only [Act.put, List.setIfInBounds_toArray, List.set_cons_zero, List.set_cons_succ, i64_w, i32_w]
          rfl
        refine pure_ (i := 5) (N := some 47) (v := ?_) (a' := ?_) #[true, true, true, true, true, true, false, false, false, false, false, false, false, false, false, false, false, false, false, false, false, false, false, false] rfl rfl (any_of HT_.out (by kernel_rfl)) (fun _ _ _ h => h) (Or.inl ⟨by rfl, ?_⟩) ?_ ?_
        rotate_left
        · intro w'
          go_simp
          with_reducible rfl
        rotate_left
        · simp only [Act.put, List.setIfInBounds_toArray, List.set_cons_zero, List.set_cons_succ, i64_w, i32_w]
          rfl
        refine pure_ (i := 6) (N := some 48) (v := ?_) (a' := ?_) #[true, true, true, true, true, true, true, false, false, false, false, false, false, false, false, false, false, false, false, false, false, false, false, false] rfl rfl (any_of HT_.out (by kernel_rfl)) (fun _ _ _ h => h) (Or.inl ⟨by rfl, ?_⟩) ?_ ?_
        rotate_left
        · intro w'
          go_simp
          with_reducible rfl
        rotate_left
        · simp only [Act.put, List.setIfInBounds_toArray, List.set_cons_zero, List.set_cons_succ, i64_w, i32_w]
          rfl
        refine pure_ (i := 7) (N := some 49) (v := ?_) (a' := ?_) #[true, true, true, true, true, true, true, true, false, false, false, false, false, false, false, false, false, false, false, false, false, false, false, false] rfl rfl (any_of HT_.out (by kernel_rfl)) (fun _ _ _ h => h) (Or.inl ⟨by rfl, ?_⟩) ?_ ?_
        rotate_left
        · intro w'
          go_simp
          with_reducible rfl
        rotate_left
        · simp only [Act.put, List.setIfInBounds_toArray, List.set_cons_zero, List.set_cons_succ, i64_w, i32_w]
          rfl
        refine pure_ (i := 8) (N := some 50) (v := ?_) (a' := ?_) #[true, true, true, true, true, true, true, true, true, false, false, false, false, false, false, false, false, false, false, false, false, false, false, false] rfl rfl (any_of HT_.out (by kernel_rfl)) (fun _ _ _ h => h) (Or.inl ⟨by rfl, ?_⟩) ?_ ?_
        rotate_left
        · intro w'
          go_simp
          with_reducible rfl
        rotate_left
        · simp only [Act.put, List.setIfInBounds_toArray, List.set_cons_zero, List.set_cons_succ, i64_w, i32_w]
          rfl
        refine pure_ (i := 9) (N := some 51) (v := ?_) (a' := ?_) #[true, true, true, true, true, true, true, true, true, true, false, false, false, false, false, false, false, false, false, false, false, false, false, false] rfl rfl (any_of HT_.out (by kernel_rfl)) (fun _ _ _ h => h) (Or.inl ⟨by rfl, ?_⟩) ?_ ?_
        rotate_left
        · intro w'
          go_simp
          with_reducible rfl
        rotate_left
        · simp only [Act.put, List.setIfInBounds_toArray, List.set_cons_zero, List.set_cons_succ, i64_w, i32_w]
          rfl
        refine pure_ (i := 11) (N := some 53) (v := ?_) (a' := ?_) #[true, true, true, true, true, true, true, true, true, true, false, true, false, false, false, false, false, false, false, false, false, false, false, false] rfl rfl (any_of HT_.out (by kernel_rfl)) (fun _ _ _ h => h) (Or.inl ⟨by rfl, ?_⟩) ?_ ?_
        rotate_left
        · intro w'
          go_simp
          with_reducible rfl
        rotate_left
        · simp only [Act.put, List.setIfInBounds_toArray, List.set_cons_zero, List.set_cons_succ, i64_w, i32_w]
          rfl
        refine pure_ (i := 13) (N := some 55) (v := ?_) (a' := ?_) #[true, true, true, true, true, true, true, true, true, true, false, true, false, true, false, false, false, false, false, false, false, false, false, false] rfl rfl (any_of HT_.out (by kernel_rfl)) (fun _ _ _ h => h) (Or.inl ⟨by rfl, ?_⟩) ?_ ?_
        rotate_left
        · intro w'
          go_simp
          with_reducible rfl
        rotate_left
        · simp only [Act.put, List.setIfInBounds_toArray, List.set_cons_zero, List.set_cons_succ, i64_w, i32_w]
          rfl
        refine take_ (i := 10) (N := some 52) (v := ?_) (a' := ?_) #[true, true, true, true, true, true, true, true, true, true, true, true, false, true, false, false, false, false, false, false, false, false, false, false] rfl rfl (take_ofW HT_.out HW_.out (by kernel_rfl)) (fun _ _ _ h => h) (Or.inl ⟨by rfl, ?_⟩) hHeld ?_ ?_
        rotate_left
        · rintro w' ⟨s0, s1, s2, s3, s4⟩
          go_simp
          with_reducible rfl
        rotate_left
        · simp only [Act.put, List.setIfInBounds_toArray, List.set_cons_zero, List.set_cons_succ, i64_w, i32_w]
          rfl
        refine take_ (i := 12) (N := some 54) (v := ?_) (a' := ?_) #[true, true, true, true, true, true, true, true, true, true, true, true, true, true, false, false, false, false, false, false, false, false, false, false] rfl rfl (take_ofW HT_.out HW_.out (by kernel_rfl)) (fun _ _ _ h => h) (Or.inl ⟨by rfl, ?_⟩) hHeld ?_ ?_
        rotate_left
        · rintro w' ⟨s0, s1, s2, s3, s4⟩
          go_simp
          with_reducible rfl
        rotate_left
        · simp only [Act.put, List.setIfInBounds_toArray, List.set_cons_zero, List.set_cons_succ, i64_w, i32_w]
          rfl
        refine pure_ (i := 14) (N := some 56) (v := ?_) (a' := ?_) #[true, true, true, true, true, true, true, true, true, true, true, true, true, true, true, false, false, false, false, false, false, false, false, false] rfl rfl (any_of HT_.out (by kernel_rfl)) (fun _ _ _ h => h) (Or.inl ⟨by rfl, ?_⟩) ?_ ?_
        rotate_left
        · intro w'
          go_simp
          with_reducible rfl
        rotate_left
        · simp only [Act.put, List.setIfInBounds_toArray, List.set_cons_zero, List.set_cons_succ, i64_w, i32_w]
          rfl
        refine one_ (i := 15) (N := some 57) #[true, true, true, true, true, true, true, true, true, true, true, true, true, true, true, true, false, false, false, false, false, false, false, false] rfl rfl (one_of HT_.out (by kernel_rfl)) (by decide) (fun K hK => ?_)
        refine goes_ Tryd.func84 (by kernel_rfl) rfl #[.slice A1 f.f1.length c1, .slice A3 (f.f3.take ((f.f1.length : Int) : Int).toNat).length c3] (by rfl) rfl rfl (by (try simp only [List.map_toArray, List.map_cons, List.map_nil]); first | done | (rw [show (f.f3.take ((f.f1.length : Int) : Int).toNat).length = (f.f1.length : Int).toNat from (by rw [List.length_take]; have h_ : ((f.f1.length : Int) : Int) ≤ (f.f3.length : Int) := of_decide_eq_true (by first | (with_reducible assumption) | assumption); omega)] <;> rfl) | rfl | (simp only [List.length_drop, List.length_take]; rfl)) ?_
        with_reducible refine (slices_Equal_int_int.calls (f.f1.length + 1) _ _ f.f1 _ _ (f.f3.take ((f.f1.length : Int) : Int).toNat) true _ ?side1 ?side2 ?side3 ?side4 HE.out).mono ?_
        (case side1 => repeat (first | exact (Kd.C_below G1.out HB.out) | (with_reducible refine Kd.C_alloc ?_ _) | (with_reducible refine Kd.C_drewN ?_ _) | (with_reducible refine Kd.C_drew ?_)))
        (case side2 => exact HG1.out)
        (case side3 => repeat (first | exact (Kd.C_below HR151.out HB.out) | (with_reducible refine Kd.C_alloc ?_ _) | (with_reducible refine Kd.C_drewN ?_ _) | (with_reducible refine Kd.C_drew ?_)))
        (case side4 => exact HC151.out)
        rintro e w' ⟨rfl, ⟨nd, rfl⟩⟩
        refine ⟨_, rfl, ?_⟩
        refine hK.out _ _ ⟨(blk_cell BX.out 0).trans rfl, (blk_cell BX.out 1).trans rfl, (blk_cell BX.out 2).trans rfl, (blk_cell BX.out 3).trans rfl, (blk_cell BX.out 4).trans rfl⟩ (fun hHeld => ?_)
        clear hK K
        refine norm_ (a' := ?_) ?_ ?_
        rotate_left
        · show Act.put _ (some 57) _ = _
          simp only [Act.put, List.setIfInBounds_toArray, List.set_cons_zero, List.set_cons_succ, i64_w, i32_w]
          rfl
        refine pure_ (i := 16) (N := some 58) (v := ?_) (a' := ?_) #[true, true, true, true, true, true, true, true, true, true, true, true, true, true, true, true, true, false, false, false, false, false, false, false] rfl rfl (any_of HT_.out (by kernel_rfl)) (fun _ _ _ h => h) (Or.inl ⟨by rfl, ?_⟩) ?_ ?_
        rotate_left
        · intro w'
          go_simp
          with_reducible rfl
        rotate_left
        · simp only [Act.put, List.setIfInBounds_toArray, List.set_cons_zero, List.set_cons_succ, i64_w, i32_w]
          rfl
        refine pure_ (i := 17) (N := some 59) (v := ?_) (a' := ?_) #[true, true, true, true, true, true, true, true, true, true, true, true, true, true, true, true, true, true, false, false, false, false, false, false] rfl rfl (any_of HT_.out (by kernel_rfl)) (fun _ _ _ h => h) (Or.inl ⟨by rfl, ?_⟩) ?_ ?_
        rotate_left
        · intro w'
          go_simp
          with_reducible rfl
        rotate_left
        · simp only [Act.put, List.setIfInBounds_toArray, List.set_cons_zero, List.set_cons_succ, i64_w, i32_w]
          rfl
        refine pure_ (i := 18) (N := some 60) (v := ?_) (a' := ?_) #[true, true, true, true, true, true, true, true, true, true, true, true, true, true, true, true, true, true, true, false, false, false, false, false] rfl rfl (any_of HT_.out (by kernel_rfl)) (fun _ _ _ h => h) (Or.inl ⟨by rfl, ?_⟩) ?_ ?_
        rotate_left
        · intro w'
          go_simp
          with_reducible rfl
        rotate_left
        · simp only [Act.put, List.setIfInBounds_toArray, List.set_cons_zero, List.set_cons_succ, i64_w, i32_w]
          rfl
        refine take_ (i := 19) (N := some 61) (v := ?_) (a' := ?_) #[true, true, true, true, true, true, true, true, true, true, true, true, true, true, true, true, true, true, true, true, false, false, false, false] rfl rfl (take_ofW HT_.out HW_.out (by kernel_rfl)) (fun _ _ _ h => h) (Or.inl ⟨by rfl, ?_⟩) hHeld ?_ ?_
        rotate_left
        · rintro w' ⟨s0, s1, s2, s3, s4⟩
          go_simp
          with_reducible rfl
        rotate_left
        · simp only [Act.put, List.setIfInBounds_toArray, List.set_cons_zero, List.set_cons_succ, i64_w, i32_w]
          rfl
        refine one_ (i := 20) (N := some 62) #[true, true, true, true, true, true, true, true, true, true, true, true, true, true, true, true, true, true, true, true, true, false, false, false] rfl rfl (one_of HT_.out (by kernel_rfl)) (by decide) (fun K hK => ?_)
        refine goes_ Tryd.func85 (by kernel_rfl) rfl #[.slice A4 f.f4.length c4, .func (.func 86) #[] #[]] (by rfl) rfl rfl (by (try simp only [List.map_toArray, List.map_cons, List.map_nil]); first | done | rfl | (simp only [List.length_drop, List.length_take]; rfl)) ?_
        with_reducible refine (PIm.api_Instr_85.calls _ _ f.f4 86 (f.f4.any insBad) _ ?side1 ?side2 HI.out).mono ?_
        (case side1 => repeat (first | exact (Kd.C_below G4.out (by repeat (first | (with_reducible first | exact HB.out | apply below_alloc | apply pw_below_drewN | apply below_drew1) | exact HB.out))) | (with_reducible refine Kd.C_alloc ?_ _) | (with_reducible refine Kd.C_drewN ?_ _) | (with_reducible refine Kd.C_drew ?_)))
        (case side2 => exact HG4.out)
        rintro e w24 ⟨rfl, hb⟩
        refine ⟨_, rfl, ?_⟩
        have n0_ := Aside0.mk (blk_below (g := gX) (o := .cells #[.string f.f0, .slice A1 f.f1.length c1, .int .i64 f.f2, .slice A3 f.f3.length c3, .slice A4 f.f4.length c4] 54 (0, 0)) (by (with_reducible repeat (first | refine blk_drewN ?_ _ | refine blk_drew ?_ | refine blk_alloc ?_ _)); exact BX.out) hb)
        have n1_ := Aside0.mk (below_step (by repeat (first | (with_reducible first | exact HB.out | apply below_alloc | apply pw_below_drewN | apply below_drew1) | exact HB.out)) hb)
        clear BX
        clear HB
        have BX := n0_
        have HB := n1_
        clear n0_ n1_
        (try clear hb)
        (try clear hb2)
        (try clear hk)
        (try clear hi)
        refine hK.out _ _ ⟨(blk_cell BX.out 0).trans rfl, (blk_cell BX.out 1).trans rfl, (blk_cell BX.out 2).trans rfl, (blk_cell BX.out 3).trans rfl, (blk_cell BX.out 4).trans rfl⟩ (fun hHeld => ?_)
        clear hK K
        refine norm_ (a' := ?_) ?_ ?_
        rotate_left
        · show Act.put _ (some 62) _ = _
          simp only [Act.put, List.setIfInBounds_toArray, List.set_cons_zero, List.set_cons_succ, i64_w, i32_w]
          rfl
        refine pure_ (i := 21) (N := some 63) (v := ?_) (a' := ?_) #[true, true, true, true, true, true, true, true, true, true, true, true, true, true, true, true, true, true, true, true, true, true, false, false] rfl rfl (any_of HT_.out (by kernel_rfl)) (fun _ _ _ h => h) (Or.inl ⟨by rfl, ?_⟩) ?_ ?_
        rotate_left
        · intro w'
          go_simp
          with_reducible rfl
        rotate_left
        · simp only [Act.put, List.setIfInBounds_toArray, List.set_cons_zero, List.set_cons_succ, i64_w, i32_w]
          rfl
        refine pure_ (i := 22) (N := some 64) (v := ?_) (a' := ?_) #[true, true, true, true, true, true, true, true, true, true, true, true, true, true, true, true, true, true, true, true, true, true, true, false] rfl rfl (any_of HT_.out (by kernel_rfl)) (fun _ _ _ h => h) (Or.inl ⟨by rfl, ?_⟩) ?_ ?_
        rotate_left
        · intro w'
          go_simp
          with_reducible rfl
        rotate_left
        · simp only [Act.put, List.setIfInBounds_toArray, List.set_cons_zero, List.set_cons_succ, i64_w, i32_w]
          rfl
        refine pure_ (i := 23) (N := some 2) (v := ?_) (a' := ?_) #[true, true, true, true, true, true, true, true, true, true, true, true, true, true, true, true, true, true, true, true, true, true, true, true] rfl rfl (any_of HT_.out (by kernel_rfl)) (fun _ _ _ h => h) (Or.inl ⟨by rfl, ?_⟩) ?_ ?_
        rotate_left
        · intro w'
          go_simp
          with_reducible rfl
        rotate_left
        · simp only [Act.put, List.setIfInBounds_toArray, List.set_cons_zero, List.set_cons_succ, i64_w, i32_w]
          rfl
        refine done_ (done_of HT_.out (by kernel_rfl)) ?_
        try go_wp2
        go_ret
        exact ⟨by first | rfl | (simp [errW_none, errW_some] <;> rfl) | (simp [*, errW_none, errW_some] <;> rfl), by repeat (first | (with_reducible first | exact HB.out | apply below_alloc | apply pw_below_drewN | apply below_drew1) | exact HB.out)⟩
set_option maxHeartbeats 2000000 in
set_option maxRecDepth 100000 in
theorem ok2_ok (f : S54) (h : fnIn f) (A1 : Option Addr) (c1 : Nat) (A3 : Option Addr) (c3 : Nat) (A4 : Option Addr) (c4 : Nat) (w : World) (h1 : Kd.C (Kd.int .i64) w A1 f.f1.length f.f1) (g1 : f.f1.length ≤ c1) (h3 : Kd.C (Kd.int .i64) w A3 f.f3.length f.f3) (g3 : f.f3.length ≤ c3) (h4 : Kd.C k50 w A4 f.f4.length f.f4) (g4 : f.f4.length ≤ c4) :
    Calls Tryd.prog 56 #[.agg #[.string f.f0, .slice A1 f.f1.length c1, .int .i64 f.f2, .slice A3 f.f3.length c3, .slice A4 f.f4.length c4]] w fun e w' => e = .returned (.bool (!fnB f)) ∧ Below w.heap.size w w' := by
  have HCL : Aside0 (∀ W, Below w.heap.size w W → _) := ⟨fun W hb => fn_calls f h A1 c1 A3 c3 A4 c4 W (Kd.C_below h1 hb) g1 (Kd.C_below h3 hb) g3 (Kd.C_below h4 hb) g4⟩
  clear h1 h3 h4 g1 g3 g4 h
  have hu54 := Tryd.underlying54
  go_enter Tryd.func56, Tryd.ntmps56
  go_wp2_with (first | ((with_reducible refine gate_dst (N := 1) rfl ?_); refine box_event ?hg (N := 1) ?hd (cs := #[.string f.f0, .slice A1 f.f1.length c1, .int .i64 f.f2, .slice A3 f.f3.length c3, .slice A4 f.f4.length c4]) (t := 54) ?hr ?_; (case hd => rfl); (case hg => rfl); (case hr => first | (go_simp; done) | (go_simp; rfl)); intro gX hg_ WX hbox_ hb_; have HB : Aside0 (Below w.heap.size w WX) := ⟨hb_⟩; have BX := Aside0.mk hbox_; clear hg_ hbox_ hb_; have hcX0 := (blk_cell BX.out 0).trans rfl; have hcX1 := (blk_cell BX.out 1).trans rfl; have hcX2 := (blk_cell BX.out 2).trans rfl; have hcX3 := (blk_cell BX.out 3).trans rfl; have hcX4 := (blk_cell BX.out 4).trans rfl))
  refine (HCL.out _ HB.out).mono ?_
  rintro e_ W2 ⟨rfl, hb_⟩
  have m_ := Aside0.mk (below_step HB.out hb_)
  clear HB hb_; have HB := m_; clear m_
  go_wp2
  go_ret
  exact ⟨rfl, HB.out⟩
end Go.Proofs.YteidgpaakoeefaaDoor
namespace Go.Proofs.YteidgpaakoeefaaDoor
open Go.RowKit Go.Proofs.YteidgpaakoeefaaDoorW.PrintWords Go.Proofs.YteidgpaakoeefaaDoorW.PrintLast Go.Proofs.YteidgpaakoeefaaDoorW.PrintMore
set_option linter.unusedVariables false
set_option linter.unusedSimpArgs false
open PIm
set_option maxHeartbeats 2000000 in
set_option maxRecDepth 100000 in
theorem index_fn (A0 : Option Addr) (c0 : Nat) (l : List S54) (w : World) (hr0 : Kd.C k54 w A0 l.length l) (hl : l.length ≤ 140737488355318) (hin : ∀ f ∈ l, fnIn f) :
    Calls Tryd.prog 81 #[.slice A0 l.length c0, .func (.func 56) #[] #[]] w fun e w' => ∃ r : Int, e = .returned (.int .i64 r) ∧ ((0 ≤ r) = (l.any (fun x => !fnB x) = true)) ∧ Below w.heap.size w w' := by
  have HR0 := Aside0.mk hr0; have HIN := Aside0.mk hin
  clear hr0 hin
  go_enter Tryd.func81, Tryd.ntmps81
  go_wp2_with fail
  go_loopw [8] (fun v wr => ∃ (k : Nat), v = .int .i64 k ∧ Aside0 ((l.take k).any (fun x => !fnB x) = false) ∧ Aside0 (k ≤ l.length) ∧ Aside0 (Below w.heap.size w wr)) (fun v _ => l.length - (intOf v).toNat)
  case atStart => exact ⟨0, rfl, ⟨by simp⟩, ⟨Nat.zero_le _⟩, ⟨Below.refl _ _⟩⟩
  case round =>
    obtain ⟨k, rfl, HA, HK, HB⟩ := hrel
    have hk := HK.out
    by_cases hlt : k < l.length
    · have hC := Kd.C_below HR0.out HB.out
      obtain ⟨ad, A1, c1, A3, c3, A4, c4, e, hx0, hx1, hx2, hx3, hx4, g1, h1, g3, h3, g4, h4⟩ := at_T54 hC (k : Int) (by omega) (by omega)
      cases e
      have hget : rd_T54 l (k : Int) = l[k] := by
        unfold rd_T54
        simp only [Int.toNat_natCast, List.getD_eq_getElem?_getD]
        rw [List.getElem?_eq_getElem hlt]; rfl
      have hxx : l[k]? = some l[k] := List.getElem?_eq_getElem hlt
      have hfi := HIN.out l[k] (List.getElem_mem hlt)
      rw [hget] at hx0 hx1 hx2 hx3 hx4 g1 h1 g3 h3 g4 h4
      simp only [Int.toNat_natCast] at hx0 hx1 hx2 hx3 hx4
      generalize l[k] = x at hx0 hx1 hx2 hx3 hx4 g1 h1 g3 h3 g4 h4 hxx hfi
      have HX := Lib.hid hxx
      have z1 : decide ((k : Int) < (l.length : Int)) = true := decide_eq_true (by omega)
      have q1 : (0 ≤ (k : Int)) = True := eq_true (by omega)
      have q2 : ((k : Int) < (l.length : Int)) = True := eq_true (by omega)
      have HLT := Lib.hid hlt
      have hcall := fun W hb => ok2_ok x hfi A1 c1 A3 c3 A4 c4 W (Kd.C_below h1 hb) g1 (Kd.C_below h3 hb) g3 (Kd.C_below h4 hb) g4
      have HBW := Aside0.mk (Below.refl wr.heap.size wr)
      clear hC hget hxx hlt hfi g1 h1 g3 h3 g4 h4
      cases hp : fnB x with
      | false =>
        rw [hp] at hcall
        have HP := Lib.hid (show (!fnB x) = true by rw [hp]; rfl)
        clear hp
        go_wp2_with fail
        ((with_reducible refine (hcall _ (by repeat (first | (with_reducible first | exact HBW.out | apply below_alloc | apply pw_below_drewN | apply below_drew1) | exact HBW.out))).mono ?_); rintro e_ w_ ⟨rfl, hb⟩)
        clear hcall HBW
        have m_ := Aside0.mk (below_step (by repeat (first | (with_reducible first | exact HB.out | apply below_alloc | apply pw_below_drewN | apply below_drew1) | exact HB.out)) hb); clear HB hb; have HB := m_; clear m_
        go_wp2
        go_ret
        refine ⟨_, rfl, ?_, HB.out⟩
        have : l.any (fun x => !fnB x) = true := any_here HX.out HP.out
        rw [this]
        exact propext ⟨fun _ => rfl, fun _ => by omega⟩
      | true =>
        rw [hp] at hcall
        have HP := Lib.hid (show (!fnB x) = false by rw [hp]; rfl)
        clear hp
        go_wp2_with fail
        ((with_reducible refine (hcall _ (by repeat (first | (with_reducible first | exact HBW.out | apply below_alloc | apply pw_below_drewN | apply below_drew1) | exact HBW.out))).mono ?_); rintro e_ w_ ⟨rfl, hb⟩)
        clear hcall HBW
        have m_ := Aside0.mk (below_step (by repeat (first | (with_reducible first | exact HB.out | apply below_alloc | apply pw_below_drewN | apply below_drew1) | exact HB.out)) hb); clear HB hb; have HB := m_; clear m_
        go_wp2
        have hlt := HLT.out
        exact ⟨⟨k + 1, by go_num, ⟨any_more (p := fun x => !fnB x) HX.out HP.out HA.out⟩, ⟨hlt⟩, HB⟩, by simp [intOf]; omega⟩
    · have z1 : decide ((k : Int) < (l.length : Int)) = false := decide_eq_false (by omega)
      have hE := any_end (by omega) HA.out
      have HE := Lib.hid hE
      clear hE
      go_wp2
      go_ret
      refine ⟨_, rfl, ?_, HB.out⟩
      rw [HE.out]
      exact propext ⟨fun g => by omega, fun g => by cases g⟩
theorem contains_fn (A0 : Option Addr) (c0 : Nat) (l : List S54) (w : World) (hr0 : Kd.C k54 w A0 l.length l) (hl : l.length ≤ 140737488355318) (hin : ∀ f ∈ l, fnIn f) :
    Calls Tryd.prog 55 #[.slice A0 l.length c0, .func (.func 56) #[] #[]] w fun e w' => e = .returned (.bool (l.any (fun x => !fnB x))) ∧ Below w.heap.size w w' := by
  have hidx := index_fn A0 c0 l w hr0 hl hin
  clear hr0 hin
  go_enter Tryd.func55, Tryd.ntmps55
  go_wp2_with fail
  ((with_reducible refine hidx.mono ?_); rintro e_ w_ ⟨r, rfl, hr, hb⟩)
  have HR := Aside0.mk hr; have HB := Aside0.mk hb
  clear hidx hr hb
  go_wp2
  go_ret
  refine ⟨?_, HB.out⟩
  have := HR.out
  rw [show decide (r ≥ 0) = l.any (fun x => !fnB x) by rw [Bool.eq_iff_iff, decide_eq_true_eq, ← this]]
  rfl
def PIm.api_Fn_55.f (l : List S54) (q : Int) : Option Bool := if l.length ≤ 140737488355318 ∧ ∀ f ∈ l, fnIn f then some (l.any (fun x => !fnB x)) else none
theorem PIm.api_Fn_55.calls (A0 : Option Addr) (c0 : Nat) (l : List S54) (q : Int) (r : Bool) (w : World) (hr0 : Kd.C k54 w A0 l.length l) (hc0 : l.length ≤ c0) (h : PIm.api_Fn_55.f l q = some r) :
    Calls Tryd.prog 55 #[.slice A0 l.length c0, .func (.func 56) #[] #[]] w fun e w' => e = .returned (.bool r) ∧ Below w.heap.size w w' := by
  unfold PIm.api_Fn_55.f at h
  split at h
  · next hc =>
    obtain rfl := Option.some.inj h
    exact contains_fn A0 c0 l w hr0 hc.1 hc.2
  · cases h
end Go.Proofs.YteidgpaakoeefaaDoor
namespace Go.Proofs.YteidgpaakoeefaaDoor
open Go.RowKit Go.Proofs.YteidgpaakoeefaaDoorW.PrintWords Go.Proofs.YteidgpaakoeefaaDoorW.PrintLast Go.Proofs.YteidgpaakoeefaaDoorW.PrintMore
set_option linter.unusedVariables false
set_option linter.unusedSimpArgs false
open PIm
def natB (n : Int) : List Int := (numF [] n).1
def wholeB (n : Int) : List Int := venc (zz n).toNat
def rng (n : Int) : Prop := -9223372036854775808 ≤ n ∧ n ≤ 9223372036854775807
instance (n : Int) : Decidable (rng n) := by unfold rng; infer_instance
theorem nat_f (b : List Int) (n : Int) (hn : rng n) (hl : (b ++ natB n).length < 140737488355328) : image_nat.f b n = some (b ++ natB n) := by
  unfold image_nat.f wire_Num.f
  rw [if_pos ⟨by simp, hn.1, hn.2⟩, Option.bind_some]
  have : b.length + (numF [] n).1.length < 140737488355328 := by rw [List.length_append] at hl; exact hl
  rw [if_pos this]; rfl
theorem whole_f (b : List Int) (n : Int) (hn : rng n) (hl : (b ++ wholeB n).length < 140737488355328) : image_whole.f b n = some (b ++ wholeB n) := by
  unfold image_whole.f wire_Int.f
  rw [if_pos ⟨by simp, hn.1, hn.2⟩, Option.bind_some]
  have : b.length + ([] ++ venc (zz n).toNat).length < 140737488355328 := by rw [List.length_append] at hl; exact hl
  rw [if_pos this]; rfl
def putI (n : Int) : List Int := natB n
def putC (x : S50) : List Int := natB x.f0 ++ (wholeB x.f1 ++ natB x.f2)
def putG (x : S48) : List Int := natB x.f0 ++ (natB x.f1 ++ wholeB x.f2)
def rngI (n : Int) : Prop := rng n
def rngC (x : S50) : Prop := rng x.f0 ∧ rng x.f1 ∧ rng x.f2
def rngG (x : S48) : Prop := rng x.f0 ∧ rng x.f1 ∧ rng x.f2
instance (n : Int) : Decidable (rngI n) := by unfold rngI; infer_instance
instance (n : S50) : Decidable (rngC n) := by unfold rngC; infer_instance
instance (n : S48) : Decidable (rngG n) := by unfold rngG; infer_instance
theorem putC_f (b : List Int) (x : S50) (hn : rngC x) (hl : (b ++ putC x).length < 140737488355328) : image_Encode_2_1.f b x.f0 x.f1 x.f2 = some (b ++ putC x) := by
  unfold putC at hl
  simp only [List.length_append] at hl
  unfold image_Encode_2_1.f
  rw [nat_f b x.f0 hn.1 (by simp only [List.length_append]; omega), Option.bind_some, whole_f _ x.f1 hn.2.1 (by simp only [List.length_append]; omega), Option.bind_some, nat_f _ x.f2 hn.2.2 (by simp only [List.length_append]; omega)]
  simp [putC]
theorem putG_f (b : List Int) (x : S48) (hn : rngG x) (hl : (b ++ putG x).length < 140737488355328) : image_Encode_1.f b x.f0 x.f1 x.f2 = some (b ++ putG x) := by
  unfold putG at hl
  simp only [List.length_append] at hl
  unfold image_Encode_1.f
  rw [nat_f b x.f0 hn.1 (by simp only [List.length_append]; omega), Option.bind_some, nat_f _ x.f1 hn.2.1 (by simp only [List.length_append]; omega), Option.bind_some, whole_f _ x.f2 hn.2.2 (by simp only [List.length_append]; omega)]
  simp [putG]
theorem take_put {α : Type} {put : α → List Int} {l : List α} {k : Nat} {x : α} (h : l[k]? = some x) (b : List Int) : b ++ (l.take k).flatMap put ++ put x = b ++ (l.take (k + 1)).flatMap put := by
  obtain ⟨hi, hx⟩ := List.getElem?_eq_some_iff.1 h
  rw [List.take_succ_eq_append_getElem hi, List.flatMap_append, hx, List.append_assoc]; simp
theorem take_le {α : Type} {put : α → List Int} (l : List α) (k : Nat) (b : List Int) : (b ++ (l.take k).flatMap put).length ≤ (b ++ l.flatMap put).length := by
  have : l.flatMap put = (l.take k).flatMap put ++ (l.drop k).flatMap put := by rw [← List.flatMap_append, List.take_append_drop]
  rw [this]; simp only [List.length_append]; omega
set_option maxHeartbeats 4000000 in
set_option maxRecDepth 100000 in
theorem row_int (P0_ : Nat → Prop) (v : Value) (b : List Int) (A0 : Option Addr) (c0 : Nat) (l : List Int) (w0 w : World) (hB : Below w0.heap.size w0 w) (ho0 : Kd.R (Kd.int .u8) 5 w w0.heap.size P0_ v b)
    (hr : ∀ W', Kept w W' (fun k_ => P0_ k_) → Kd.C (Kd.int .i64) W' A0 l.length l) (hl : (b ++ natB l.length ++ l.flatMap putI).length < 140737488355328) (hll : l.length ≤ 140737488355318) (hx : ∀ x ∈ l, rngI x) :
    Calls Tryd.prog 30 #[v, .slice A0 l.length c0, .func (.func 26) #[] #[]] w fun e w' => ∃ v0_ : Value, e = .returned v0_ ∧ Kd.R (Kd.int .u8) 5 w' w0.heap.size (fun k_ => (P0_ k_ ∨ w.heap.size ≤ k_)) v0_ (b ++ natB l.length ++ l.flatMap putI) ∧ Below w0.heap.size w0 w' ∧ Kept w w' (fun k_ => P0_ k_) := by
  have hnat := image_nat.calls P0_ v b (l.length : Int) _ w0 w hB ho0 (nat_f b l.length ⟨by omega, by omega⟩ (by simp only [List.length_append] at hl ⊢; omega))
  have HR := Aside0.mk hr; have HL := Aside0.mk hl; have HX := Aside0.mk hx
  clear hr hl hx hB ho0
  go_enter Tryd.func30, Tryd.ntmps30
  go_wp2_with fail
  ((with_reducible refine hnat.mono ?_); rintro e_ w1 ⟨v1, rfl, ho, hb, hk⟩)
  have HO := Aside0.mk ho; have HB := Aside0.mk hb; have HK := Aside0.mk hk
  clear hnat ho hb hk
  go_wp2_with fail
  go_loopw [0, 15] (fun vb vi wr => ∃ (k : Nat), vi = .int .i64 k ∧ Aside0 (k ≤ l.length) ∧ Aside0 (Kd.R (Kd.int .u8) 5 wr w0.heap.size (fun k_ => (P0_ k_ ∨ w.heap.size ≤ k_)) vb (b ++ natB l.length ++ (l.take k).flatMap putI)) ∧ Aside0 (Below w0.heap.size w0 wr) ∧ Aside0 (Kept w wr (fun k_ => P0_ k_))) (fun _ v _ => l.length - (intOf v).toNat)
  case atStart => exact ⟨0, rfl, ⟨Nat.zero_le _⟩, ⟨by simpa using HO.out⟩, HB, HK⟩
  case round =>
    obtain ⟨k, rfl, HN, HO, HB, HK⟩ := hrel
    have hk := HN.out
    by_cases hlt : k < l.length
    · have hC := HR.out _ HK.out
      obtain ⟨ad, e, hx⟩ := Kd.at_int hC (k : Int) (by omega) (by omega)
      cases e
      have hget : rd l (k : Int) = l[k] := by
        unfold rd
        simp only [Int.toNat_natCast, List.getD_eq_getElem?_getD]
        rw [List.getElem?_eq_getElem hlt]; rfl
      have hxx : l[k]? = some l[k] := List.getElem?_eq_getElem hlt
      have hrx := HX.out l[k] (List.getElem_mem hlt)
      rw [hget] at hx
      simp only [Int.toNat_natCast] at hx
      generalize l[k] = x at hx hxx hrx
      have z1 : decide ((k : Int) < (l.length : Int)) = true := decide_eq_true (by omega)
      have q1 : (0 ≤ (k : Int)) = True := eq_true (by omega)
      have q2 : ((k : Int) < (l.length : Int)) = True := eq_true (by omega)
      have hf := nat_f (b ++ natB l.length ++ (l.take k).flatMap putI) x hrx (by
        have h1 := take_put (put := putI) hxx (b ++ natB l.length)
        have h2 := take_le (put := putI) l (k + 1) (b ++ natB l.length)
        rw [← h1] at h2
        exact Nat.lt_of_le_of_lt h2 HL.out)
      have hcall := fun W hb ho => image_nat.calls (fun k_ => (P0_ k_ ∨ w.heap.size ≤ k_)) u0 (b ++ natB l.length ++ (l.take k).flatMap putI) x _ w0 W hb ho hf
      have HXX := Lib.hid hxx; have HLT := Lib.hid hlt
      clear hC hget hxx hrx hf hlt
      go_wp2_with fail
      ((with_reducible refine (hcall _ (by repeat (first | (with_reducible first | exact HB.out | apply below_alloc | apply pw_below_drewN | apply below_drew1) | exact HB.out)) (by (with_reducible repeat (first | apply Kd.R_alloc | apply Kd.R_drewN | apply Kd.R_drew)); exact HO.out)).mono ?_); rintro e_ w_ ⟨v2, rfl, ho, hb, hkp⟩)
      clear hcall
      have hsz := HK.out.1
      have m1_ := Aside0.mk (Kd.R_mono ho (fun k_ h_ => (h_.elim id (fun g_ => Or.inr (Nat.le_trans hsz (by first | exact g_ | (have g2_ := g_; simp at g2_; omega)))) : P0_ k_ ∨ w.heap.size ≤ k_)))
      have m2_ := Aside0.mk (Kept.then_ (by repeat (first | (with_reducible first | exact HK.out | apply Kept.alloc | apply Kept.drewN | apply Kept.drew) | exact HK.out)) hkp (fun _ h_ => h_))
      have HB2 := Aside0.mk hb
      clear ho hb hkp hsz HO HK HB
      go_wp2
      exact ⟨⟨k + 1, by go_num, ⟨HLT.out⟩, ⟨by rw [← take_put HXX.out]; exact m1_.out⟩, HB2, m2_⟩, by have := HLT.out; simp [intOf]; omega⟩
    · have z1 : decide ((k : Int) < (l.length : Int)) = false := decide_eq_false (by omega)
      obtain rfl : k = l.length := by omega
      go_wp2
      go_ret
      exact ⟨_, rfl, by rw [← List.take_length (l := l)]; simpa using HO.out, HB.out, HK.out⟩
set_option maxHeartbeats 4000000 in
set_option maxRecDepth 100000 in
theorem row_ins (P0_ : Nat → Prop) (v : Value) (b : List Int) (A0 : Option Addr) (c0 : Nat) (l : List S50) (w0 w : World) (hB : Below w0.heap.size w0 w) (ho0 : Kd.R (Kd.int .u8) 5 w w0.heap.size P0_ v b)
    (hr : ∀ W', Kept w W' (fun k_ => P0_ k_) → Kd.C k50 W' A0 l.length l) (hl : (b ++ natB l.length ++ l.flatMap putC).length < 140737488355328) (hll : l.length ≤ 140737488355318) (hx : ∀ x ∈ l, rngC x) :
    Calls Tryd.prog 31 #[v, .slice A0 l.length c0, .func (.func 32) #[] #[]] w fun e w' => ∃ v0_ : Value, e = .returned v0_ ∧ Kd.R (Kd.int .u8) 5 w' w0.heap.size (fun k_ => (P0_ k_ ∨ w.heap.size ≤ k_)) v0_ (b ++ natB l.length ++ l.flatMap putC) ∧ Below w0.heap.size w0 w' ∧ Kept w w' (fun k_ => P0_ k_) := by
  have hnat := image_nat.calls P0_ v b (l.length : Int) _ w0 w hB ho0 (nat_f b l.length ⟨by omega, by omega⟩ (by simp only [List.length_append] at hl ⊢; omega))
  have HR := Aside0.mk hr; have HL := Aside0.mk hl; have HX := Aside0.mk hx
  clear hr hl hx hB ho0
  go_enter Tryd.func31, Tryd.ntmps31
  go_wp2_with fail
  ((with_reducible refine hnat.mono ?_); rintro e_ w1 ⟨v1, rfl, ho, hb, hk⟩)
  have HO := Aside0.mk ho; have HB := Aside0.mk hb; have HK := Aside0.mk hk
  clear hnat ho hb hk
  go_wp2_with fail
  go_loopw [0, 15] (fun vb vi wr => ∃ (k : Nat), vi = .int .i64 k ∧ Aside0 (k ≤ l.length) ∧ Aside0 (Kd.R (Kd.int .u8) 5 wr w0.heap.size (fun k_ => (P0_ k_ ∨ w.heap.size ≤ k_)) vb (b ++ natB l.length ++ (l.take k).flatMap putC)) ∧ Aside0 (Below w0.heap.size w0 wr) ∧ Aside0 (Kept w wr (fun k_ => P0_ k_))) (fun _ v _ => l.length - (intOf v).toNat)
  case atStart => exact ⟨0, rfl, ⟨Nat.zero_le _⟩, ⟨by simpa using HO.out⟩, HB, HK⟩
  case round =>
    obtain ⟨k, rfl, HN, HO, HB, HK⟩ := hrel
    have hk := HN.out
    by_cases hlt : k < l.length
    · have hC := HR.out _ HK.out
      obtain ⟨ad, e, hx0, hx1, hx2⟩ := at_T50 hC (k : Int) (by omega) (by omega)
      cases e
      have hget : rd_T50 l (k : Int) = l[k] := by
        unfold rd_T50
        simp only [Int.toNat_natCast, List.getD_eq_getElem?_getD]
        rw [List.getElem?_eq_getElem hlt]; rfl
      have hxx : l[k]? = some l[k] := List.getElem?_eq_getElem hlt
      have hrx := HX.out l[k] (List.getElem_mem hlt)
      rw [hget] at hx0 hx1 hx2
      simp only [Int.toNat_natCast] at hx0 hx1 hx2
      generalize l[k] = x at hx0 hx1 hx2 hxx hrx
      have z1 : decide ((k : Int) < (l.length : Int)) = true := decide_eq_true (by omega)
      have q1 : (0 ≤ (k : Int)) = True := eq_true (by omega)
      have q2 : ((k : Int) < (l.length : Int)) = True := eq_true (by omega)
      have hf := putC_f (b ++ natB l.length ++ (l.take k).flatMap putC) x hrx (by
        have h1 := take_put (put := putC) hxx (b ++ natB l.length)
        have h2 := take_le (put := putC) l (k + 1) (b ++ natB l.length)
        rw [← h1] at h2
        exact Nat.lt_of_le_of_lt h2 HL.out)
      have hcall := fun W hb ho => image_Encode_2_1.calls (fun k_ => (P0_ k_ ∨ w.heap.size ≤ k_)) u0 (b ++ natB l.length ++ (l.take k).flatMap putC) x.f0 x.f1 x.f2 _ w0 W hb ho hf
      have HXX := Lib.hid hxx; have HLT := Lib.hid hlt
      clear hC hget hxx hrx hf hlt
      go_wp2_with fail
      ((with_reducible refine (hcall _ (by repeat (first | (with_reducible first | exact HB.out | apply below_alloc | apply pw_below_drewN | apply below_drew1) | exact HB.out)) (by (with_reducible repeat (first | apply Kd.R_alloc | apply Kd.R_drewN | apply Kd.R_drew)); exact HO.out)).mono ?_); rintro e_ w_ ⟨v2, rfl, ho, hb, hkp⟩)
      clear hcall
      have hsz := HK.out.1
      have m1_ := Aside0.mk (Kd.R_mono ho (fun k_ h_ => (h_.elim id (fun g_ => Or.inr (Nat.le_trans hsz (by first | exact g_ | (have g2_ := g_; simp at g2_; omega)))) : P0_ k_ ∨ w.heap.size ≤ k_)))
      have m2_ := Aside0.mk (Kept.then_ (by repeat (first | (with_reducible first | exact HK.out | apply Kept.alloc | apply Kept.drewN | apply Kept.drew) | exact HK.out)) hkp (fun _ h_ => h_))
      have HB2 := Aside0.mk hb
      clear ho hb hkp hsz HO HK HB
      go_wp2
      exact ⟨⟨k + 1, by go_num, ⟨HLT.out⟩, ⟨by rw [← take_put HXX.out]; exact m1_.out⟩, HB2, m2_⟩, by have := HLT.out; simp [intOf]; omega⟩
    · have z1 : decide ((k : Int) < (l.length : Int)) = false := decide_eq_false (by omega)
      obtain rfl : k = l.length := by omega
      go_wp2
      go_ret
      exact ⟨_, rfl, by rw [← List.take_length (l := l)]; simpa using HO.out, HB.out, HK.out⟩
end Go.Proofs.YteidgpaakoeefaaDoor
namespace Go.Proofs.YteidgpaakoeefaaDoor
open Go.RowKit Go.Proofs.YteidgpaakoeefaaDoorW.PrintWords Go.Proofs.YteidgpaakoeefaaDoorW.PrintLast Go.Proofs.YteidgpaakoeefaaDoorW.PrintMore
set_option linter.unusedVariables false
set_option linter.unusedSimpArgs false
open PIm
def rowI (l : List Int) : List Int := natB l.length ++ l.flatMap putI
def rowC (l : List S50) : List Int := natB l.length ++ l.flatMap putC
def rowG (l : List S48) : List Int := natB l.length ++ l.flatMap putG
def PIm.api_Glob_23.f (b : List Int) (l : List S48) (q : Int) : Option (List Int) := if (b ++ natB l.length ++ l.flatMap putG).length < 140737488355328 ∧ l.length ≤ 140737488355318 ∧ ∀ x ∈ l, rngG x then some (b ++ rowG l) else none
def textB (t : ByteArray) : List Int := venc t.size ++ bytesOf t
def putF (f : S54) : List Int := textB f.f0 ++ (rowI f.f1 ++ (natB f.f2 ++ (rowI (f.f3.drop f.f1.length) ++ rowC f.f4)))
def rngF (f : S54) : Prop := f.f0.size ≤ 65536 ∧ (∀ x ∈ f.f1, rngI x) ∧ rng f.f2 ∧ (∀ x ∈ f.f3, rngI x) ∧ (∀ x ∈ f.f4, rngC x) ∧ f.f1.length ≤ f.f3.length ∧ f.f3.length ≤ 140737488355318 ∧ f.f4.length ≤ 140737488355318
instance (f : S54) : Decidable (rngF f) := by unfold rngF; infer_instance
def rowF (l : List S54) : List Int := natB l.length ++ l.flatMap putF
def bodyF (gs : List S48) (fs : List S54) : List Int := [84, 73, 76, 84] ++ rowG gs ++ rowF fs
def okF (gs : List S48) (fs : List S54) : Bool := decide (gs.length ≤ 64) && (decide (fs.length ≤ 64) && (!(gs.any fun x => !globB x) && !(fs.any fun x => !fnB x)))
def encF (gs : List S48) (fs : List S54) : List Int × Int := if okF gs fs then (if 1048576 < (frameF (bodyF gs fs)).length then ([], 2) else (frameF (bodyF gs fs), 0)) else ([], 150)
end Go.Proofs.YteidgpaakoeefaaDoor
namespace Go.Proofs.YteidgpaakoeefaaDoor
open Go.RowKit Go.Proofs.YteidgpaakoeefaaDoorW.PrintWords Go.Proofs.YteidgpaakoeefaaDoorW.PrintLast Go.Proofs.YteidgpaakoeefaaDoorW.PrintMore
set_option linter.unusedVariables false
set_option linter.unusedSimpArgs false
open PIm
def PIm.wire_Text.f (l0 : List Int) (t : ByteArray) : Option (List Int × Int) := if l0.length ≤ 140737488000000 ∧ t.size ≤ 9223372036854775807 then some (textF l0 t) else none
theorem PIm.wire_Text.calls (A0 : Option Addr) (c0 : Nat) (l0 : List Int) (t : ByteArray) (r1 : List Int) (r2 : Int) (w : World) (hr0 : Kd.C (Kd.int .u8) w A0 l0.length l0) (hc0 : l0.length ≤ c0) (h : PIm.wire_Text.f l0 t = some (r1, r2)) :
    Calls Tryd.prog 29 #[.slice A0 l0.length c0, .string t] w fun e w' => ∃ v0_ : Value, e = .returned (.tuple #[v0_, .int .i64 r2]) ∧ Kd.R (Kd.int .u8) 5 w' w.heap.size (fun _ => True) v0_ r1 ∧ Below w.heap.size w w' := by
  unfold PIm.wire_Text.f at h
  split at h
  · next hc =>
    have e := Option.some.inj h
    have := Text_calls A0 c0 l0 t w hr0 hc.1 hc.2
    rw [e] at this
    exact this
  · cases h
def PIm.image_row_int.f (b : List Int) (l : List Int) (q : Int) : Option (List Int) := if (b ++ natB l.length ++ l.flatMap putI).length < 140737488355328 ∧ l.length ≤ 140737488355318 ∧ ∀ x ∈ l, rngI x then some (b ++ rowI l) else none
theorem PIm.image_row_int.calls (P0_ : Nat → Prop) (u9000_ : Value) (b : List Int) (A0 : Option Addr) (c0 : Nat) (l : List Int) (q : Int) (r : List Int) (w0 w : World) (hB : Below w0.heap.size w0 w) (ho0 : Kd.R (Kd.int .u8) 5 w w0.heap.size P0_ u9000_ b)
    (hr : ∀ W', Kept w W' (fun k_ => P0_ k_) → Kd.C (Kd.int .i64) W' A0 l.length l) (hc : l.length ≤ c0) (h : PIm.image_row_int.f b l q = some r) :
    Calls Tryd.prog 30 #[u9000_, .slice A0 l.length c0, .func (.func 26) #[] #[]] w fun e w' => ∃ v0_ : Value, e = .returned v0_ ∧ Kd.R (Kd.int .u8) 5 w' w0.heap.size (fun k_ => (P0_ k_ ∨ w.heap.size ≤ k_)) v0_ r ∧ Below w0.heap.size w0 w' ∧ Kept w w' (fun k_ => P0_ k_) := by
  unfold PIm.image_row_int.f at h
  split at h
  · next hc =>
    obtain rfl := Option.some.inj h
    have := row_int P0_ u9000_ b A0 c0 l w0 w hB ho0 hr hc.1 hc.2.1 hc.2.2
    rw [List.append_assoc] at this
    exact this
  · cases h
def PIm.api_Instr.f (b : List Int) (l : List S50) (q : Int) : Option (List Int) := if (b ++ natB l.length ++ l.flatMap putC).length < 140737488355328 ∧ l.length ≤ 140737488355318 ∧ ∀ x ∈ l, rngC x then some (b ++ rowC l) else none
theorem PIm.api_Instr.calls (P0_ : Nat → Prop) (u9000_ : Value) (b : List Int) (A0 : Option Addr) (c0 : Nat) (l : List S50) (q : Int) (r : List Int) (w0 w : World) (hB : Below w0.heap.size w0 w) (ho0 : Kd.R (Kd.int .u8) 5 w w0.heap.size P0_ u9000_ b)
    (hr : ∀ W', Kept w W' (fun k_ => P0_ k_) → Kd.C k50 W' A0 l.length l) (hc : l.length ≤ c0) (h : PIm.api_Instr.f b l q = some r) :
    Calls Tryd.prog 31 #[u9000_, .slice A0 l.length c0, .func (.func 32) #[] #[]] w fun e w' => ∃ v0_ : Value, e = .returned v0_ ∧ Kd.R (Kd.int .u8) 5 w' w0.heap.size (fun k_ => (P0_ k_ ∨ w.heap.size ≤ k_)) v0_ r ∧ Below w0.heap.size w0 w' ∧ Kept w w' (fun k_ => P0_ k_) := by
  unfold PIm.api_Instr.f at h
  split at h
  · next hc =>
    obtain rfl := Option.some.inj h
    have := row_ins P0_ u9000_ b A0 c0 l w0 w hB ho0 hr hc.1 hc.2.1 hc.2.2
    rw [List.append_assoc] at this
    exact this
  · cases h
end Go.Proofs.YteidgpaakoeefaaDoor
namespace Go.Proofs.YteidgpaakoeefaaDoor.PIm
open Go.RowKit Go.Proofs.YteidgpaakoeefaaDoorW.PrintWords Go.Proofs.YteidgpaakoeefaaDoorW.PrintLast Go.Proofs.YteidgpaakoeefaaDoorW.PrintMore
attribute [local go_sem] max2_int min2_int max_two min_two max_three min_three max_four min_four   -- for this text's walks alone
set_option linter.unusedVariables false
set_option linter.unusedSimpArgs false
def image_Encode_2.f (l0 : List Int) (a1_0 : ByteArray) (l1_1 : List Int) (a1_2 : Int) (l1_3 : List Int) (l1_4 : List (S50)) : Option (List Int) := (wire_Text.f ([] : List Int) a1_0).bind fun bt110 => (if l0.length + bt110.1.length < 140737488355328 then ((image_row_int.f (l0 ++ bt110.1) l1_1 26).bind fun t117 => ((image_nat.f t117 a1_2).bind fun t120 => (if 0 ≤ (l1_1.length : Int) then (if (l1_1.length : Int) ≤ (l1_3.length : Int) then ((image_row_int.f t120 (l1_3.drop ((l1_1.length : Int) : Int).toNat) 26).bind fun t127 => ((api_Instr.f t127 l1_4 32).bind fun t130 => (some t130))) else (none)) else (none)))) else (none))
def image_Encode_2.T3 : Bool × List (List Nat × List Nat) := (true, [([], []), ([], []), ([1], [1]), ([0, 2], [0, 2]), ([], []), ([4], [4]), ([], []), ([6], [6]), ([7], [7]), ([5, 8], [5, 8]), ([3, 9, 3], [3, 9]), ([10, 10, 0, 1, 2, 3, 4, 5, 6, 7, 8, 9, 10], [0, 10])])
def image_Encode_2.B3 : List Nat := [0, 0, 2, 7, 0, 16, 0, 64, 192, 496, 1023, 2047]
theorem image_Encode_2.tab3 : rtab .any (opsOf Tryd.f28 3) = image_Encode_2.T3 := by kernel_rfl
theorem image_Encode_2.bits3 : waitsOk image_Encode_2.T3.2 image_Encode_2.B3 = true := by kernel_rfl
set_option maxHeartbeats 8000000 in
set_option maxRecDepth 100000 in
theorem image_Encode_2.calls (P0_ : Nat → Prop) (u9000_ : Value) (l0 : List Int) (a1_0 : ByteArray) (A1_1 : Option Addr) (c1_1 : Nat) (l1_1 : List Int) (a1_2 : Int) (A1_3 : Option Addr) (c1_3 : Nat) (l1_3 : List Int) (A1_4 : Option Addr) (c1_4 : Nat) (l1_4 : List (S50)) (r : List Int) (w0 w : World) (hB : Below w0.heap.size w0 w) (ho0 : Kd.R (Kd.int .u8) 5 w w0.heap.size P0_ u9000_ l0) (hr1_1 : ∀ W_, Kept w W_ (fun k_ => P0_ k_) → Kd.C (Kd.int .i64) W_ A1_1 l1_1.length l1_1) (hc1_1 : l1_1.length ≤ c1_1) (hr1_3 : ∀ W_, Kept w W_ (fun k_ => P0_ k_) → Kd.C (Kd.int .i64) W_ A1_3 l1_3.length l1_3) (hc1_3 : l1_3.length ≤ c1_3) (hr1_4 : ∀ W_, Kept w W_ (fun k_ => P0_ k_) → Kd.C k50 W_ A1_4 l1_4.length l1_4) (hc1_4 : l1_4.length ≤ c1_4) (h : image_Encode_2.f l0 a1_0 l1_1 a1_2 l1_3 l1_4 = some r) :
    Calls Tryd.prog 28 #[u9000_, .agg #[.string a1_0, .slice A1_1 l1_1.length c1_1, .int .i64 a1_2, .slice A1_3 l1_3.length c1_3, .slice A1_4 l1_4.length c1_4]] w fun e w' => ∃ v0_ : Value, e = .returned (v0_) ∧ Kd.R (Kd.int .u8) 5 w' w0.heap.size (fun k_ => (P0_ k_ ∨ w.heap.size ≤ k_)) v0_ r ∧ Below w0.heap.size w0 w' ∧ Kept w w' (fun k_ => P0_ k_) := by
  have hu54 := Tryd.underlying54
  have HO0 := Aside0.mk (show Kd.R (Kd.int .u8) 5 w w0.heap.size (fun k_ => (P0_ k_ ∨ w.heap.size ≤ k_)) u9000_ l0 from Kd.R_mono ho0 (fun k_ hk => (.inl hk)))
  have HR1_1 := Aside0.mk hr1_1
  have HC1_1 := Aside0.mk hc1_1
  clear hr1_1 hc1_1
  have HR1_3 := Aside0.mk hr1_3
  have HC1_3 := Aside0.mk hc1_3
  clear hr1_3 hc1_3
  have HR1_4 := Aside0.mk hr1_4
  have HC1_4 := Aside0.mk hc1_4
  clear hr1_4 hc1_4
  have HK := Aside0.mk (Kept.refl w (fun k_ => P0_ k_))
  have HW0 := Aside0.mk hB.size
  have HB := Aside0.mk hB
  clear hB
  have H : ((wire_Text.f ([] : List Int) a1_0).bind fun bt110 => (if l0.length + bt110.1.length < 140737488355328 then ((image_row_int.f (l0 ++ bt110.1) l1_1 26).bind fun t117 => ((image_nat.f t117 a1_2).bind fun t120 => (if 0 ≤ (l1_1.length : Int) then (if (l1_1.length : Int) ≤ (l1_3.length : Int) then ((image_row_int.f t120 (l1_3.drop ((l1_1.length : Int) : Int).toNat) 26).bind fun t127 => ((api_Instr.f t127 l1_4 32).bind fun t130 => (some t130))) else (none)) else (none)))) else (none))) = some r := h
  clear h
  replace H := Option.bind_eq_some_iff.mp H
  obtain ⟨⟨t110, t111⟩, A30, H⟩ := H
  replace H : (if l0.length + t110.length < 140737488355328 then ((image_row_int.f (l0 ++ t110) l1_1 26).bind fun t117 => ((image_nat.f t117 a1_2).bind fun t120 => (if 0 ≤ (l1_1.length : Int) then (if (l1_1.length : Int) ≤ (l1_3.length : Int) then ((image_row_int.f t120 (l1_3.drop ((l1_1.length : Int) : Int).toNat) 26).bind fun t127 => ((api_Instr.f t127 l1_4 32).bind fun t130 => (some t130))) else (none)) else (none)))) else (none)) = some r := H
  have A3 := Aside0.mk A30
  clear A30
  by_cases c4 : l0.length + t110.length < 140737488355328
  · rw [if_pos c4] at H
    have LMc4 := Aside0.mk c4
    clear c4
    obtain ⟨y114, hy114⟩ : ∃ y_ : List Int, y_ = (l0 ++ t110) := ⟨_, rfl⟩
    replace H : ((image_row_int.f y114 l1_1 26).bind fun t117 => ((image_nat.f t117 a1_2).bind fun t120 => (if 0 ≤ (l1_1.length : Int) then (if (l1_1.length : Int) ≤ (l1_3.length : Int) then ((image_row_int.f t120 (l1_3.drop ((l1_1.length : Int) : Int).toNat) 26).bind fun t127 => ((api_Instr.f t127 l1_4 32).bind fun t130 => (some t130))) else (none)) else (none)))) = some r := by first | (rw [hy114]; with_reducible exact H) | (have H2_ := (Option.bind_some _ _).symm.trans H; rw [hy114]; with_reducible exact H2_) | (have H2_ := (Option.bind_some _ _).symm.trans H; with_reducible exact H2_) | with_reducible exact H | (rw [hy114]; exact H) | exact H
    have Ny114 := Aside0.mk hy114
    clear hy114
    replace H := Option.bind_eq_some_iff.mp H
    obtain ⟨t117, A50, H⟩ := H
    replace H : ((image_nat.f t117 a1_2).bind fun t120 => (if 0 ≤ (l1_1.length : Int) then (if (l1_1.length : Int) ≤ (l1_3.length : Int) then ((image_row_int.f t120 (l1_3.drop ((l1_1.length : Int) : Int).toNat) 26).bind fun t127 => ((api_Instr.f t127 l1_4 32).bind fun t130 => (some t130))) else (none)) else (none))) = some r := H
    have A5 := Aside0.mk A50
    clear A50
    replace H := Option.bind_eq_some_iff.mp H
    obtain ⟨t120, A60, H⟩ := H
    replace H : (if 0 ≤ (l1_1.length : Int) then (if (l1_1.length : Int) ≤ (l1_3.length : Int) then ((image_row_int.f t120 (l1_3.drop ((l1_1.length : Int) : Int).toNat) 26).bind fun t127 => ((api_Instr.f t127 l1_4 32).bind fun t130 => (some t130))) else (none)) else (none)) = some r := H
    have A6 := Aside0.mk A60
    clear A60
    by_cases c7 : 0 ≤ (l1_1.length : Int)
    · rw [if_pos c7] at H
      have c7b0 := eq_true c7
      have c7b1 : decide (0 ≤ (l1_1.length : Int)) = true := decide_eq_true c7
      clear c7
      by_cases c8 : (l1_1.length : Int) ≤ (l1_3.length : Int)
      · rw [if_pos c8] at H
        have c8b0 := eq_true c8
        have c8b1 : decide ((l1_1.length : Int) ≤ (l1_3.length : Int)) = true := decide_eq_true c8
        clear c8
        obtain ⟨y123, hy123⟩ : ∃ y_ : List Int, y_ = (l1_3.drop ((l1_1.length : Int) : Int).toNat) := ⟨_, rfl⟩
        replace H : ((image_row_int.f t120 y123 26).bind fun t127 => ((api_Instr.f t127 l1_4 32).bind fun t130 => (some t130))) = some r := by first | (rw [hy123]; with_reducible exact H) | (have H2_ := (Option.bind_some _ _).symm.trans H; rw [hy123]; with_reducible exact H2_) | (have H2_ := (Option.bind_some _ _).symm.trans H; with_reducible exact H2_) | with_reducible exact H | (rw [hy123]; exact H) | exact H
        have Ny123 := Aside0.mk hy123
        clear hy123
        replace H := Option.bind_eq_some_iff.mp H
        obtain ⟨t127, A90, H⟩ := H
        replace H : ((api_Instr.f t127 l1_4 32).bind fun t130 => (some t130)) = some r := H
        have A9 := Aside0.mk A90
        clear A90
        replace H := Option.bind_eq_some_iff.mp H
        obtain ⟨t130, A100, H⟩ := H
        replace H : (some t130) = some r := H
        have A10 := Aside0.mk A100
        clear A100
        obtain rfl := Option.some.inj H
        go_enter Tryd.func28, Tryd.ntmps28
        try go_wp2_with (first | ((with_reducible refine gate_dst (N := 3) rfl ?_); refine box_event ?hg (N := 3) ?hd (cs := #[.string a1_0, .slice A1_1 l1_1.length c1_1, .int .i64 a1_2, .slice A1_3 l1_3.length c1_3, .slice A1_4 l1_4.length c1_4]) (t := 54) ?hr ?_; (case hd => rfl); (case hg => rfl); (case hr => first | (go_simp; done) | (go_simp; rfl)); intro gb109 hg w11 hbox hb; have n0_ := Aside0.mk (Kd.R_below (by (with_reducible repeat (first | apply Kd.R_alloc | apply Kd.R_drewN | apply Kd.R_drew)); exact HO0.out) hb); have n1_ := Aside0.mk (Kept.below (S := (fun k_ => P0_ k_)) (by repeat (first | (with_reducible first | exact HK.out | apply Kept.alloc | apply Kept.drewN | apply Kept.drew) | exact HK.out)) hb); have n2_ := Aside0.mk (below_step (by repeat (first | (with_reducible first | exact HB.out | apply below_alloc | apply pw_below_drewN | apply below_drew1) | exact HB.out)) hb); have n3_ := Aside0.mk (hbox); have n4_ := Aside0.mk ((by rw [hg]; exact (by first | exact HK.out.1 | exact (show Kept w _ (fun k_ => P0_ k_) from by repeat (first | (with_reducible first | exact HK.out | apply Kept.alloc | apply Kept.drewN | apply Kept.drew) | exact HK.out)).1) : w.heap.size ≤ gb109)); have n5_ := Aside0.mk ((by rw [hg]; exact (below_size (by repeat (first | (with_reducible first | exact HB.out | apply below_alloc | apply pw_below_drewN | apply below_drew1) | exact HB.out))) : w0.heap.size ≤ gb109)); clear HO0; clear HK; clear HB; have HO0 := n0_; have HK := n1_; have HB := n2_; have BK109 := n3_; have GW109 := n4_; have GE109 := n5_; clear n0_ n1_ n2_ n3_ n4_ n5_; clear hb hbox hg; have hcz12_0 : w11.cell? ⟨gb109, 0, none⟩ = some (.string a1_0) := (blk_cell BK109.out 0).trans rfl; have hcz12_1 : w11.cell? ⟨gb109, 1, none⟩ = some (.slice A1_1 l1_1.length c1_1) := (blk_cell BK109.out 1).trans rfl; have hcz12_2 : w11.cell? ⟨gb109, 2, none⟩ = some (.int .i64 a1_2) := (blk_cell BK109.out 2).trans rfl; have hcz12_3 : w11.cell? ⟨gb109, 3, none⟩ = some (.slice A1_3 l1_3.length c1_3) := (blk_cell BK109.out 3).trans rfl; have hcz12_4 : w11.cell? ⟨gb109, 4, none⟩ = some (.slice A1_4 l1_4.length c1_4) := (blk_cell BK109.out 4).trans rfl; have hfz12_0 := blk_frozen BK109.out 0; have hfz12_1 := blk_frozen BK109.out 1; have hfz12_2 := blk_frozen BK109.out 2; have hfz12_3 := blk_frozen BK109.out 3; have hfz12_4 := blk_frozen BK109.out 4) | ((with_reducible refine gate_callee (f := 29) rfl ?_); refine goesL_ (some 10) rfl rfl Tryd.func29 (by kernel_rfl) rfl #[.slice none 0 0, .string a1_0] rfl (by (try simp only [List.map_toArray, List.map_cons, List.map_nil]); first | done | rfl | (simp only [List.length_drop, List.length_take]; rfl)) ?_; (refine (wire_Text.calls _ _ ([] : List Int) a1_0 t110 t111 _ ?side1 ?side2 A3.out).mono ?_); (case side1 => exact Kd.C_nil _ _); (case side2 => exact Nat.le_refl _); rintro e w13 ⟨v112, rfl, ho0, hb⟩; refine ⟨_, rfl, ?_⟩; have n0_ := Aside0.mk (Kd.R_elder' (by (with_reducible repeat (first | apply Kd.R_alloc | apply Kd.R_drewN | apply Kd.R_drew)); exact HO0.out) (Kd.R_base ho0) hb); have n1_ := Aside0.mk (Kd.R_lower (Kd.R_new' (Kd.R_newM (M := fun k_ => (P0_ k_ ∨ w.heap.size ≤ k_)) ho0 (by first | exact HK.out.1 | exact (show Kept w _ (fun k_ => P0_ k_) from by repeat (first | (with_reducible first | exact HK.out | apply Kept.alloc | apply Kept.drewN | apply Kept.drew | refine Kept.setCell ?_ (.inr GW109.out) _) | exact HK.out)).1) (fun k_ h_ => .inr h_)) (Kd.R_lt (by (with_reducible repeat (first | apply Kd.R_alloc | apply Kd.R_drewN | apply Kd.R_drew)); exact HO0.out))) (below_size (by repeat (first | (with_reducible first | exact HB.out | apply below_alloc | apply pw_below_drewN | apply below_drew1 | refine below_set ?_ GE109.out) | exact HB.out)))); have n2_ := Aside0.mk (blk_below (g := gb109) (o := .cells #[.string a1_0, .slice A1_1 l1_1.length c1_1, .int .i64 a1_2, .slice A1_3 l1_3.length c1_3, .slice A1_4 l1_4.length c1_4] 54 (0, 0)) (by (with_reducible repeat (first | refine blk_drewN ?_ _ | refine blk_drew ?_ | refine blk_alloc ?_ _)); exact BK109.out) hb); have n3_ := Aside0.mk (Kept.below (S := (fun k_ => P0_ k_)) (by repeat (first | (with_reducible first | exact HK.out | apply Kept.alloc | apply Kept.drewN | apply Kept.drew | refine Kept.setCell ?_ (.inr GW109.out) _) | exact HK.out)) hb); have n4_ := Aside0.mk (below_step (by repeat (first | (with_reducible first | exact HB.out | apply below_alloc | apply pw_below_drewN | apply below_drew1 | refine below_set ?_ GE109.out) | exact HB.out)) hb); clear HO0; clear BK109; clear HK; clear HB; have HO0 := n0_; have HO113 := n1_; have BK109 := n2_; have HK := n3_; have HB := n4_; clear n0_ n1_ n2_ n3_ n4_; (try clear hb); (try clear hb2); (try clear hk); (try clear hi); (try clear ho0)))
        have n0_ := Aside0.mk (Kd.R_drew HO0.out)
        have n1_ := Aside0.mk (Kd.R_drew HO113.out)
        have n2_ := Aside0.mk (blk_drew BK109.out)
        have n3_ := Aside0.mk (Kept.drew HK.out)
        have n4_ := Aside0.mk (below_drew1 HB.out)
        clear HO0
        clear HO113
        clear BK109
        clear HK
        clear HB
        have HO0 := n0_
        have HO113 := n1_
        have BK109 := n2_
        have HK := n3_
        have HB := n4_
        clear n0_ n1_ n2_ n3_ n4_
        obtain ⟨Ao16, co16, eo16⟩ := Kd.R_slice HO113.out
        (first | subst eo16 | (injection eo16 with f1_ f2_ f3_; have f4_ := f1_.symm; have f5_ := f3_.symm; clear f1_ f2_ f3_; subst f4_; subst f5_))
        refine start_ (n := 7) (S := fun w' => w'.cell? ⟨gb109, 0, none⟩ = some (.string a1_0) ∧ w'.cell? ⟨gb109, 1, none⟩ = some (.slice A1_1 l1_1.length c1_1) ∧ w'.cell? ⟨gb109, 2, none⟩ = some (.int .i64 a1_2) ∧ w'.cell? ⟨gb109, 3, none⟩ = some (.slice A1_3 l1_3.length c1_3) ∧ w'.cell? ⟨gb109, 4, none⟩ = some (.slice A1_4 l1_4.length c1_4)) (ds := []) #[false, false, false, false, false, false, false] (by kernel_rfl) rfl rfl ⟨(blk_cell BK109.out 0).trans rfl, (blk_cell BK109.out 1).trans rfl, (blk_cell BK109.out 2).trans rfl, (blk_cell BK109.out 3).trans rfl, (blk_cell BK109.out 4).trans rfl⟩ (fun hHeld => ?_)
        generalize w13.drew = w14 at HO0 HO113 BK109 HK HB hHeld ⊢
        refine pure_ (i := 0) (N := some 13) (v := ?_) (a' := ?_) #[true, false, false, false, false, false, false] rfl rfl (by kernel_rfl) (fun _ _ _ h => h) (Or.inl ⟨by rfl, ?_⟩) ?_ ?_
        rotate_left
        · intro w'
          go_simp
          with_reducible rfl
        rotate_left
        · simp only [Act.put, List.setIfInBounds_toArray, List.set_cons_zero, List.set_cons_succ, i64_w, i32_w]
          rfl
        refine pure_ (i := 1) (N := some 14) (v := ?_) (a' := ?_) #[true, true, false, false, false, false, false] rfl rfl (by kernel_rfl) (fun _ _ _ h => h) (Or.inl ⟨by rfl, ?_⟩) ?_ ?_
        rotate_left
        · intro w'
          go_simp
          with_reducible rfl
        rotate_left
        · simp only [Act.put, List.setIfInBounds_toArray, List.set_cons_zero, List.set_cons_succ, i64_w, i32_w]
          rfl
        refine pure_ (i := 3) (N := some 16) (v := ?_) (a' := ?_) #[true, true, false, true, false, false, false] rfl rfl (by kernel_rfl) (fun _ _ _ h => h) (Or.inl ⟨by rfl, ?_⟩) ?_ ?_
        rotate_left
        · intro w'
          go_simp
          with_reducible rfl
        rotate_left
        · simp only [Act.put, List.setIfInBounds_toArray, List.set_cons_zero, List.set_cons_succ, i64_w, i32_w]
          rfl
        refine take_ (i := 4) (N := some 17) (v := ?_) (a' := ?_) #[true, true, false, true, true, false, false] rfl rfl (by kernel_rfl) (fun _ _ _ h => h) (Or.inl ⟨by rfl, ?_⟩) hHeld ?_ ?_
        rotate_left
        · rintro w' ⟨s0, s1, s2, s3, s4⟩
          go_simp
          with_reducible rfl
        rotate_left
        · simp only [Act.put, List.setIfInBounds_toArray, List.set_cons_zero, List.set_cons_succ, i64_w, i32_w]
          rfl
        refine one_ (i := 2) (N := some 15) #[true, true, true, true, true, false, false] rfl rfl (by kernel_rfl) (by decide) (fun K hK => ?_)
        refine Kd.R_append_rows_step (Kd.int .u8) (w0 := w0) w0.heap.size (by rfl) (.tmp 13) (.tmp 14) 30 5 (.int .u8 0) 1 rfl Tryd.underlying30 info5 rfl (by decide) (by omega) u9000_ l0 t110 _ _ _ (fun k_ => (P0_ k_ ∨ w.heap.size ≤ k_) ∧ some k_ ≠ (.slice Ao16 t110.length co16 : Value).ownBlock) (fun _ => False) rfl rfl ?aO ?aR (fun _ _ h => h) (fun _ h => h.elim) ?aF ?aB ?aS ?aL ?_
        (case aR => repeat (first | exact (Kd.R_reads' HO113.out).2.2 | (with_reducible refine Kd.C_alloc ?_ _) | (with_reducible refine Kd.C_drewN ?_ _) | (with_reducible refine Kd.C_drew ?_)))
        (case aB => exact (by repeat (first | (with_reducible first | exact HB.out | apply below_alloc | apply pw_below_drewN | apply below_drew1 | refine below_set ?_ GE109.out) | exact HB.out)))
        (case aF => exact (fun k_ hk => ⟨(.inr (Nat.le_trans (by first | exact HK.out.1 | exact (show Kept w _ (fun k_ => P0_ k_) from by repeat (first | (with_reducible first | exact HK.out | apply Kept.alloc | apply Kept.drewN | apply Kept.drew | refine Kept.setCell ?_ (.inr GW109.out) _) | exact HK.out)).1) hk)), Kd.fresh' (Kd.R_lt (by (with_reducible repeat (first | apply Kd.R_alloc | apply Kd.R_drewN | apply Kd.R_drew)); exact HO113.out)) k_ hk⟩))
        (case aO => exact (by (with_reducible repeat (first | apply Kd.R_alloc | apply Kd.R_drewN | apply Kd.R_drew)); exact HO0.out))
        (case aS => exact (below_size (by repeat (first | (with_reducible first | exact HB.out | apply below_alloc | apply pw_below_drewN | apply below_drew1 | refine below_set ?_ GE109.out) | exact HB.out))))
        (case aL => have := LMc4.out; omega)
        intro v115 w15 ho hb hg hat
        rw [← Ny114.out] at ho
        have n0_ := Aside0.mk (blk_grown (g := gb109) (o := .cells #[.string a1_0, .slice A1_1 l1_1.length c1_1, .int .i64 a1_2, .slice A1_3 l1_3.length c1_3, .slice A1_4 l1_4.length c1_4] 54 (0, 0)) (by (with_reducible repeat (first | refine blk_drewN ?_ _ | refine blk_drew ?_ | refine blk_alloc ?_ _)); exact BK109.out) hg (Kd.R_ne HO0.out BK109.out (by decide)))
        have n1_ := Aside0.mk (Kd.R_after (ok := (fun k_ => (P0_ k_ ∨ w.heap.size ≤ k_))) (by (with_reducible repeat (first | apply Kd.R_alloc | apply Kd.R_drewN | apply Kd.R_drew)); exact Kd.R_mono HO113.out (fun _ hk => ⟨hk.1.1, hk.2⟩)) hg hat)
        have n2_ := Aside0.mk (hb)
        have n3_ := Aside0.mk (Kept.of_grown (S := (fun k_ => P0_ k_)) hg (by repeat (first | (with_reducible first | exact HK.out | apply Kept.alloc | apply Kept.drewN | apply Kept.drew | refine Kept.setCell ?_ (.inr GW109.out) _) | exact HK.out)) (fun k_ e_ => (HO0.out.1 k_ e_).1))
        have n4_ := Aside0.mk (ho)
        clear BK109
        clear HO113
        clear HB
        clear HK
        clear HO0
        have BK109 := n0_
        have HO113 := n1_
        have HB := n2_
        have HK := n3_
        have HO116 := n4_
        clear n0_ n1_ n2_ n3_ n4_
        clear ho hb hg hat
        obtain ⟨Ao17, co17, eo17⟩ := Kd.R_slice HO116.out
        (first | subst eo17 | (injection eo17 with f1_ f2_ f3_; have f4_ := f1_.symm; have f5_ := f3_.symm; clear f1_ f2_ f3_; subst f4_; subst f5_))
        refine hK.out _ _ ⟨(blk_cell BK109.out 0).trans rfl, (blk_cell BK109.out 1).trans rfl, (blk_cell BK109.out 2).trans rfl, (blk_cell BK109.out 3).trans rfl, (blk_cell BK109.out 4).trans rfl⟩ (fun hHeld => ?_)
        clear hK K
        refine norm_ (a' := ?_) ?_ ?_
        rotate_left
        · show Act.put _ (some 15) _ = _
          simp only [Act.put, List.setIfInBounds_toArray, List.set_cons_zero, List.set_cons_succ, i64_w, i32_w]
          rfl
        refine one_ (i := 5) (N := some 18) #[true, true, true, true, true, true, false] rfl rfl (by kernel_rfl) (by decide) (fun K hK => ?_)
        refine goes_ Tryd.func30 (by kernel_rfl) rfl #[.slice Ao17 y114.length co17, .slice A1_1 l1_1.length c1_1, .func (.func 26) #[] #[]] (by rfl) rfl rfl (by (try simp only [List.map_toArray, List.map_cons, List.map_nil]); first | done | rfl | (simp only [List.length_drop, List.length_take]; rfl)) ?_
        with_reducible refine (image_row_int.calls (fun k_ => some k_ = (.slice Ao17 y114.length co17 : Value).ownBlock) (.slice Ao17 y114.length co17) y114 _ _ l1_1 26 t117 w0 _ ?side1 ?side2 ?side3 ?side4 A5.out).mono ?_
        (case side1 => repeat (first | (with_reducible first | exact HB.out | apply below_alloc | apply pw_below_drewN | apply below_drew1 | refine below_set ?_ GE109.out) | exact HB.out))
        (case side2 => exact Kd.R_tight rfl HO116.out)
        (case side3 => exact Kd.C_kept_call HR1_1.out (by repeat (first | (with_reducible first | exact HK.out | apply Kept.alloc | apply Kept.drewN | apply Kept.drew | refine Kept.setCell ?_ (.inr GW109.out) _) | exact HK.out)) (fun k_ hs_ => (fun e_ => (HO116.out.1 k_ e_.symm).1) hs_))
        (case side4 => exact HC1_1.out)
        rintro e w18 ⟨v118, rfl, ho0, hb, hkp⟩
        refine ⟨_, rfl, ?_⟩
        have n0_ := Aside0.mk (blk_kept (by (with_reducible repeat (first | refine blk_drewN ?_ _ | refine blk_drew ?_ | refine blk_alloc ?_ _)); exact BK109.out) hkp (fun hs_ => (fun e_ => (Kd.R_ne HO116.out BK109.out (by decide)) e_) hs_))
        have n1_ := Aside0.mk (Kd.R_mono (ok' := fun k_ => (P0_ k_ ∨ w.heap.size ≤ k_) ∧ some k_ ≠ (v118 : Value).ownBlock) (Kd.R_keptB (HO113.out) hkp (fun k_ hk_ hs_ => (hk_.2) hs_)) (fun k_ hk_ => ⟨hk_.1.1, fun e_ => Or.elim (ho0.1 k_ e_.symm) (fun hs_ => hk_.2.1 hs_) (fun hn_ => Nat.not_le.2 hk_.2.2 hn_)⟩))
        have n2_ := Aside0.mk (Kd.R_mono (ok' := fun k_ => (P0_ k_ ∨ w.heap.size ≤ k_) ∧ some k_ ≠ (.slice Ao16 t110.length co16 : Value).ownBlock) ho0 (fun k_ hk_ => ⟨Or.elim hk_ (fun hs_ => (HO116.out.1 k_ (hs_).symm).1) (fun hn_ => (.inr (Nat.le_trans (by first | exact HK.out.1 | exact (show Kept w _ (fun k_ => P0_ k_) from by repeat (first | (with_reducible first | exact HK.out | apply Kept.alloc | apply Kept.drewN | apply Kept.drew | refine Kept.setCell ?_ (.inr GW109.out) _) | exact HK.out)).1) hn_))), Or.elim hk_ (fun hs_ => fun e_ => (((HO113.out).1 k_ e_.symm).2) hs_) (fun hn_ => (Kd.fresh' (Kd.R_lt (by (with_reducible repeat (first | apply Kd.R_alloc | apply Kd.R_drewN | apply Kd.R_drew)); exact HO113.out)) k_ hn_))⟩))
        have n3_ := Aside0.mk (Kept.then_ (S := (fun k_ => P0_ k_)) (by repeat (first | (with_reducible first | exact HK.out | apply Kept.alloc | apply Kept.drewN | apply Kept.drew | refine Kept.setCell ?_ (.inr GW109.out) _) | exact HK.out)) hkp (fun k_ hs_ => (fun e_ => (HO116.out.1 k_ e_.symm).1) hs_))
        have n4_ := Aside0.mk (hb)
        clear BK109
        clear HO113
        clear HK
        clear HB
        clear HO116
        have BK109 := n0_
        have HO113 := n1_
        have HO119 := n2_
        have HK := n3_
        have HB := n4_
        clear n0_ n1_ n2_ n3_ n4_
        (try clear hb)
        (try clear hkp)
        (try clear ho0)
        refine hK.out _ _ ⟨(blk_cell BK109.out 0).trans rfl, (blk_cell BK109.out 1).trans rfl, (blk_cell BK109.out 2).trans rfl, (blk_cell BK109.out 3).trans rfl, (blk_cell BK109.out 4).trans rfl⟩ (fun hHeld => ?_)
        clear hK K
        refine norm_ (a' := ?_) ?_ ?_
        rotate_left
        · show Act.put _ (some 18) _ = _
          simp only [Act.put, List.setIfInBounds_toArray, List.set_cons_zero, List.set_cons_succ, i64_w, i32_w]
          rfl
        refine pure_ (i := 6) (N := some 0) (v := ?_) (a' := ?_) #[true, true, true, true, true, true, true] rfl rfl (by kernel_rfl) (fun _ _ _ h => h) (Or.inl ⟨by rfl, ?_⟩) ?_ ?_
        rotate_left
        · intro w'
          go_simp
          with_reducible rfl
        rotate_left
        · simp only [Act.put, List.setIfInBounds_toArray, List.set_cons_zero, List.set_cons_succ, i64_w, i32_w]
          rfl
        refine done_ (by kernel_rfl) ?_
        try go_wp2
        have n0_ := Aside0.mk (Kd.R_drew HO113.out)
        have n1_ := Aside0.mk (Kd.R_drew HO119.out)
        have n2_ := Aside0.mk (blk_drew BK109.out)
        have n3_ := Aside0.mk (Kept.drew HK.out)
        have n4_ := Aside0.mk (below_drew1 HB.out)
        clear HO113
        clear HO119
        clear BK109
        clear HK
        clear HB
        have HO113 := n0_
        have HO119 := n1_
        have BK109 := n2_
        have HK := n3_
        have HB := n4_
        clear n0_ n1_ n2_ n3_ n4_
        have q20 : ((l1_1.length : Int) : Int) ≤ ((l1_3.length : Int) : Int) := of_decide_eq_true (by first | (with_reducible assumption) | assumption)
        obtain ⟨i020, hi020, _, hsz20, _⟩ := info_parts info3
        have hroom20 : l1_3.length ≤ c1_3 := HC1_3.out
        have hC20 : Kd.C (Kd.int .i64) _ A1_3 l1_3.length l1_3 := (Kd.C_kept_now HR1_3.out HK.out)
        have q020 : (0 : Int) ≤ ((l1_1.length : Int) : Int) := of_decide_eq_true (by first | (with_reducible assumption) | assumption)
        have hcut20 := cut_from (P := Tryd.prog) 52 3 .i64 Tryd.underlying52 hi020 1 hsz20 A1_3 l1_3.length c1_3 (l1_1.length : Int) q020 q20
        have hr20 := Kd.C_drop (m := ((l1_1.length : Int) : Int).toNat) (c := c1_3) hC20 (by omega) hroom20
        obtain ⟨A20, hA20⟩ : ∃ A1, A1 = (if c1_3 = ((l1_1.length : Int) : Int).toNat then A1_3 else (A1_3 : Option Addr).map (·.add (((l1_1.length : Int) : Int).toNat * 1))) := ⟨_, rfl⟩
        obtain ⟨c20, hc20⟩ : ∃ c1, c1 = c1_3 - ((l1_1.length : Int) : Int).toNat := ⟨_, rfl⟩
        have hy20 : y123.length = l1_3.length - ((l1_1.length : Int) : Int).toNat := (by rw [Ny123.out, List.length_drop] <;> omega)
        rw [show (l1_3).drop ((l1_1.length : Int) : Int).toNat = y123 from Ny123.out.symm] at hr20
        replace hr20 : Kd.C (Kd.int .i64) _ A20 y123.length y123 := (by rw [hA20]; exact hr20)
        rw [← hy20, ← hA20, ← hc20] at hcut20
        have HR126 := Aside0.mk hr20
        have HC126 := Aside0.mk (show y123.length ≤ c20 from by rw [hy20, hc20]; exact Nat.sub_le_sub_right hroom20 _)
        clear hr20 hC20 hroom20 hi020 hsz20 hc20
        have KY20 := Aside0.mk hy20
        have KA20 := Aside0.mk hA20
        clear hy20 hA20
        have KL20 := Aside0.mk (show ((l1_1.length : Int) : Int).toNat ≤ l1_3.length from by omega)
        replace q20 := eq_true q20
        obtain ⟨Ao21, co21, eo21⟩ := Kd.R_slice HO119.out
        (first | subst eo21 | (injection eo21 with f1_ f2_ f3_; have f4_ := f1_.symm; have f5_ := f3_.symm; clear f1_ f2_ f3_; subst f4_; subst f5_))
        refine start_ (n := 12) (S := fun w' => w'.cell? ⟨gb109, 0, none⟩ = some (.string a1_0) ∧ w'.cell? ⟨gb109, 1, none⟩ = some (.slice A1_1 l1_1.length c1_1) ∧ w'.cell? ⟨gb109, 2, none⟩ = some (.int .i64 a1_2) ∧ w'.cell? ⟨gb109, 3, none⟩ = some (.slice A1_3 l1_3.length c1_3) ∧ w'.cell? ⟨gb109, 4, none⟩ = some (.slice A1_4 l1_4.length c1_4)) (ds := []) #[false, false, false, false, false, false, false, false, false, false, false, false] (by kernel_rfl) rfl rfl ⟨(blk_cell BK109.out 0).trans rfl, (blk_cell BK109.out 1).trans rfl, (blk_cell BK109.out 2).trans rfl, (blk_cell BK109.out 3).trans rfl, (blk_cell BK109.out 4).trans rfl⟩ (fun hHeld => ?_); refine with_tabW image_Encode_2.tab3 image_Encode_2.bits3 (fun HT_ HW_ => ?_)
        generalize w18.drew = w19 at HO113 HO119 BK109 HK HB HR126 hHeld ⊢
        refine pure_ (i := 0) (N := some 19) (v := ?_) (a' := ?_) #[true, false, false, false, false, false, false, false, false, false, false, false] rfl rfl (any_of HT_.out (by kernel_rfl)) (fun _ _ _ h => h) (Or.inl ⟨by rfl, ?_⟩) ?_ ?_
        rotate_left
        · intro w'
          go_simp
          with_reducible rfl
        rotate_left
        · simp only [Act.put, List.setIfInBounds_toArray, List.set_cons_zero, List.set_cons_succ, i64_w, i32_w]
          rfl
        refine pure_ (i := 1) (N := some 20) (v := ?_) (a' := ?_) #[true, true, false, false, false, false, false, false, false, false, false, false] rfl rfl (any_of HT_.out (by kernel_rfl)) (fun _ _ _ h => h) (Or.inl ⟨by rfl, ?_⟩) ?_ ?_
        rotate_left
        · intro w'
          go_simp
          with_reducible rfl
        rotate_left
        · simp only [Act.put, List.setIfInBounds_toArray, List.set_cons_zero, List.set_cons_succ, i64_w, i32_w]
          rfl
        refine pure_ (i := 4) (N := some 23) (v := ?_) (a' := ?_) #[true, true, false, false, true, false, false, false, false, false, false, false] rfl rfl (any_of HT_.out (by kernel_rfl)) (fun _ _ _ h => h) (Or.inl ⟨by rfl, ?_⟩) ?_ ?_
        rotate_left
        · intro w'
          go_simp
          with_reducible rfl
        rotate_left
        · simp only [Act.put, List.setIfInBounds_toArray, List.set_cons_zero, List.set_cons_succ, i64_w, i32_w]
          rfl
        refine pure_ (i := 6) (N := some 25) (v := ?_) (a' := ?_) #[true, true, false, false, true, false, true, false, false, false, false, false] rfl rfl (any_of HT_.out (by kernel_rfl)) (fun _ _ _ h => h) (Or.inl ⟨by rfl, ?_⟩) ?_ ?_
        rotate_left
        · intro w'
          go_simp
          with_reducible rfl
        rotate_left
        · simp only [Act.put, List.setIfInBounds_toArray, List.set_cons_zero, List.set_cons_succ, i64_w, i32_w]
          rfl
        refine take_ (i := 2) (N := some 21) (v := ?_) (a' := ?_) #[true, true, true, false, true, false, true, false, false, false, false, false] rfl rfl (take_ofW HT_.out HW_.out (by kernel_rfl)) (fun _ _ _ h => h) (Or.inl ⟨by rfl, ?_⟩) hHeld ?_ ?_
        rotate_left
        · rintro w' ⟨s0, s1, s2, s3, s4⟩
          go_simp
          with_reducible rfl
        rotate_left
        · simp only [Act.put, List.setIfInBounds_toArray, List.set_cons_zero, List.set_cons_succ, i64_w, i32_w]
          rfl
        refine take_ (i := 5) (N := some 24) (v := ?_) (a' := ?_) #[true, true, true, false, true, true, true, false, false, false, false, false] rfl rfl (take_ofW HT_.out HW_.out (by kernel_rfl)) (fun _ _ _ h => h) (Or.inl ⟨by rfl, ?_⟩) hHeld ?_ ?_
        rotate_left
        · rintro w' ⟨s0, s1, s2, s3, s4⟩
          go_simp
          with_reducible rfl
        rotate_left
        · simp only [Act.put, List.setIfInBounds_toArray, List.set_cons_zero, List.set_cons_succ, i64_w, i32_w]
          rfl
        refine take_ (i := 7) (N := some 26) (v := ?_) (a' := ?_) #[true, true, true, false, true, true, true, true, false, false, false, false] rfl rfl (take_ofW HT_.out HW_.out (by kernel_rfl)) (fun _ _ _ h => h) (Or.inl ⟨by rfl, ?_⟩) hHeld ?_ ?_
        rotate_left
        · rintro w' ⟨s0, s1, s2, s3, s4⟩
          go_simp
          with_reducible rfl
        rotate_left
        · simp only [Act.put, List.setIfInBounds_toArray, List.set_cons_zero, List.set_cons_succ, i64_w, i32_w]
          rfl
        refine pure_ (i := 8) (N := some 27) (v := ?_) (a' := ?_) #[true, true, true, false, true, true, true, true, true, false, false, false] rfl rfl (any_of HT_.out (by kernel_rfl)) (fun _ _ _ h => h) (Or.inl ⟨by rfl, ?_⟩) ?_ ?_
        rotate_left
        · intro w'
          go_simp
          with_reducible rfl
        rotate_left
        · simp only [Act.put, List.setIfInBounds_toArray, List.set_cons_zero, List.set_cons_succ, i64_w, i32_w]
          rfl
        refine pure_ (i := 9) (N := some 28) (v := ?_) (a' := ?_) #[true, true, true, false, true, true, true, true, true, true, false, false] rfl rfl (any_of HT_.out (by kernel_rfl)) (fun _ _ _ h => h) (Or.inl ⟨by rfl, ?_⟩) ?_ ?_
        rotate_left
        · intro w'
          go_simp
          with_reducible rfl
        rotate_left
        · simp only [Act.put, List.setIfInBounds_toArray, List.set_cons_zero, List.set_cons_succ, i64_w, i32_w]
          rfl
        refine one_ (i := 3) (N := some 22) #[true, true, true, true, true, true, true, true, true, true, false, false] rfl rfl (one_of HT_.out (by kernel_rfl)) (by decide) (fun K hK => ?_)
        refine goes_ Tryd.func26 (by kernel_rfl) rfl #[.slice Ao21 t117.length co21, .int .i64 a1_2] (by rfl) rfl rfl (by (try simp only [List.map_toArray, List.map_cons, List.map_nil]); first | done | rfl | (simp only [List.length_drop, List.length_take]; rfl)) ?_
        with_reducible refine (image_nat.calls (fun k_ => some k_ = (.slice Ao21 t117.length co21 : Value).ownBlock) (.slice Ao21 t117.length co21) t117 a1_2 t120 w0 _ ?side1 ?side2 A6.out).mono ?_
        (case side1 => repeat (first | (with_reducible first | exact HB.out | apply below_alloc | apply pw_below_drewN | apply below_drew1 | refine below_set ?_ GE109.out) | exact HB.out))
        (case side2 => exact Kd.R_tight rfl HO119.out)
        rintro e w22 ⟨v121, rfl, ho0, hb, hkp⟩
        refine ⟨_, rfl, ?_⟩
        have n0_ := Aside0.mk (blk_kept (by (with_reducible repeat (first | refine blk_drewN ?_ _ | refine blk_drew ?_ | refine blk_alloc ?_ _)); exact BK109.out) hkp (fun hs_ => (fun e_ => (Kd.R_ne HO119.out BK109.out (by decide)) e_) hs_))
        have n1_ := Aside0.mk (Kd.R_mono (ok' := fun k_ => (P0_ k_ ∨ w.heap.size ≤ k_) ∧ some k_ ≠ (v121 : Value).ownBlock) (Kd.R_keptB (HO113.out) hkp (fun k_ hk_ hs_ => (hk_.2) hs_)) (fun k_ hk_ => ⟨hk_.1.1, fun e_ => Or.elim (ho0.1 k_ e_.symm) (fun hs_ => hk_.2.1 hs_) (fun hn_ => Nat.not_le.2 hk_.2.2 hn_)⟩))
        have n2_ := Aside0.mk (Kd.R_mono (ok' := fun k_ => (P0_ k_ ∨ w.heap.size ≤ k_) ∧ some k_ ≠ (.slice Ao16 t110.length co16 : Value).ownBlock) ho0 (fun k_ hk_ => ⟨Or.elim hk_ (fun hs_ => (HO119.out.1 k_ (hs_).symm).1) (fun hn_ => (.inr (Nat.le_trans (by first | exact HK.out.1 | exact (show Kept w _ (fun k_ => P0_ k_) from by repeat (first | (with_reducible first | exact HK.out | apply Kept.alloc | apply Kept.drewN | apply Kept.drew | refine Kept.setCell ?_ (.inr GW109.out) _) | exact HK.out)).1) hn_))), Or.elim hk_ (fun hs_ => fun e_ => (((HO113.out).1 k_ e_.symm).2) hs_) (fun hn_ => (Kd.fresh' (Kd.R_lt (by (with_reducible repeat (first | apply Kd.R_alloc | apply Kd.R_drewN | apply Kd.R_drew)); exact HO113.out)) k_ hn_))⟩))
        have n3_ := Aside0.mk (Kept.then_ (S := (fun k_ => P0_ k_)) (by repeat (first | (with_reducible first | exact HK.out | apply Kept.alloc | apply Kept.drewN | apply Kept.drew | refine Kept.setCell ?_ (.inr GW109.out) _) | exact HK.out)) hkp (fun k_ hs_ => (fun e_ => (HO119.out.1 k_ e_.symm).1) hs_))
        have n4_ := Aside0.mk (hb)
        clear BK109
        clear HO113
        clear HK
        clear HB
        clear HO119
        have BK109 := n0_
        have HO113 := n1_
        have HO122 := n2_
        have HK := n3_
        have HB := n4_
        clear n0_ n1_ n2_ n3_ n4_
        (try clear hb)
        (try clear hkp)
        (try clear ho0)
        obtain ⟨Ao23, co23, eo23⟩ := Kd.R_slice HO122.out
        (first | subst eo23 | (injection eo23 with f1_ f2_ f3_; have f4_ := f1_.symm; have f5_ := f3_.symm; clear f1_ f2_ f3_; subst f4_; subst f5_))
        refine hK.out _ _ ⟨(blk_cell BK109.out 0).trans rfl, (blk_cell BK109.out 1).trans rfl, (blk_cell BK109.out 2).trans rfl, (blk_cell BK109.out 3).trans rfl, (blk_cell BK109.out 4).trans rfl⟩ (fun hHeld => ?_)
        clear hK K
        refine norm_ (a' := ?_) ?_ ?_
        rotate_left
        · show Act.put _ (some 22) _ = _
          simp only [Act.put, List.setIfInBounds_toArray, List.set_cons_zero, List.set_cons_succ, i64_w, i32_w]
          rfl
        refine one_ (i := 10) (N := some 29) #[true, true, true, true, true, true, true, true, true, true, true, false] rfl rfl (one_of HT_.out (by kernel_rfl)) (by decide) (fun K hK => ?_)
        refine goes_ Tryd.func30 (by kernel_rfl) rfl #[.slice Ao23 t120.length co23, .slice A20 y123.length c20, .func (.func 26) #[] #[]] (by rfl) rfl rfl (by (try simp only [List.map_toArray, List.map_cons, List.map_nil]); first | done | rfl | (simp only [List.length_drop, List.length_take]; rfl)) ?_
        with_reducible refine (image_row_int.calls (fun k_ => some k_ = (.slice Ao23 t120.length co23 : Value).ownBlock) (.slice Ao23 t120.length co23) t120 _ _ y123 26 t127 w0 _ ?side1 ?side2 ?side3 ?side4 A9.out).mono ?_
        (case side1 => repeat (first | (with_reducible first | exact HB.out | apply below_alloc | apply pw_below_drewN | apply below_drew1 | refine below_set ?_ GE109.out) | exact HB.out))
        (case side2 => exact Kd.R_tight rfl HO122.out)
        (case side3 => exact fun W_ hw_ => by have h_ := Kd.C_drop (m := ((l1_1.length : Int) : Int).toNat) (c := c1_3) ((Kd.C_kept_call HR1_3.out (by repeat (first | (with_reducible first | exact HK.out | apply Kept.alloc | apply Kept.drewN | apply Kept.drew | refine Kept.setCell ?_ (.inr GW109.out) _) | exact HK.out)) (fun k_ hs_ => (fun e_ => (HO122.out.1 k_ e_.symm).1) hs_)) W_ hw_) KL20.out HC1_3.out; rw [show (l1_3).drop ((l1_1.length : Int) : Int).toNat = y123 from Ny123.out.symm] at h_; rw [KA20.out]; exact h_)
        (case side4 => exact HC126.out)
        rintro e w24 ⟨v128, rfl, ho0, hb, hkp⟩
        refine ⟨_, rfl, ?_⟩
        have n0_ := Aside0.mk (blk_kept (by (with_reducible repeat (first | refine blk_drewN ?_ _ | refine blk_drew ?_ | refine blk_alloc ?_ _)); exact BK109.out) hkp (fun hs_ => (fun e_ => (Kd.R_ne HO122.out BK109.out (by decide)) e_) hs_))
        have n1_ := Aside0.mk (Kd.R_mono (ok' := fun k_ => (P0_ k_ ∨ w.heap.size ≤ k_) ∧ some k_ ≠ (v128 : Value).ownBlock) (Kd.R_keptB (HO113.out) hkp (fun k_ hk_ hs_ => (hk_.2) hs_)) (fun k_ hk_ => ⟨hk_.1.1, fun e_ => Or.elim (ho0.1 k_ e_.symm) (fun hs_ => hk_.2.1 hs_) (fun hn_ => Nat.not_le.2 hk_.2.2 hn_)⟩))
        have n2_ := Aside0.mk (Kd.R_mono (ok' := fun k_ => (P0_ k_ ∨ w.heap.size ≤ k_) ∧ some k_ ≠ (.slice Ao16 t110.length co16 : Value).ownBlock) ho0 (fun k_ hk_ => ⟨Or.elim hk_ (fun hs_ => (HO122.out.1 k_ (hs_).symm).1) (fun hn_ => (.inr (Nat.le_trans (by first | exact HK.out.1 | exact (show Kept w _ (fun k_ => P0_ k_) from by repeat (first | (with_reducible first | exact HK.out | apply Kept.alloc | apply Kept.drewN | apply Kept.drew | refine Kept.setCell ?_ (.inr GW109.out) _) | exact HK.out)).1) hn_))), Or.elim hk_ (fun hs_ => fun e_ => (((HO113.out).1 k_ e_.symm).2) hs_) (fun hn_ => (Kd.fresh' (Kd.R_lt (by (with_reducible repeat (first | apply Kd.R_alloc | apply Kd.R_drewN | apply Kd.R_drew)); exact HO113.out)) k_ hn_))⟩))
        have n3_ := Aside0.mk (Kept.then_ (S := (fun k_ => P0_ k_)) (by repeat (first | (with_reducible first | exact HK.out | apply Kept.alloc | apply Kept.drewN | apply Kept.drew | refine Kept.setCell ?_ (.inr GW109.out) _) | exact HK.out)) hkp (fun k_ hs_ => (fun e_ => (HO122.out.1 k_ e_.symm).1) hs_))
        have n4_ := Aside0.mk (hb)
        clear BK109
        clear HO113
        clear HK
        clear HB
        clear HO122
        have BK109 := n0_
        have HO113 := n1_
        have HO129 := n2_
        have HK := n3_
        have HB := n4_
        clear n0_ n1_ n2_ n3_ n4_
        (try clear hb)
        (try clear hkp)
        (try clear ho0)
        refine hK.out _ _ ⟨(blk_cell BK109.out 0).trans rfl, (blk_cell BK109.out 1).trans rfl, (blk_cell BK109.out 2).trans rfl, (blk_cell BK109.out 3).trans rfl, (blk_cell BK109.out 4).trans rfl⟩ (fun hHeld => ?_)
        clear hK K
        refine norm_ (a' := ?_) ?_ ?_
        rotate_left
        · show Act.put _ (some 29) _ = _
          simp only [Act.put, List.setIfInBounds_toArray, List.set_cons_zero, List.set_cons_succ, i64_w, i32_w]
          rfl
        refine pure_ (i := 11) (N := some 0) (v := ?_) (a' := ?_) #[true, true, true, true, true, true, true, true, true, true, true, true] rfl rfl (any_of HT_.out (by kernel_rfl)) (fun _ _ _ h => h) (Or.inl ⟨by rfl, ?_⟩) ?_ ?_
        rotate_left
        · intro w'
          go_simp
          with_reducible rfl
        rotate_left
        · simp only [Act.put, List.setIfInBounds_toArray, List.set_cons_zero, List.set_cons_succ, i64_w, i32_w]
          rfl
        refine done_ (done_of HT_.out (by kernel_rfl)) ?_
        have hcz25_0 : w24.cell? ⟨gb109, 0, none⟩ = some (.string a1_0) := (blk_cell BK109.out 0).trans rfl
        have hcz25_1 : w24.cell? ⟨gb109, 1, none⟩ = some (.slice A1_1 l1_1.length c1_1) := (blk_cell BK109.out 1).trans rfl
        have hcz25_2 : w24.cell? ⟨gb109, 2, none⟩ = some (.int .i64 a1_2) := (blk_cell BK109.out 2).trans rfl
        have hcz25_3 : w24.cell? ⟨gb109, 3, none⟩ = some (.slice A1_3 l1_3.length c1_3) := (blk_cell BK109.out 3).trans rfl
        have hcz25_4 : w24.cell? ⟨gb109, 4, none⟩ = some (.slice A1_4 l1_4.length c1_4) := (blk_cell BK109.out 4).trans rfl
        have hfz25_0 := blk_frozen BK109.out 0
        have hfz25_1 := blk_frozen BK109.out 1
        have hfz25_2 := blk_frozen BK109.out 2
        have hfz25_3 := blk_frozen BK109.out 3
        have hfz25_4 := blk_frozen BK109.out 4
        obtain ⟨Ao26, co26, eo26⟩ := Kd.R_slice HO129.out
        subst eo26
        try go_wp2_with (first | ((with_reducible refine gate_callee (f := 31) rfl ?_); refine goesL_ (some 33) rfl rfl Tryd.func31 (by kernel_rfl) rfl #[.slice Ao26 t127.length co26, .slice A1_4 l1_4.length c1_4, .func (.func 32) #[] #[]] rfl (by (try simp only [List.map_toArray, List.map_cons, List.map_nil]); first | done | rfl | (simp only [List.length_drop, List.length_take]; rfl)) ?_; (with_reducible refine (api_Instr.calls (fun k_ => some k_ = (.slice Ao26 t127.length co26 : Value).ownBlock) (.slice Ao26 t127.length co26) t127 _ _ l1_4 32 t130 w0 _ ?side1 ?side2 ?side3 ?side4 A10.out).mono ?_); (case side1 => repeat (first | (with_reducible first | exact HB.out | apply below_alloc | apply pw_below_drewN | apply below_drew1 | refine below_set ?_ GE109.out) | exact HB.out)); (case side2 => exact Kd.R_tight rfl HO129.out); (case side3 => exact Kd.C_kept_call HR1_4.out (by repeat (first | (with_reducible first | exact HK.out | apply Kept.alloc | apply Kept.drewN | apply Kept.drew | refine Kept.setCell ?_ (.inr GW109.out) _) | exact HK.out)) (fun k_ hs_ => (fun e_ => (HO129.out.1 k_ e_.symm).1) hs_)); (case side4 => exact HC1_4.out); rintro e w27 ⟨v131, rfl, ho0, hb, hkp⟩; refine ⟨_, rfl, ?_⟩; have n0_ := Aside0.mk (blk_kept (by (with_reducible repeat (first | refine blk_drewN ?_ _ | refine blk_drew ?_ | refine blk_alloc ?_ _)); exact BK109.out) hkp (fun hs_ => (fun e_ => (Kd.R_ne HO129.out BK109.out (by decide)) e_) hs_)); have n1_ := Aside0.mk (Kd.R_mono (ok' := fun k_ => (P0_ k_ ∨ w.heap.size ≤ k_) ∧ some k_ ≠ (v131 : Value).ownBlock) (Kd.R_keptB (HO113.out) hkp (fun k_ hk_ hs_ => (hk_.2) hs_)) (fun k_ hk_ => ⟨hk_.1.1, fun e_ => Or.elim (ho0.1 k_ e_.symm) (fun hs_ => hk_.2.1 hs_) (fun hn_ => Nat.not_le.2 hk_.2.2 hn_)⟩)); have n2_ := Aside0.mk (Kd.R_mono (ok' := fun k_ => (P0_ k_ ∨ w.heap.size ≤ k_) ∧ some k_ ≠ (.slice Ao16 t110.length co16 : Value).ownBlock) ho0 (fun k_ hk_ => ⟨Or.elim hk_ (fun hs_ => (HO129.out.1 k_ (hs_).symm).1) (fun hn_ => (.inr (Nat.le_trans (by first | exact HK.out.1 | exact (show Kept w _ (fun k_ => P0_ k_) from by repeat (first | (with_reducible first | exact HK.out | apply Kept.alloc | apply Kept.drewN | apply Kept.drew | refine Kept.setCell ?_ (.inr GW109.out) _) | exact HK.out)).1) hn_))), Or.elim hk_ (fun hs_ => fun e_ => (((HO113.out).1 k_ e_.symm).2) hs_) (fun hn_ => (Kd.fresh' (Kd.R_lt (by (with_reducible repeat (first | apply Kd.R_alloc | apply Kd.R_drewN | apply Kd.R_drew)); exact HO113.out)) k_ hn_))⟩)); have n3_ := Aside0.mk (Kept.then_ (S := (fun k_ => P0_ k_)) (by repeat (first | (with_reducible first | exact HK.out | apply Kept.alloc | apply Kept.drewN | apply Kept.drew | refine Kept.setCell ?_ (.inr GW109.out) _) | exact HK.out)) hkp (fun k_ hs_ => (fun e_ => (HO129.out.1 k_ e_.symm).1) hs_)); have n4_ := Aside0.mk (hb); clear BK109; clear HO113; clear HK; clear HB; clear HO129; have BK109 := n0_; have HO113 := n1_; have HO132 := n2_; have HK := n3_; have HB := n4_; clear n0_ n1_ n2_ n3_ n4_; (try clear hb); (try clear hkp); (try clear ho0)))
        go_ret
        exact ⟨_, by first | rfl | (simp [errW_none, errW_some] <;> rfl) | (simp [*, errW_none, errW_some] <;> rfl), by (with_reducible repeat (first | apply Kd.R_alloc | apply Kd.R_drewN | apply Kd.R_drew)); exact Kd.R_mono HO132.out (fun _ hk => hk.1), by repeat (first | (with_reducible first | exact HB.out | apply below_alloc | apply pw_below_drewN | apply below_drew1 | refine below_set ?_ GE109.out) | exact HB.out), by repeat (first | (with_reducible first | exact HK.out | apply Kept.alloc | apply Kept.drewN | apply Kept.drew | refine Kept.setCell ?_ (.inr GW109.out) _) | exact HK.out)⟩
      · rw [if_neg c8] at H
        exact absurd H (by simp)
    · rw [if_neg c7] at H
      exact absurd H (by simp)
  · rw [if_neg c4] at H
    exact absurd H (by simp)
end Go.Proofs.YteidgpaakoeefaaDoor.PIm
namespace Go.Proofs.YteidgpaakoeefaaDoor
open Go.RowKit Go.Proofs.YteidgpaakoeefaaDoorW.PrintWords Go.Proofs.YteidgpaakoeefaaDoorW.PrintLast Go.Proofs.YteidgpaakoeefaaDoorW.PrintMore
set_option linter.unusedVariables false
set_option linter.unusedSimpArgs false
open PIm
theorem textF_B (t : ByteArray) (h : t.size ≤ 65536) : textF [] t = (textB t, 0) := by
  unfold textF textB
  rw [if_neg (by omega), List.nil_append]
theorem rowI_f (b l : List Int) (q : Int) (hx : ∀ x ∈ l, rngI x) (h2 : l.length ≤ 140737488355318) (hl : (b ++ rowI l).length < 140737488355328) : image_row_int.f b l q = some (b ++ rowI l) := by
  unfold image_row_int.f
  rw [if_pos ⟨by rw [List.append_assoc]; exact hl, h2, hx⟩]
theorem rowC_f (b : List Int) (l : List S50) (q : Int) (hx : ∀ x ∈ l, rngC x) (h2 : l.length ≤ 140737488355318) (hl : (b ++ rowC l).length < 140737488355328) : api_Instr.f b l q = some (b ++ rowC l) := by
  unfold api_Instr.f
  rw [if_pos ⟨by rw [List.append_assoc]; exact hl, h2, hx⟩]
theorem putF_f (b : List Int) (f : S54) (hn : rngF f) (hl : (b ++ putF f).length < 140737488355328) : image_Encode_2.f b f.f0 f.f1 f.f2 f.f3 f.f4 = some (b ++ putF f) := by
  obtain ⟨h0, h1, h2, h3, h4, h5, h6, h7⟩ := hn
  unfold putF at hl
  simp only [List.length_append] at hl
  unfold image_Encode_2.f wire_Text.f
  rw [if_pos ⟨by simp, by omega⟩, textF_B _ h0, Option.bind_some]
  rw [if_pos (show b.length + (textB f.f0).length < 140737488355328 by omega)]
  rw [rowI_f _ f.f1 _ h1 (by omega) (by simp only [List.length_append]; omega), Option.bind_some]
  rw [nat_f _ f.f2 h2 (by simp only [List.length_append]; omega), Option.bind_some]
  rw [if_pos (by omega), if_pos (by omega)]
  rw [show ((f.f1.length : Int) : Int).toNat = f.f1.length from rfl]
  rw [rowI_f _ (f.f3.drop f.f1.length) _ (fun x hx => h3 x (List.mem_of_mem_drop hx)) (by rw [List.length_drop]; omega) (by simp only [List.length_append]; omega), Option.bind_some]
  rw [rowC_f _ f.f4 _ h4 h7 (by simp only [List.length_append]; omega), Option.bind_some]
  simp [putF]
set_option maxHeartbeats 4000000 in
set_option maxRecDepth 100000 in
theorem row_fn (P0_ : Nat → Prop) (v : Value) (b : List Int) (A0 : Option Addr) (c0 : Nat) (l : List S54) (w0 w : World) (hB : Below w0.heap.size w0 w) (ho0 : Kd.R (Kd.int .u8) 5 w w0.heap.size P0_ v b)
    (hr : Kd.C k54 w0 A0 l.length l) (hS : ∀ k, P0_ k → w0.heap.size ≤ k) (hl : (b ++ natB l.length ++ l.flatMap putF).length < 140737488355328) (hll : l.length ≤ 140737488355318) (hx : ∀ x ∈ l, rngF x) :
    Calls Tryd.prog 27 #[v, .slice A0 l.length c0, .func (.func 28) #[] #[]] w fun e w' => ∃ v0_ : Value, e = .returned v0_ ∧ Kd.R (Kd.int .u8) 5 w' w0.heap.size (fun k_ => (P0_ k_ ∨ w.heap.size ≤ k_)) v0_ (b ++ natB l.length ++ l.flatMap putF) ∧ Below w0.heap.size w0 w' ∧ Kept w w' (fun k_ => P0_ k_) := by
  have hnat := image_nat.calls P0_ v b (l.length : Int) _ w0 w hB ho0 (nat_f b l.length ⟨by omega, by omega⟩ (by simp only [List.length_append] at hl ⊢; omega))
  have HR := Aside0.mk hr; have HL := Aside0.mk hl; have HX := Aside0.mk hx; have HS := Aside0.mk hS; have HWW := Aside0.mk hB.size
  clear hr hl hx hB ho0 hS
  go_enter Tryd.func27, Tryd.ntmps27
  go_wp2_with fail
  ((with_reducible refine hnat.mono ?_); rintro e_ w1 ⟨v1, rfl, ho, hb, hk⟩)
  have HO := Aside0.mk ho; have HB := Aside0.mk hb; have HK := Aside0.mk hk
  clear hnat ho hb hk
  go_wp2_with fail
  go_loopw [0, 15] (fun vb vi wr => ∃ (k : Nat), vi = .int .i64 k ∧ Aside0 (k ≤ l.length) ∧ Aside0 (Kd.R (Kd.int .u8) 5 wr w0.heap.size (fun k_ => (P0_ k_ ∨ w.heap.size ≤ k_)) vb (b ++ natB l.length ++ (l.take k).flatMap putF)) ∧ Aside0 (Below w0.heap.size w0 wr) ∧ Aside0 (Kept w wr (fun k_ => P0_ k_))) (fun _ v _ => l.length - (intOf v).toNat)
  case atStart => exact ⟨0, rfl, ⟨Nat.zero_le _⟩, ⟨by simpa using HO.out⟩, HB, HK⟩
  case round =>
    obtain ⟨k, rfl, HN, HO, HB, HK⟩ := hrel
    have hk := HN.out
    by_cases hlt : k < l.length
    · obtain ⟨ad, A1, c1, A3, c3, A4, c4, e, hx0, hx1, hx2, hx3, hx4, g1, h1, g3, h3, g4, h4⟩ := at_T54 HR.out (k : Int) (by omega) (by omega)
      cases e
      have hget : rd_T54 l (k : Int) = l[k] := by
        unfold rd_T54
        simp only [Int.toNat_natCast, List.getD_eq_getElem?_getD]
        rw [List.getElem?_eq_getElem hlt]; rfl
      have hxx : l[k]? = some l[k] := List.getElem?_eq_getElem hlt
      have hrx := HX.out l[k] (List.getElem_mem hlt)
      rw [hget] at hx0 hx1 hx2 hx3 hx4 g1 h1 g3 h3 g4 h4
      simp only [Int.toNat_natCast] at hx0 hx1 hx2 hx3 hx4
      generalize l[k] = x at hx0 hx1 hx2 hx3 hx4 g1 h1 g3 h3 g4 h4 hxx hrx
      have cl : ∀ {a : Addr} {u : Value}, w0.cell? a = some u → wr.cell? a = some u := fun hc => (HB.out.cell (World.block_lt_of_cell? w0 _ hc)).trans hc
      replace hx0 := cl hx0; replace hx1 := cl hx1; replace hx2 := cl hx2; replace hx3 := cl hx3; replace hx4 := cl hx4
      have z1 : decide ((k : Int) < (l.length : Int)) = true := decide_eq_true (by omega)
      have q1 : (0 ≤ (k : Int)) = True := eq_true (by omega)
      have q2 : ((k : Int) < (l.length : Int)) = True := eq_true (by omega)
      have hf := putF_f (b ++ natB l.length ++ (l.take k).flatMap putF) x hrx (by
        have h1 := take_put (put := putF) hxx (b ++ natB l.length)
        have h2 := take_le (put := putF) l (k + 1) (b ++ natB l.length)
        rw [← h1] at h2
        exact Nat.lt_of_le_of_lt h2 HL.out)
      have hSS : ∀ k_, (P0_ k_ ∨ w.heap.size ≤ k_) → w0.heap.size ≤ k_ := fun k_ h_ => h_.elim (HS.out k_) (fun g_ => Nat.le_trans HWW.out g_)
      have hcall := fun W hb ho => image_Encode_2.calls (fun k_ => (P0_ k_ ∨ w.heap.size ≤ k_)) u0 (b ++ natB l.length ++ (l.take k).flatMap putF) x.f0 A1 c1 x.f1 x.f2 A3 c3 x.f3 A4 c4 x.f4 _ w0 W hb ho
        (Kd.C_kept_came (Kd.heap_int .i64) h1 hb hSS) g1 (Kd.C_kept_came (Kd.heap_int .i64) h3 hb hSS) g3 (Kd.C_kept_came k50_heap h4 hb hSS) g4 hf
      have HXX := Lib.hid hxx; have HLT := Lib.hid hlt
      clear hget hxx hrx hf hlt cl hSS g1 h1 g3 h3 g4 h4
      go_wp2_with fail
      ((with_reducible refine (hcall _ (by repeat (first | (with_reducible first | exact HB.out | apply below_alloc | apply pw_below_drewN | apply below_drew1) | exact HB.out)) (by (with_reducible repeat (first | apply Kd.R_alloc | apply Kd.R_drewN | apply Kd.R_drew)); exact HO.out)).mono ?_); rintro e_ w_ ⟨v2, rfl, ho, hb, hkp⟩)
      clear hcall
      have hsz := HK.out.1
      have m1_ := Aside0.mk (Kd.R_mono ho (fun k_ h_ => (h_.elim id (fun g_ => Or.inr (Nat.le_trans hsz (by first | exact g_ | (have g2_ := g_; simp at g2_; omega)))) : P0_ k_ ∨ w.heap.size ≤ k_)))
      have m2_ := Aside0.mk (Kept.then_ (by repeat (first | (with_reducible first | exact HK.out | apply Kept.alloc | apply Kept.drewN | apply Kept.drew) | exact HK.out)) hkp (fun _ h_ => h_))
      have HB2 := Aside0.mk hb
      clear ho hb hkp hsz HO HK HB
      go_wp2
      exact ⟨⟨k + 1, by go_num, ⟨HLT.out⟩, ⟨by rw [← take_put HXX.out]; exact m1_.out⟩, HB2, m2_⟩, by have := HLT.out; simp [intOf]; omega⟩
    · have z1 : decide ((k : Int) < (l.length : Int)) = false := decide_eq_false (by omega)
      obtain rfl : k = l.length := by omega
      go_wp2
      go_ret
      exact ⟨_, rfl, by rw [← List.take_length (l := l)]; simpa using HO.out, HB.out, HK.out⟩
structure Came3 (P0_ : Nat → Prop) (A0 : Option Addr) (l : List S54) (w0 w : World) : Prop where
  row : Kd.C k54 w0 A0 l.length l
  below : Below w0.heap.size w0 w
  new : ∀ k, P0_ k → w0.heap.size ≤ k
def PIm.api_Fn_27.f (b : List Int) (l : List S54) (q : Int) : Option (List Int) := if (b ++ natB l.length ++ l.flatMap putF).length < 140737488355328 ∧ l.length ≤ 140737488355318 ∧ ∀ x ∈ l, rngF x then some (b ++ rowF l) else none
theorem PIm.api_Fn_27.calls (P0_ : Nat → Prop) (u9000_ : Value) (b : List Int) (A0 : Option Addr) (c0 : Nat) (l : List S54) (q : Int) (r : List Int) (w0 w : World) (hB : Below w0.heap.size w0 w) (ho0 : Kd.R (Kd.int .u8) 5 w w0.heap.size P0_ u9000_ b)
    (hr : Came3 P0_ A0 l w0 w) (hc : l.length ≤ c0) (h : PIm.api_Fn_27.f b l q = some r) :
    Calls Tryd.prog 27 #[u9000_, .slice A0 l.length c0, .func (.func 28) #[] #[]] w fun e w' => ∃ v0_ : Value, e = .returned v0_ ∧ Kd.R (Kd.int .u8) 5 w' w0.heap.size (fun k_ => (P0_ k_ ∨ w.heap.size ≤ k_)) v0_ r ∧ Below w0.heap.size w0 w' ∧ Kept w w' (fun k_ => P0_ k_) := by
  unfold PIm.api_Fn_27.f at h
  split at h
  · next hc =>
    obtain rfl := Option.some.inj h
    have := row_fn P0_ u9000_ b A0 c0 l w0 w hB ho0 hr.row hr.new hc.1 hc.2.1 hc.2.2
    rw [List.append_assoc] at this
    exact this
  · cases h
end Go.Proofs.YteidgpaakoeefaaDoor
namespace Go.Proofs.YteidgpaakoeefaaDoor
open Go.RowKit Go.Proofs.YteidgpaakoeefaaDoorW.PrintWords Go.Proofs.YteidgpaakoeefaaDoorW.PrintLast Go.Proofs.YteidgpaakoeefaaDoorW.PrintMore
set_option linter.unusedVariables false
set_option linter.unusedSimpArgs false
open PIm
theorem fullCells {w : World} {a : Addr} {l : List Int} (h : Kd.C (Kd.int .u8) w (some a) l.length l) : ∀ j u, (l.map (Value.int .u8))[j]? = some u → w.cell? (a.add j) = some u := by
  intro j u hj
  rw [List.getElem?_map] at hj
  cases hx : l[j]? with
  | none => rw [hx] at hj; cases hj
  | some x =>
    rw [hx] at hj
    obtain rfl := Option.some.inj hj
    have hjl : j < l.length := (List.getElem?_eq_some_iff.1 hx).1
    obtain ⟨ad, e, hc⟩ := Kd.at_int h (j : Int) (by omega) (by omega)
    cases e
    rw [Int.toNat_natCast, rd_get' hjl, (List.getElem?_eq_some_iff.1 hx).2] at hc
    exact hc
theorem app_run {P : Program} {ops : Array Oper} {rest : List Oper} {o : Oper} {a : Act} {Q : Exit → Act → World → Prop} {W w1 : World} {v1 : Value} (hgd : o.guard = none) (s x : Operand) (t : TypeId)
    (ho : o.op = .call { callee := .builtin .append, args := #[s, x], argTypes := #[t, t] }) {u y : Value} (hs : a.eval s = u) (hx : a.eval x = y)
    (hr1 : (Builtin.append_ #[t, t] o.type #[u, y]).run P W = .ok v1 w1) (h : wpList P ops Q rest (a.put o.dst v1) w1) : wpList P ops Q (o :: rest) a W := by
  refine wpList_plain hgd fun K hK => ?_
  unfold Oper.wp execOp
  simp only [ho, resolve, invoke, builtin, Sem.run_bind, Sem.run_pure, Result.andThen_ok, List.map_toArray, List.map_cons, List.map_nil, hs, hx, hr1]
  exact hK _ _ h
set_option maxHeartbeats 2000000 in
set_option maxRecDepth 100000 in
theorem nat_full (g : Nat) (b : List Int) (n : Int) (w : World) (hr : Kd.C (Kd.int .u8) w (some ⟨g, 0, none⟩) b.length b) (hb1 : b.length ≤ 1000) (hn0 : 0 ≤ n) (hn1 : n ≤ 9223372036854775807) (hpos : 0 < (natB n).length) (hsm : (natB n).length ≤ 1000) :
    Calls Tryd.prog 26 #[.slice (some ⟨g, 0, none⟩) b.length b.length, .int .i64 n] w fun e w' => ∃ v0_ : Value, e = .returned v0_ ∧ Kd.R (Kd.int .u8) 5 w' w.heap.size (fun _ => True) v0_ (b ++ natB n) ∧ Below w.heap.size w w' := by
  have hnum := Num_calls none 0 [] n w (Kd.C_nil _ _) (by simp) (by omega) hn1
  have HR := Aside0.mk hr; have HP := Aside0.mk hpos; have HSM := Aside0.mk hsm
  clear hr hpos hsm
  obtain ⟨i0, hi0, hz0, hsz0, hby0⟩ := info_parts info5
  have HI := Lib.hid hi0
  go_enter Tryd.func26, Tryd.ntmps26
  go_wp2_with fail
  ((refine hnum.mono ?_); rintro e_ w1 ⟨v1, rfl, ho, hb⟩)
  obtain ⟨A1, c1, rfl⟩ := Kd.R_slice ho
  have hrd := (Kd.R_reads' ho).2.2
  have hC0 := Kd.C_below HR.out hb
  have hlen : (numF [] n).1.length = (natB n).length := rfl
  obtain ⟨a1, rfl⟩ : ∃ a1, A1 = some a1 := by
    obtain ⟨ad, e, _⟩ := Kd.at_int hrd 0 (by omega) (by have := HP.out; omega)
    exact ⟨ad, e⟩
  obtain ⟨v2, w2, hrun, hown, hg⟩ := run_append_arg_grows (P := Tryd.prog) (w := w1) 30 30 5 i0 (.int .u8 0) 1 1 Tryd.underlying30 hi0 hz0 hsz0 hby0 rfl (by decide)
    ⟨g, 0, none⟩ b.length b.length (b.map (Value.int .u8)) (by simp) (fullCells hC0) a1 (numF [] n).1.length c1 ((numF [] n).1.map (Value.int .u8)) (by simp) (fullCells hrd) (by have := HP.out; omega) (by have := HSM.out; simp only [maxLen]; omega) (by have := HSM.out; omega)
  have HO := Aside0.mk hown; have HG := Aside0.mk hg; have HB := Aside0.mk hb
  have HRUN := Lib.hid hrun
  clear hnum ho hb hrd hC0 hown hg hi0 hz0 hsz0 hby0 hrun
  go_wp2_with (first | ((with_reducible refine gate_builtin (b := .append) (xs := #[.tmp 12, .tmp 13]) rfl ?_); at_builtin; refine app_run rfl (.tmp 12) (.tmp 13) 30 rfl rfl rfl HRUN.out ?_))
  go_ret
  refine ⟨_, rfl, ?_, ?_⟩
  · have h := HO.out
    rw [← List.map_append] at h
    exact Kd.R_lower (Kd.R_of_own (enc := Value.int .u8) (h1 := fun _ => rfl) (by rw [List.length_append]; exact h) (fun _ _ => trivial)) HB.out.size
  · exact below_step HB.out (by
      have hgg := HG.out
      exact ⟨hgg.os, hgg.tape, hgg.output, hgg.size, fun k hk => hgg.block k hk (fun e => by cases e)⟩)
end Go.Proofs.YteidgpaakoeefaaDoor
namespace Go.Proofs.YteidgpaakoeefaaDoor
open Go.RowKit Go.Proofs.YteidgpaakoeefaaDoorW.PrintWords Go.Proofs.YteidgpaakoeefaaDoorW.PrintLast Go.Proofs.YteidgpaakoeefaaDoorW.PrintMore
set_option linter.unusedVariables false
set_option linter.unusedSimpArgs false
open PIm
set_option maxHeartbeats 4000000 in
set_option maxRecDepth 100000 in
theorem row_glo_full (g : Nat) (b : List Int) (A0 : Option Addr) (c0 : Nat) (l : List S48) (w0 w : World) (hB : Below w0.heap.size w0 w) (hfull : Kd.C (Kd.int .u8) w (some ⟨g, 0, none⟩) b.length b) (hb1 : b.length ≤ 1000) (hpos : 0 < (natB l.length).length) (hsm : (natB l.length).length ≤ 1000)
    (hr0 : Kd.C k48 w0 A0 l.length l) (hl : (b ++ natB l.length ++ l.flatMap putG).length < 140737488355328) (hll : l.length ≤ 140737488355318) (hx : ∀ x ∈ l, rngG x) :
    Calls Tryd.prog 23 #[.slice (some ⟨g, 0, none⟩) b.length b.length, .slice A0 l.length c0, .func (.func 24) #[] #[]] w fun e w' => ∃ v0_ : Value, e = .returned v0_ ∧ Kd.R (Kd.int .u8) 5 w' w0.heap.size (fun k_ => (False ∨ w.heap.size ≤ k_)) v0_ (b ++ natB l.length ++ l.flatMap putG) ∧ Below w0.heap.size w0 w' ∧ Kept w w' (fun _ => False) := by
  have hnat := nat_full g b (l.length : Int) w hfull hb1 (by omega) (by omega) hpos hsm
  have hr : ∀ W', Kept w W' (fun _ => False) → Kd.C k48 W' A0 l.length l := Kd.C_kept_came k48_heap hr0 hB (fun _ h => h.elim)
  have hBw := hB.size
  have HB0 := Aside0.mk hB
  have HR := Aside0.mk hr; have HL := Aside0.mk hl; have HX := Aside0.mk hx
  clear hr hl hx hB hr0 hfull hpos hsm
  go_enter Tryd.func23, Tryd.ntmps23
  go_wp2_with fail
  ((with_reducible refine hnat.mono ?_); rintro e_ w1 ⟨v1, rfl, ho, hb⟩)
  have HO := Aside0.mk (Kd.R_lower (Kd.R_mono (Kd.R_bound ho) (fun k_ h_ => (Or.inr h_.2.1 : False ∨ w.heap.size ≤ k_))) hBw); have HB := Aside0.mk (below_step HB0.out hb); have HK := Aside0.mk (Kept.of_below hb (fun _ => False))
  clear hnat ho hb HB0
  go_wp2_with fail
  go_loopw [0, 15] (fun vb vi wr => ∃ (k : Nat), vi = .int .i64 k ∧ Aside0 (k ≤ l.length) ∧ Aside0 (Kd.R (Kd.int .u8) 5 wr w0.heap.size (fun k_ => (False ∨ w.heap.size ≤ k_)) vb (b ++ natB l.length ++ (l.take k).flatMap putG)) ∧ Aside0 (Below w0.heap.size w0 wr) ∧ Aside0 (Kept w wr (fun _ => False))) (fun _ v _ => l.length - (intOf v).toNat)
  case atStart => exact ⟨0, rfl, ⟨Nat.zero_le _⟩, ⟨by simpa using HO.out⟩, HB, HK⟩
  case round =>
    obtain ⟨k, rfl, HN, HO, HB, HK⟩ := hrel
    have hk := HN.out
    by_cases hlt : k < l.length
    · have hC := HR.out _ HK.out
      obtain ⟨ad, e, hx0, hx1, hx2⟩ := at_T48 hC (k : Int) (by omega) (by omega)
      cases e
      have hget : rd_T48 l (k : Int) = l[k] := by
        unfold rd_T48
        simp only [Int.toNat_natCast, List.getD_eq_getElem?_getD]
        rw [List.getElem?_eq_getElem hlt]; rfl
      have hxx : l[k]? = some l[k] := List.getElem?_eq_getElem hlt
      have hrx := HX.out l[k] (List.getElem_mem hlt)
      rw [hget] at hx0 hx1 hx2
      simp only [Int.toNat_natCast] at hx0 hx1 hx2
      generalize l[k] = x at hx0 hx1 hx2 hxx hrx
      have z1 : decide ((k : Int) < (l.length : Int)) = true := decide_eq_true (by omega)
      have q1 : (0 ≤ (k : Int)) = True := eq_true (by omega)
      have q2 : ((k : Int) < (l.length : Int)) = True := eq_true (by omega)
      have hf := putG_f (b ++ natB l.length ++ (l.take k).flatMap putG) x hrx (by
        have h1 := take_put (put := putG) hxx (b ++ natB l.length)
        have h2 := take_le (put := putG) l (k + 1) (b ++ natB l.length)
        rw [← h1] at h2
        exact Nat.lt_of_le_of_lt h2 HL.out)
      have hcall := fun W hb ho => image_Encode_1.calls (fun k_ => (False ∨ w.heap.size ≤ k_)) u0 (b ++ natB l.length ++ (l.take k).flatMap putG) x.f0 x.f1 x.f2 _ w0 W hb ho hf
      have HXX := Lib.hid hxx; have HLT := Lib.hid hlt
      clear hC hget hxx hrx hf hlt
      go_wp2_with fail
      ((with_reducible refine (hcall _ (by repeat (first | (with_reducible first | exact HB.out | apply below_alloc | apply pw_below_drewN | apply below_drew1) | exact HB.out)) (by (with_reducible repeat (first | apply Kd.R_alloc | apply Kd.R_drewN | apply Kd.R_drew)); exact HO.out)).mono ?_); rintro e_ w_ ⟨v2, rfl, ho, hb, hkp⟩)
      clear hcall
      have hsz := HK.out.1
      have m1_ := Aside0.mk (Kd.R_mono ho (fun k_ h_ => (h_.elim id (fun g_ => Or.inr (Nat.le_trans hsz (by first | exact g_ | (have g2_ := g_; simp at g2_; omega)))) : False ∨ w.heap.size ≤ k_)))
      have m2_ := Aside0.mk (Kept.then_ (by repeat (first | (with_reducible first | exact HK.out | apply Kept.alloc | apply Kept.drewN | apply Kept.drew) | exact HK.out)) hkp (fun _ h_ => h_))
      have HB2 := Aside0.mk hb
      clear ho hb hkp hsz HO HK HB
      go_wp2
      exact ⟨⟨k + 1, by go_num, ⟨HLT.out⟩, ⟨by rw [← take_put HXX.out]; exact m1_.out⟩, HB2, m2_⟩, by have := HLT.out; simp [intOf]; omega⟩
    · have z1 : decide ((k : Int) < (l.length : Int)) = false := decide_eq_false (by omega)
      obtain rfl : k = l.length := by omega
      go_wp2
      go_ret
      exact ⟨_, rfl, by rw [← List.take_length (l := l)]; simpa using HO.out, HB.out, HK.out⟩
end Go.Proofs.YteidgpaakoeefaaDoor
namespace Go.Proofs.YteidgpaakoeefaaDoor
open Go.RowKit Go.Proofs.YteidgpaakoeefaaDoorW.PrintWords Go.Proofs.YteidgpaakoeefaaDoorW.PrintLast Go.Proofs.YteidgpaakoeefaaDoorW.PrintMore
set_option linter.unusedVariables false
open PIm
theorem natB_len {n : Int} (h : 0 ≤ n) (h1 : n ≤ 9223372036854775807) : 0 < (natB n).length ∧ (natB n).length ≤ 1000 := by
  have e : natB n = venc n.toNat := by unfold natB numF; rw [if_neg (by omega)]; simp
  rw [e]
  exact ⟨venc_pos _, Nat.le_trans (venc_len64 (by omega)) (by decide)⟩
theorem glob23_cond {b : List Int} {l : List S48} {q : Int} {r : List Int} (h : api_Glob_23.f b l q = some r) :
    b ++ natB l.length ++ l.flatMap putG = r ∧ 0 < (natB l.length).length ∧ (natB l.length).length ≤ 1000 ∧ (b ++ natB l.length ++ l.flatMap putG).length < 140737488355328 ∧ l.length ≤ 140737488355318 ∧ ∀ x ∈ l, rngG x := by
  unfold api_Glob_23.f at h
  split at h
  · next hc =>
    have := natB_len (n := (l.length : Int)) (by omega) (by have := hc.2.1; omega)
    exact ⟨by rw [List.append_assoc]; exact Option.some.inj h, this.1, this.2, hc.1, hc.2.1, hc.2.2⟩
  · cases h
end Go.Proofs.YteidgpaakoeefaaDoor
namespace Go.Proofs.YteidgpaakoeefaaDoor.PIm
open Go.RowKit Go.Proofs.YteidgpaakoeefaaDoorW.PrintWords Go.Proofs.YteidgpaakoeefaaDoorW.PrintLast Go.Proofs.YteidgpaakoeefaaDoorW.PrintMore
attribute [local go_sem] max2_int min2_int max_two min_two max_three min_three max_four min_four   -- for this text's walks alone
set_option linter.unusedVariables false
set_option linter.unusedSimpArgs false
def image_ok.f (l0_0 : List (S48)) (l0_1 : List (S54)) : Option (Bool) := if (l0_0.length : Int) ≤ 64 then (if (l0_1.length : Int) ≤ 64 then ((api_Glob_52.f l0_0 53).bind fun t162 => (if t162 = true then (some false) else ((api_Fn_55.f l0_1 56).bind fun t163 => (some (!t163))))) else (some false)) else (some false)
set_option maxHeartbeats 8000000 in
set_option maxRecDepth 100000 in
theorem image_ok.calls (A0_0 : Option Addr) (c0_0 : Nat) (l0_0 : List (S48)) (A0_1 : Option Addr) (c0_1 : Nat) (l0_1 : List (S54)) (r : Bool) (w : World) (hr0_0 : Kd.C k48 w A0_0 l0_0.length l0_0) (hc0_0 : l0_0.length ≤ c0_0) (hr0_1 : Kd.C k54 w A0_1 l0_1.length l0_1) (hc0_1 : l0_1.length ≤ c0_1) (h : image_ok.f l0_0 l0_1 = some r) :
    Calls Tryd.prog 22 #[.agg #[.slice A0_0 l0_0.length c0_0, .slice A0_1 l0_1.length c0_1]] w fun e w' => e = .returned (.bool r) ∧ Below w.heap.size w w' := by
  have hu25 := Tryd.underlying25
  have HR0_0 := Aside0.mk hr0_0
  have HC0_0 := Aside0.mk hc0_0
  clear hr0_0 hc0_0
  have HR0_1 := Aside0.mk hr0_1
  have HC0_1 := Aside0.mk hc0_1
  clear hr0_1 hc0_1
  have HB := Aside0.mk (Below.refl w.heap.size w)
  have H : (if (l0_0.length : Int) ≤ 64 then (if (l0_1.length : Int) ≤ 64 then ((api_Glob_52.f l0_0 53).bind fun t162 => (if t162 = true then (some false) else ((api_Fn_55.f l0_1 56).bind fun t163 => (some (!t163))))) else (some false)) else (some false)) = some r := h
  clear h
  by_cases c2 : (l0_0.length : Int) ≤ 64
  · rw [if_pos c2] at H
    have c2b0 : decide ((l0_0.length : Int) ≤ 64) = true := decide_eq_true c2
    have c2b1 : decide (l0_0.length ≤ 64) = true := decide_eq_true (by omega)
    clear c2
    by_cases c3 : (l0_1.length : Int) ≤ 64
    · rw [if_pos c3] at H
      have c3b0 : decide ((l0_1.length : Int) ≤ 64) = true := decide_eq_true c3
      have c3b1 : decide (l0_1.length ≤ 64) = true := decide_eq_true (by omega)
      clear c3
      replace H := Option.bind_eq_some_iff.mp H
      obtain ⟨t162, A40, H⟩ := H
      replace H : (if t162 = true then (some false) else ((api_Fn_55.f l0_1 56).bind fun t163 => (some (!t163)))) = some r := H
      have A4 := Aside0.mk A40
      clear A40
      by_cases c5 : t162 = true
      · subst c5
        have H1 : (some false) = some r := by rw [if_pos rfl] at H; exact H
        clear H
        have H := H1
        clear H1
        obtain rfl := Option.some.inj H
        go_enter Tryd.func22, Tryd.ntmps22
        go_wp2_with (first | ((with_reducible refine gate_dst (N := 1) rfl ?_); (try (refine gate_guard (by rfl) ?_; dsimp only)); refine box_event ?hg (N := 1) ?hd (cs := #[.slice A0_0 l0_0.length c0_0, .slice A0_1 l0_1.length c0_1]) (t := 25) ?hr ?_; (case hd => rfl); (case hg => rfl); (case hr => first | (go_simp; done) | (go_simp; rfl)); intro gb161 hg w6 hbox hb; have n0_ := Aside0.mk (below_step (by repeat (first | (with_reducible first | exact HB.out | apply below_alloc | apply pw_below_drewN | apply below_drew1) | exact HB.out)) hb); have n1_ := Aside0.mk (hbox); have n2_ := Aside0.mk ((by rw [hg]; exact (below_size (by repeat (first | (with_reducible first | exact HB.out | apply below_alloc | apply pw_below_drewN | apply below_drew1) | exact HB.out))) : w.heap.size ≤ gb161)); have n3_ := Aside0.mk ((by rw [hg]; exact (below_size (by repeat (first | (with_reducible first | exact HB.out | apply below_alloc | apply pw_below_drewN | apply below_drew1) | exact HB.out))) : w.heap.size ≤ gb161)); clear HB; have HB := n0_; have BK161 := n1_; have GW161 := n2_; have GE161 := n3_; clear n0_ n1_ n2_ n3_; clear hb hbox hg; have hcz7_0 : w6.cell? ⟨gb161, 0, none⟩ = some (.slice A0_0 l0_0.length c0_0) := (blk_cell BK161.out 0).trans rfl; have hcz7_1 : w6.cell? ⟨gb161, 1, none⟩ = some (.slice A0_1 l0_1.length c0_1) := (blk_cell BK161.out 1).trans rfl; have hfz7_0 := blk_frozen BK161.out 0; have hfz7_1 := blk_frozen BK161.out 1) | (go_at_call 52; (with_reducible refine (api_Glob_52.calls _ _ l0_0 53 true _ ?side1 ?side2 A4.out).mono ?_); (case side1 => repeat (first | exact (Kd.C_below HR0_0.out HB.out) | (with_reducible refine Kd.C_alloc ?_ _) | (with_reducible refine Kd.C_drewN ?_ _) | (with_reducible refine Kd.C_drew ?_))); (case side2 => exact HC0_0.out); rintro e w8 ⟨rfl, hb⟩; have n0_ := Aside0.mk (blk_below (g := gb161) (o := .cells #[.slice A0_0 l0_0.length c0_0, .slice A0_1 l0_1.length c0_1] 25 (0, 0)) (by (with_reducible repeat (first | refine blk_drewN ?_ _ | refine blk_drew ?_ | refine blk_alloc ?_ _)); exact BK161.out) hb); have n1_ := Aside0.mk (below_step (by repeat (first | (with_reducible first | exact HB.out | apply below_alloc | apply pw_below_drewN | apply below_drew1 | refine below_set ?_ GE161.out) | exact HB.out)) hb); clear BK161; clear HB; have BK161 := n0_; have HB := n1_; clear n0_ n1_; (try clear hb); (try clear hb2); (try clear hk); (try clear hi)))
        go_ret
        exact ⟨by first | rfl | (simp [errW_none, errW_some] <;> rfl) | (simp [*, errW_none, errW_some] <;> rfl), by repeat (first | (with_reducible first | exact HB.out | apply below_alloc | apply pw_below_drewN | apply below_drew1 | refine below_set ?_ GE161.out) | exact HB.out)⟩
      · replace c5 := Bool.eq_false_iff.mpr c5
        subst c5
        have H1 : ((api_Fn_55.f l0_1 56).bind fun t163 => (some (!t163))) = some r := by rw [if_neg (show ¬ (false = true) by decide)] at H; exact H
        clear H
        have H := H1
        clear H1
        replace H := Option.bind_eq_some_iff.mp H
        obtain ⟨t163, A90, H⟩ := H
        replace H : (some (!t163)) = some r := H
        have A9 := Aside0.mk A90
        clear A90
        obtain rfl := Option.some.inj H
        go_enter Tryd.func22, Tryd.ntmps22
        go_wp2_with (first | ((with_reducible refine gate_dst (N := 1) rfl ?_); (try (refine gate_guard (by rfl) ?_; dsimp only)); refine box_event ?hg (N := 1) ?hd (cs := #[.slice A0_0 l0_0.length c0_0, .slice A0_1 l0_1.length c0_1]) (t := 25) ?hr ?_; (case hd => rfl); (case hg => rfl); (case hr => first | (go_simp; done) | (go_simp; rfl)); intro gb161 hg w10 hbox hb; have n0_ := Aside0.mk (below_step (by repeat (first | (with_reducible first | exact HB.out | apply below_alloc | apply pw_below_drewN | apply below_drew1) | exact HB.out)) hb); have n1_ := Aside0.mk (hbox); have n2_ := Aside0.mk ((by rw [hg]; exact (below_size (by repeat (first | (with_reducible first | exact HB.out | apply below_alloc | apply pw_below_drewN | apply below_drew1) | exact HB.out))) : w.heap.size ≤ gb161)); have n3_ := Aside0.mk ((by rw [hg]; exact (below_size (by repeat (first | (with_reducible first | exact HB.out | apply below_alloc | apply pw_below_drewN | apply below_drew1) | exact HB.out))) : w.heap.size ≤ gb161)); clear HB; have HB := n0_; have BK161 := n1_; have GW161 := n2_; have GE161 := n3_; clear n0_ n1_ n2_ n3_; clear hb hbox hg; have hcz11_0 : w10.cell? ⟨gb161, 0, none⟩ = some (.slice A0_0 l0_0.length c0_0) := (blk_cell BK161.out 0).trans rfl; have hcz11_1 : w10.cell? ⟨gb161, 1, none⟩ = some (.slice A0_1 l0_1.length c0_1) := (blk_cell BK161.out 1).trans rfl; have hfz11_0 := blk_frozen BK161.out 0; have hfz11_1 := blk_frozen BK161.out 1) | (go_at_call 52; (with_reducible refine (api_Glob_52.calls _ _ l0_0 53 false _ ?side1 ?side2 A4.out).mono ?_); (case side1 => repeat (first | exact (Kd.C_below HR0_0.out HB.out) | (with_reducible refine Kd.C_alloc ?_ _) | (with_reducible refine Kd.C_drewN ?_ _) | (with_reducible refine Kd.C_drew ?_))); (case side2 => exact HC0_0.out); rintro e w12 ⟨rfl, hb⟩; have n0_ := Aside0.mk (blk_below (g := gb161) (o := .cells #[.slice A0_0 l0_0.length c0_0, .slice A0_1 l0_1.length c0_1] 25 (0, 0)) (by (with_reducible repeat (first | refine blk_drewN ?_ _ | refine blk_drew ?_ | refine blk_alloc ?_ _)); exact BK161.out) hb); have n1_ := Aside0.mk (below_step (by repeat (first | (with_reducible first | exact HB.out | apply below_alloc | apply pw_below_drewN | apply below_drew1 | refine below_set ?_ GE161.out) | exact HB.out)) hb); clear BK161; clear HB; have BK161 := n0_; have HB := n1_; clear n0_ n1_; (try clear hb); (try clear hb2); (try clear hk); (try clear hi); have hcz13_0 : w12.cell? ⟨gb161, 0, none⟩ = some (.slice A0_0 l0_0.length c0_0) := (blk_cell BK161.out 0).trans rfl; have hcz13_1 : w12.cell? ⟨gb161, 1, none⟩ = some (.slice A0_1 l0_1.length c0_1) := (blk_cell BK161.out 1).trans rfl; have hfz13_0 := blk_frozen BK161.out 0; have hfz13_1 := blk_frozen BK161.out 1) | (go_at_call 55; (with_reducible refine (api_Fn_55.calls _ _ l0_1 56 t163 _ ?side1 ?side2 A9.out).mono ?_); (case side1 => repeat (first | exact (Kd.C_below HR0_1.out HB.out) | (with_reducible refine Kd.C_alloc ?_ _) | (with_reducible refine Kd.C_drewN ?_ _) | (with_reducible refine Kd.C_drew ?_))); (case side2 => exact HC0_1.out); rintro e w14 ⟨rfl, hb⟩; have n0_ := Aside0.mk (blk_below (g := gb161) (o := .cells #[.slice A0_0 l0_0.length c0_0, .slice A0_1 l0_1.length c0_1] 25 (0, 0)) (by (with_reducible repeat (first | refine blk_drewN ?_ _ | refine blk_drew ?_ | refine blk_alloc ?_ _)); exact BK161.out) hb); have n1_ := Aside0.mk (below_step (by repeat (first | (with_reducible first | exact HB.out | apply below_alloc | apply pw_below_drewN | apply below_drew1 | refine below_set ?_ GE161.out) | exact HB.out)) hb); clear BK161; clear HB; have BK161 := n0_; have HB := n1_; clear n0_ n1_; (try clear hb); (try clear hb2); (try clear hk); (try clear hi)))
        go_ret
        exact ⟨by first | rfl | (simp [errW_none, errW_some] <;> rfl) | (simp [*, errW_none, errW_some] <;> rfl), by repeat (first | (with_reducible first | exact HB.out | apply below_alloc | apply pw_below_drewN | apply below_drew1 | refine below_set ?_ GE161.out) | exact HB.out)⟩
    · rw [if_neg c3] at H
      have c3b0 : decide ((l0_1.length : Int) ≤ 64) = false := decide_eq_false c3
      have c3b1 : decide (l0_1.length ≤ 64) = false := decide_eq_false (by omega)
      clear c3
      obtain rfl := Option.some.inj H
      go_enter Tryd.func22, Tryd.ntmps22
      go_wp2_with (first | ((with_reducible refine gate_dst (N := 1) rfl ?_); (try (refine gate_guard (by rfl) ?_; dsimp only)); refine box_event ?hg (N := 1) ?hd (cs := #[.slice A0_0 l0_0.length c0_0, .slice A0_1 l0_1.length c0_1]) (t := 25) ?hr ?_; (case hd => rfl); (case hg => rfl); (case hr => first | (go_simp; done) | (go_simp; rfl)); intro gb161 hg w15 hbox hb; have n0_ := Aside0.mk (below_step (by repeat (first | (with_reducible first | exact HB.out | apply below_alloc | apply pw_below_drewN | apply below_drew1) | exact HB.out)) hb); have n1_ := Aside0.mk (hbox); have n2_ := Aside0.mk ((by rw [hg]; exact (below_size (by repeat (first | (with_reducible first | exact HB.out | apply below_alloc | apply pw_below_drewN | apply below_drew1) | exact HB.out))) : w.heap.size ≤ gb161)); have n3_ := Aside0.mk ((by rw [hg]; exact (below_size (by repeat (first | (with_reducible first | exact HB.out | apply below_alloc | apply pw_below_drewN | apply below_drew1) | exact HB.out))) : w.heap.size ≤ gb161)); clear HB; have HB := n0_; have BK161 := n1_; have GW161 := n2_; have GE161 := n3_; clear n0_ n1_ n2_ n3_; clear hb hbox hg; have hcz16_0 : w15.cell? ⟨gb161, 0, none⟩ = some (.slice A0_0 l0_0.length c0_0) := (blk_cell BK161.out 0).trans rfl; have hcz16_1 : w15.cell? ⟨gb161, 1, none⟩ = some (.slice A0_1 l0_1.length c0_1) := (blk_cell BK161.out 1).trans rfl; have hfz16_0 := blk_frozen BK161.out 0; have hfz16_1 := blk_frozen BK161.out 1))
      go_ret
      exact ⟨by first | rfl | (simp [errW_none, errW_some] <;> rfl) | (simp [*, errW_none, errW_some] <;> rfl), by repeat (first | (with_reducible first | exact HB.out | apply below_alloc | apply pw_below_drewN | apply below_drew1 | refine below_set ?_ GE161.out) | exact HB.out)⟩
  · rw [if_neg c2] at H
    have c2b0 : decide ((l0_0.length : Int) ≤ 64) = false := decide_eq_false c2
    have c2b1 : decide (l0_0.length ≤ 64) = false := decide_eq_false (by omega)
    clear c2
    obtain rfl := Option.some.inj H
    go_enter Tryd.func22, Tryd.ntmps22
    go_wp2_with (first | ((with_reducible refine gate_dst (N := 1) rfl ?_); (try (refine gate_guard (by rfl) ?_; dsimp only)); refine box_event ?hg (N := 1) ?hd (cs := #[.slice A0_0 l0_0.length c0_0, .slice A0_1 l0_1.length c0_1]) (t := 25) ?hr ?_; (case hd => rfl); (case hg => rfl); (case hr => first | (go_simp; done) | (go_simp; rfl)); intro gb161 hg w17 hbox hb; have n0_ := Aside0.mk (below_step (by repeat (first | (with_reducible first | exact HB.out | apply below_alloc | apply pw_below_drewN | apply below_drew1) | exact HB.out)) hb); have n1_ := Aside0.mk (hbox); have n2_ := Aside0.mk ((by rw [hg]; exact (below_size (by repeat (first | (with_reducible first | exact HB.out | apply below_alloc | apply pw_below_drewN | apply below_drew1) | exact HB.out))) : w.heap.size ≤ gb161)); have n3_ := Aside0.mk ((by rw [hg]; exact (below_size (by repeat (first | (with_reducible first | exact HB.out | apply below_alloc | apply pw_below_drewN | apply below_drew1) | exact HB.out))) : w.heap.size ≤ gb161)); clear HB; have HB := n0_; have BK161 := n1_; have GW161 := n2_; have GE161 := n3_; clear n0_ n1_ n2_ n3_; clear hb hbox hg; have hcz18_0 : w17.cell? ⟨gb161, 0, none⟩ = some (.slice A0_0 l0_0.length c0_0) := (blk_cell BK161.out 0).trans rfl; have hcz18_1 : w17.cell? ⟨gb161, 1, none⟩ = some (.slice A0_1 l0_1.length c0_1) := (blk_cell BK161.out 1).trans rfl; have hfz18_0 := blk_frozen BK161.out 0; have hfz18_1 := blk_frozen BK161.out 1))
    go_ret
    exact ⟨by first | rfl | (simp [errW_none, errW_some] <;> rfl) | (simp [*, errW_none, errW_some] <;> rfl), by repeat (first | (with_reducible first | exact HB.out | apply below_alloc | apply pw_below_drewN | apply below_drew1 | refine below_set ?_ GE161.out) | exact HB.out)⟩
def image_Encode.f (l0_0 : List (S48)) (l0_1 : List (S54)) : Option (List Int × Int) := (image_ok.f l0_0 l0_1).bind fun t165 => (if t165 = true then ((api_Glob_23.f (([84, 73, 76, 84] : List Int)) l0_0 24).bind fun t169 => ((api_Fn_27.f t169 l0_1 28).bind fun t172 => ((wire_Frame.f t172).bind fun t175 => (if (t175.length : Int) > 1048576 then (some (([] : List Int), 2)) else (some (t175, 0)))))) else (some (([] : List Int), 150)))
set_option maxHeartbeats 8000000 in
set_option maxRecDepth 100000 in
theorem image_Encode.calls (A0_0 : Option Addr) (c0_0 : Nat) (l0_0 : List (S48)) (A0_1 : Option Addr) (c0_1 : Nat) (l0_1 : List (S54)) (r1 : List Int) (r2 : Int) (w : World) (hr0_0 : Kd.C k48 w A0_0 l0_0.length l0_0) (hc0_0 : l0_0.length ≤ c0_0) (hr0_1 : Kd.C k54 w A0_1 l0_1.length l0_1) (hc0_1 : l0_1.length ≤ c0_1) (h : image_Encode.f l0_0 l0_1 = some (r1, r2)) (hW : Tab w) :
    Calls Tryd.prog 11 #[.agg #[.slice A0_0 l0_0.length c0_0, .slice A0_1 l0_1.length c0_1]] w fun e w' => ∃ v0_ : Value, e = .returned (.tuple #[v0_, .int .i64 r2]) ∧ Kd.R (Kd.int .u8) 5 w' w.heap.size (fun _ => True) v0_ r1 ∧ Below w.heap.size w w' := by
  have hu25 := Tryd.underlying25
  have HR0_0 := Aside0.mk hr0_0
  have HC0_0 := Aside0.mk hc0_0
  clear hr0_0 hc0_0
  have HR0_1 := Aside0.mk hr0_1
  have HC0_1 := Aside0.mk hc0_1
  clear hr0_1 hc0_1
  have HB := Aside0.mk (Below.refl w.heap.size w)
  have HWX := Aside0.mk hW
  clear hW
  have H : ((image_ok.f l0_0 l0_1).bind fun t165 => (if t165 = true then ((api_Glob_23.f (([84, 73, 76, 84] : List Int)) l0_0 24).bind fun t169 => ((api_Fn_27.f t169 l0_1 28).bind fun t172 => ((wire_Frame.f t172).bind fun t175 => (if (t175.length : Int) > 1048576 then (some (([] : List Int), 2)) else (some (t175, 0)))))) else (some (([] : List Int), 150)))) = some (r1, r2) := h
  clear h
  replace H := Option.bind_eq_some_iff.mp H
  obtain ⟨t165, A20, H⟩ := H
  replace H : (if t165 = true then ((api_Glob_23.f (([84, 73, 76, 84] : List Int)) l0_0 24).bind fun t169 => ((api_Fn_27.f t169 l0_1 28).bind fun t172 => ((wire_Frame.f t172).bind fun t175 => (if (t175.length : Int) > 1048576 then (some (([] : List Int), 2)) else (some (t175, 0)))))) else (some (([] : List Int), 150))) = some (r1, r2) := H
  have A2 := Aside0.mk A20
  clear A20
  by_cases c3 : t165 = true
  · subst c3
    have H1 : ((api_Glob_23.f (([84, 73, 76, 84] : List Int)) l0_0 24).bind fun t169 => ((api_Fn_27.f t169 l0_1 28).bind fun t172 => ((wire_Frame.f t172).bind fun t175 => (if (t175.length : Int) > 1048576 then (some (([] : List Int), 2)) else (some (t175, 0)))))) = some (r1, r2) := by rw [if_pos rfl] at H; exact H
    clear H
    have H := H1
    clear H1
    obtain ⟨y166, hy166⟩ : ∃ y_ : List Int, y_ = (([84, 73, 76, 84] : List Int)) := ⟨_, rfl⟩
    replace H : ((api_Glob_23.f y166 l0_0 24).bind fun t169 => ((api_Fn_27.f t169 l0_1 28).bind fun t172 => ((wire_Frame.f t172).bind fun t175 => (if (t175.length : Int) > 1048576 then (some (([] : List Int), 2)) else (some (t175, 0)))))) = some (r1, r2) := by first | (rw [hy166]; with_reducible exact H) | (have H2_ := (Option.bind_some _ _).symm.trans H; rw [hy166]; with_reducible exact H2_) | (have H2_ := (Option.bind_some _ _).symm.trans H; with_reducible exact H2_) | with_reducible exact H | (rw [hy166]; exact H) | exact H
    have Ny166 := Aside0.mk hy166
    clear hy166
    replace H := Option.bind_eq_some_iff.mp H
    obtain ⟨t169, A40, H⟩ := H
    replace H : ((api_Fn_27.f t169 l0_1 28).bind fun t172 => ((wire_Frame.f t172).bind fun t175 => (if (t175.length : Int) > 1048576 then (some (([] : List Int), 2)) else (some (t175, 0))))) = some (r1, r2) := H
    have A4 := Aside0.mk A40
    clear A40
    replace H := Option.bind_eq_some_iff.mp H
    obtain ⟨t172, A50, H⟩ := H
    replace H : ((wire_Frame.f t172).bind fun t175 => (if (t175.length : Int) > 1048576 then (some (([] : List Int), 2)) else (some (t175, 0)))) = some (r1, r2) := H
    have A5 := Aside0.mk A50
    clear A50
    replace H := Option.bind_eq_some_iff.mp H
    obtain ⟨t175, A60, H⟩ := H
    replace H : (if (t175.length : Int) > 1048576 then (some (([] : List Int), 2)) else (some (t175, 0))) = some (r1, r2) := H
    have A6 := Aside0.mk A60
    clear A60
    by_cases c7 : (t175.length : Int) > 1048576
    · rw [if_pos c7] at H
      have c7b0 : decide (1048576 < (t175.length : Int)) = true := decide_eq_true c7
      have c7b1 : decide (1048576 < t175.length) = true := decide_eq_true (by omega)
      clear c7
      simp only [Option.some.injEq, Prod.mk.injEq] at H
      obtain ⟨rfl, rfl⟩ := H
      try have G23 := Aside0.mk (glob23_cond (Ny166.out ▸ A4.out))
      have hcm := fun W => conv_mark W #[.int .u8 84, .int .u8 73, .int .u8 76, .int .u8 84] 4
      go_enter Tryd.func11, Tryd.ntmps11
      go_wp2_with (first | ((with_reducible refine gate_dst (N := 1) rfl ?_); refine box_event ?hg (N := 1) ?hd (cs := #[.slice A0_0 l0_0.length c0_0, .slice A0_1 l0_1.length c0_1]) (t := 25) ?hr ?_; (case hd => rfl); (case hg => rfl); (case hr => first | (go_simp; done) | (go_simp; rfl)); intro gb164 hg w8 hbox hb; have n0_ := Aside0.mk (below_step (by repeat (first | (with_reducible first | exact HB.out | apply below_alloc | apply pw_below_drewN | apply below_drew1) | exact HB.out)) hb); have n1_ := Aside0.mk (hbox); have n2_ := Aside0.mk ((by rw [hg]; exact (below_size (by repeat (first | (with_reducible first | exact HB.out | apply below_alloc | apply pw_below_drewN | apply below_drew1) | exact HB.out))) : w.heap.size ≤ gb164)); have n3_ := Aside0.mk ((by rw [hg]; exact (below_size (by repeat (first | (with_reducible first | exact HB.out | apply below_alloc | apply pw_below_drewN | apply below_drew1) | exact HB.out))) : w.heap.size ≤ gb164)); clear HB; have HB := n0_; have BK164 := n1_; have GW164 := n2_; have GE164 := n3_; clear n0_ n1_ n2_ n3_; clear hb hbox hg; have hcz9_0 : w8.cell? ⟨gb164, 0, none⟩ = some (.slice A0_0 l0_0.length c0_0) := (blk_cell BK164.out 0).trans rfl; have hcz9_1 : w8.cell? ⟨gb164, 1, none⟩ = some (.slice A0_1 l0_1.length c0_1) := (blk_cell BK164.out 1).trans rfl; have hfz9_0 := blk_frozen BK164.out 0; have hfz9_1 := blk_frozen BK164.out 1) | ((with_reducible refine gate_callee (f := 22) rfl ?_); refine goesL_ (some 6) rfl rfl Tryd.func22 (by kernel_rfl) rfl #[.agg #[.slice A0_0 l0_0.length c0_0, .slice A0_1 l0_1.length c0_1]] rfl (by (try simp only [List.map_toArray, List.map_cons, List.map_nil]); first | done | rfl | (simp only [List.length_drop, List.length_take]; rfl)) ?_; (with_reducible refine (image_ok.calls _ _ l0_0 _ _ l0_1 true _ ?side1 ?side2 ?side3 ?side4 A2.out).mono ?_); (case side1 => repeat (first | exact (Kd.C_below HR0_0.out HB.out) | (with_reducible refine Kd.C_alloc ?_ _) | (with_reducible refine Kd.C_drewN ?_ _) | (with_reducible refine Kd.C_drew ?_))); (case side2 => exact HC0_0.out); (case side3 => repeat (first | exact (Kd.C_below HR0_1.out HB.out) | (with_reducible refine Kd.C_alloc ?_ _) | (with_reducible refine Kd.C_drewN ?_ _) | (with_reducible refine Kd.C_drew ?_))); (case side4 => exact HC0_1.out); rintro e w10 ⟨rfl, hb⟩; refine ⟨_, rfl, ?_⟩; have n0_ := Aside0.mk (blk_below (g := gb164) (o := .cells #[.slice A0_0 l0_0.length c0_0, .slice A0_1 l0_1.length c0_1] 25 (0, 0)) (by (with_reducible repeat (first | refine blk_drewN ?_ _ | refine blk_drew ?_ | refine blk_alloc ?_ _)); exact BK164.out) hb); have n1_ := Aside0.mk (below_step (by repeat (first | (with_reducible first | exact HB.out | apply below_alloc | apply pw_below_drewN | apply below_drew1 | refine below_set ?_ GE164.out) | exact HB.out)) hb); clear BK164; clear HB; have BK164 := n0_; have HB := n1_; clear n0_ n1_; (try clear hb); (try clear hb2); (try clear hk); (try clear hi); have hczA : (w10.alloc (.cells #[.int .u8 84, .int .u8 73, .int .u8 76, .int .u8 84] 5 (4, 5))).cell? ⟨gb164, 0, none⟩ = some (.slice A0_0 l0_0.length c0_0) := (blk_cell (blk_alloc BK164.out (.cells #[.int .u8 84, .int .u8 73, .int .u8 76, .int .u8 84] 5 (4, 5))) 0).trans rfl) | ((with_reducible refine gate_callee (f := 23) rfl ?_); refine goesL_ (some 12) rfl rfl Tryd.func23 (by kernel_rfl) rfl #[.slice (some ⟨w10.heap.size, 0, none⟩) 4 4, .slice A0_0 l0_0.length c0_0, .func (.func 24) #[] #[]] rfl (by (try simp only [List.map_toArray, List.map_cons, List.map_nil]); first | done | rfl | (simp only [List.length_drop, List.length_take]; rfl)) ?_; (refine (row_glo_full w10.heap.size [84, 73, 76, 84] A0_0 c0_0 l0_0 w _ (by repeat (first | (with_reducible first | exact HB.out | apply below_alloc | apply pw_below_drewN | apply below_drew1) | exact HB.out)) (C_preM w10 [84, 73, 76, 84] [] 5 (4, 5) (by simp) _ rfl) (by decide) G23.out.2.1 G23.out.2.2.1 HR0_0.out G23.out.2.2.2.1 G23.out.2.2.2.2.1 G23.out.2.2.2.2.2).mono ?_); rintro e w15 ⟨v170, rfl, ho0, hb, hkp⟩; rw [G23.out.1] at ho0; refine ⟨_, rfl, ?_⟩; have n0_ := Aside0.mk (blk_kept (blk_alloc BK164.out _) hkp (fun hs_ => hs_.elim)); have n1_ := Aside0.mk (Kd.R_mono (ok' := fun k_ => True) ho0 (fun k_ hk_ => trivial)); have n2_ := Aside0.mk (hb); clear BK164; clear HB; have BK164 := n0_; have HO171 := n1_; have HB := n2_; clear n0_ n1_ n2_; (try clear hb); (try clear hkp); (try clear ho0); have hcz16_0 : w15.cell? ⟨gb164, 0, none⟩ = some (.slice A0_0 l0_0.length c0_0) := (blk_cell BK164.out 0).trans rfl; have hcz16_1 : w15.cell? ⟨gb164, 1, none⟩ = some (.slice A0_1 l0_1.length c0_1) := (blk_cell BK164.out 1).trans rfl; have hfz16_0 := blk_frozen BK164.out 0; have hfz16_1 := blk_frozen BK164.out 1; obtain ⟨Ao17, co17, eo17⟩ := Kd.R_slice HO171.out; subst eo17) | ((with_reducible refine gate_callee (f := 27) rfl ?_); refine goesL_ (some 16) rfl rfl Tryd.func27 (by kernel_rfl) rfl #[.slice Ao17 t169.length co17, .slice A0_1 l0_1.length c0_1, .func (.func 28) #[] #[]] rfl (by (try simp only [List.map_toArray, List.map_cons, List.map_nil]); first | done | rfl | (simp only [List.length_drop, List.length_take]; rfl)) ?_; (with_reducible refine (api_Fn_27.calls (fun k_ => some k_ = (.slice Ao17 t169.length co17 : Value).ownBlock) (.slice Ao17 t169.length co17) t169 _ _ l0_1 28 t172 w _ ?side1 ?side2 ?side3 ?side4 A5.out).mono ?_); (case side1 => repeat (first | (with_reducible first | exact HB.out | apply below_alloc | apply pw_below_drewN | apply below_drew1 | refine below_set ?_ GE164.out) | exact HB.out)); (case side2 => exact Kd.R_tight rfl HO171.out); (case side3 => exact Came3.mk HR0_1.out (by repeat (first | (with_reducible first | exact HB.out | apply below_alloc | apply pw_below_drewN | apply below_drew1 | refine below_set ?_ GE164.out) | exact HB.out)) (fun k_ hs_ => (fun e_ => Kd.R_base HO171.out k_ e_.symm) hs_)); (case side4 => exact HC0_1.out); rintro e w18 ⟨v173, rfl, ho0, hb, hkp⟩; refine ⟨_, rfl, ?_⟩; have n0_ := Aside0.mk (blk_kept (by (with_reducible repeat (first | refine blk_drewN ?_ _ | refine blk_drew ?_ | refine blk_alloc ?_ _)); exact BK164.out) hkp (fun hs_ => (fun e_ => (Kd.R_ne HO171.out BK164.out (by decide)) e_) hs_)); have n1_ := Aside0.mk (Kd.R_mono (ok' := fun k_ => True) ho0 (fun k_ hk_ => trivial)); have n2_ := Aside0.mk (hb); clear BK164; clear HB; clear HO171; have BK164 := n0_; have HO174 := n1_; have HB := n2_; clear n0_ n1_ n2_; (try clear hb); (try clear hkp); (try clear ho0); obtain ⟨Ao19, co19, eo19⟩ := Kd.R_slice HO174.out; subst eo19) | ((with_reducible refine gate_callee (f := 15) rfl ?_); refine goesL_ (some 18) rfl rfl Tryd.func15 (by kernel_rfl) rfl #[.slice Ao19 t172.length co19] rfl (by (try simp only [List.map_toArray, List.map_cons, List.map_nil]); first | done | rfl | (simp only [List.length_drop, List.length_take]; rfl)) ?_; (with_reducible refine (wire_Frame.calls _ _ t172 t175 _ ?side1 ?side2 A6.out (HWX.out.below (by repeat (first | (with_reducible first | exact HB.out | apply below_alloc | apply pw_below_drewN | apply below_drew1 | refine below_set ?_ GE164.out) | exact HB.out)))).mono ?_); (case side1 => repeat (first | exact (Kd.R_reads' HO174.out).2.2 | (with_reducible refine Kd.C_alloc ?_ _) | (with_reducible refine Kd.C_drewN ?_ _) | (with_reducible refine Kd.C_drew ?_))); (case side2 => exact (Kd.R_reads' HO174.out).2.1); rintro e w20 ⟨v176, rfl, ho0, hb⟩; refine ⟨_, rfl, ?_⟩; have n0_ := Aside0.mk (Kd.R_elder' (by (with_reducible repeat (first | apply Kd.R_alloc | apply Kd.R_drewN | apply Kd.R_drew)); exact HO174.out) (Kd.R_base ho0) hb); have n1_ := Aside0.mk (Kd.R_lower (Kd.R_new' ho0 (Kd.R_lt (by (with_reducible repeat (first | apply Kd.R_alloc | apply Kd.R_drewN | apply Kd.R_drew)); exact HO174.out))) (below_size (by repeat (first | (with_reducible first | exact HB.out | apply below_alloc | apply pw_below_drewN | apply below_drew1 | refine below_set ?_ GE164.out) | exact HB.out)))); have n2_ := Aside0.mk (blk_below (g := gb164) (o := .cells #[.slice A0_0 l0_0.length c0_0, .slice A0_1 l0_1.length c0_1] 25 (0, 0)) (by (with_reducible repeat (first | refine blk_drewN ?_ _ | refine blk_drew ?_ | refine blk_alloc ?_ _)); exact BK164.out) hb); have n3_ := Aside0.mk (below_step (by repeat (first | (with_reducible first | exact HB.out | apply below_alloc | apply pw_below_drewN | apply below_drew1 | refine below_set ?_ GE164.out) | exact HB.out)) hb); clear HO174; clear BK164; clear HB; have HO174 := n0_; have HO177 := n1_; have BK164 := n2_; have HB := n3_; clear n0_ n1_ n2_ n3_; (try clear hb); (try clear hb2); (try clear hk); (try clear hi); (try clear ho0); obtain ⟨Ao21, co21, eo21⟩ := Kd.R_slice HO177.out; subst eo21))
      go_ret2
      exact ⟨_, by first | rfl | (simp [errW_none, errW_some] <;> rfl) | (simp [*, errW_none, errW_some] <;> rfl), by first | exact Kd.R_nil _ _ _ _ _ | exact Kd.N_nil _ _ _ _ _ | exact Kd.V_nil _ _ _ _ _ | exact Kd.Q_nil _ _ _ _ _ | exact Kd.S_nil _ _ _ _ _, by repeat (first | (with_reducible first | exact HB.out | apply below_alloc | apply pw_below_drewN | apply below_drew1 | refine below_set ?_ GE164.out) | exact HB.out)⟩
    · rw [if_neg c7] at H
      have c7b0 : decide (1048576 < (t175.length : Int)) = false := decide_eq_false c7
      have c7b1 : decide (1048576 < t175.length) = false := decide_eq_false (by omega)
      clear c7
      simp only [Option.some.injEq, Prod.mk.injEq] at H
      obtain ⟨rfl, rfl⟩ := H
      try have G23 := Aside0.mk (glob23_cond (Ny166.out ▸ A4.out))
      have hcm := fun W => conv_mark W #[.int .u8 84, .int .u8 73, .int .u8 76, .int .u8 84] 4
      go_enter Tryd.func11, Tryd.ntmps11
      go_wp2_with (first | ((with_reducible refine gate_dst (N := 1) rfl ?_); refine box_event ?hg (N := 1) ?hd (cs := #[.slice A0_0 l0_0.length c0_0, .slice A0_1 l0_1.length c0_1]) (t := 25) ?hr ?_; (case hd => rfl); (case hg => rfl); (case hr => first | (go_simp; done) | (go_simp; rfl)); intro gb164 hg w22 hbox hb; have n0_ := Aside0.mk (below_step (by repeat (first | (with_reducible first | exact HB.out | apply below_alloc | apply pw_below_drewN | apply below_drew1) | exact HB.out)) hb); have n1_ := Aside0.mk (hbox); have n2_ := Aside0.mk ((by rw [hg]; exact (below_size (by repeat (first | (with_reducible first | exact HB.out | apply below_alloc | apply pw_below_drewN | apply below_drew1) | exact HB.out))) : w.heap.size ≤ gb164)); have n3_ := Aside0.mk ((by rw [hg]; exact (below_size (by repeat (first | (with_reducible first | exact HB.out | apply below_alloc | apply pw_below_drewN | apply below_drew1) | exact HB.out))) : w.heap.size ≤ gb164)); clear HB; have HB := n0_; have BK164 := n1_; have GW164 := n2_; have GE164 := n3_; clear n0_ n1_ n2_ n3_; clear hb hbox hg; have hcz23_0 : w22.cell? ⟨gb164, 0, none⟩ = some (.slice A0_0 l0_0.length c0_0) := (blk_cell BK164.out 0).trans rfl; have hcz23_1 : w22.cell? ⟨gb164, 1, none⟩ = some (.slice A0_1 l0_1.length c0_1) := (blk_cell BK164.out 1).trans rfl; have hfz23_0 := blk_frozen BK164.out 0; have hfz23_1 := blk_frozen BK164.out 1) | ((with_reducible refine gate_callee (f := 22) rfl ?_); refine goesL_ (some 6) rfl rfl Tryd.func22 (by kernel_rfl) rfl #[.agg #[.slice A0_0 l0_0.length c0_0, .slice A0_1 l0_1.length c0_1]] rfl (by (try simp only [List.map_toArray, List.map_cons, List.map_nil]); first | done | rfl | (simp only [List.length_drop, List.length_take]; rfl)) ?_; (with_reducible refine (image_ok.calls _ _ l0_0 _ _ l0_1 true _ ?side1 ?side2 ?side3 ?side4 A2.out).mono ?_); (case side1 => repeat (first | exact (Kd.C_below HR0_0.out HB.out) | (with_reducible refine Kd.C_alloc ?_ _) | (with_reducible refine Kd.C_drewN ?_ _) | (with_reducible refine Kd.C_drew ?_))); (case side2 => exact HC0_0.out); (case side3 => repeat (first | exact (Kd.C_below HR0_1.out HB.out) | (with_reducible refine Kd.C_alloc ?_ _) | (with_reducible refine Kd.C_drewN ?_ _) | (with_reducible refine Kd.C_drew ?_))); (case side4 => exact HC0_1.out); rintro e w24 ⟨rfl, hb⟩; refine ⟨_, rfl, ?_⟩; have n0_ := Aside0.mk (blk_below (g := gb164) (o := .cells #[.slice A0_0 l0_0.length c0_0, .slice A0_1 l0_1.length c0_1] 25 (0, 0)) (by (with_reducible repeat (first | refine blk_drewN ?_ _ | refine blk_drew ?_ | refine blk_alloc ?_ _)); exact BK164.out) hb); have n1_ := Aside0.mk (below_step (by repeat (first | (with_reducible first | exact HB.out | apply below_alloc | apply pw_below_drewN | apply below_drew1 | refine below_set ?_ GE164.out) | exact HB.out)) hb); clear BK164; clear HB; have BK164 := n0_; have HB := n1_; clear n0_ n1_; (try clear hb); (try clear hb2); (try clear hk); (try clear hi); have hczA : (w24.alloc (.cells #[.int .u8 84, .int .u8 73, .int .u8 76, .int .u8 84] 5 (4, 5))).cell? ⟨gb164, 0, none⟩ = some (.slice A0_0 l0_0.length c0_0) := (blk_cell (blk_alloc BK164.out (.cells #[.int .u8 84, .int .u8 73, .int .u8 76, .int .u8 84] 5 (4, 5))) 0).trans rfl) | ((with_reducible refine gate_callee (f := 23) rfl ?_); refine goesL_ (some 12) rfl rfl Tryd.func23 (by kernel_rfl) rfl #[.slice (some ⟨w24.heap.size, 0, none⟩) 4 4, .slice A0_0 l0_0.length c0_0, .func (.func 24) #[] #[]] rfl (by (try simp only [List.map_toArray, List.map_cons, List.map_nil]); first | done | rfl | (simp only [List.length_drop, List.length_take]; rfl)) ?_; (refine (row_glo_full w24.heap.size [84, 73, 76, 84] A0_0 c0_0 l0_0 w _ (by repeat (first | (with_reducible first | exact HB.out | apply below_alloc | apply pw_below_drewN | apply below_drew1) | exact HB.out)) (C_preM w24 [84, 73, 76, 84] [] 5 (4, 5) (by simp) _ rfl) (by decide) G23.out.2.1 G23.out.2.2.1 HR0_0.out G23.out.2.2.2.1 G23.out.2.2.2.2.1 G23.out.2.2.2.2.2).mono ?_); rintro e w29 ⟨v170, rfl, ho0, hb, hkp⟩; rw [G23.out.1] at ho0; refine ⟨_, rfl, ?_⟩; have n0_ := Aside0.mk (blk_kept (blk_alloc BK164.out _) hkp (fun hs_ => hs_.elim)); have n1_ := Aside0.mk (Kd.R_mono (ok' := fun k_ => True) ho0 (fun k_ hk_ => trivial)); have n2_ := Aside0.mk (hb); clear BK164; clear HB; have BK164 := n0_; have HO171 := n1_; have HB := n2_; clear n0_ n1_ n2_; (try clear hb); (try clear hkp); (try clear ho0); have hcz30_0 : w29.cell? ⟨gb164, 0, none⟩ = some (.slice A0_0 l0_0.length c0_0) := (blk_cell BK164.out 0).trans rfl; have hcz30_1 : w29.cell? ⟨gb164, 1, none⟩ = some (.slice A0_1 l0_1.length c0_1) := (blk_cell BK164.out 1).trans rfl; have hfz30_0 := blk_frozen BK164.out 0; have hfz30_1 := blk_frozen BK164.out 1; obtain ⟨Ao31, co31, eo31⟩ := Kd.R_slice HO171.out; subst eo31) | ((with_reducible refine gate_callee (f := 27) rfl ?_); refine goesL_ (some 16) rfl rfl Tryd.func27 (by kernel_rfl) rfl #[.slice Ao31 t169.length co31, .slice A0_1 l0_1.length c0_1, .func (.func 28) #[] #[]] rfl (by (try simp only [List.map_toArray, List.map_cons, List.map_nil]); first | done | rfl | (simp only [List.length_drop, List.length_take]; rfl)) ?_; (with_reducible refine (api_Fn_27.calls (fun k_ => some k_ = (.slice Ao31 t169.length co31 : Value).ownBlock) (.slice Ao31 t169.length co31) t169 _ _ l0_1 28 t172 w _ ?side1 ?side2 ?side3 ?side4 A5.out).mono ?_); (case side1 => repeat (first | (with_reducible first | exact HB.out | apply below_alloc | apply pw_below_drewN | apply below_drew1 | refine below_set ?_ GE164.out) | exact HB.out)); (case side2 => exact Kd.R_tight rfl HO171.out); (case side3 => exact Came3.mk HR0_1.out (by repeat (first | (with_reducible first | exact HB.out | apply below_alloc | apply pw_below_drewN | apply below_drew1 | refine below_set ?_ GE164.out) | exact HB.out)) (fun k_ hs_ => (fun e_ => Kd.R_base HO171.out k_ e_.symm) hs_)); (case side4 => exact HC0_1.out); rintro e w32 ⟨v173, rfl, ho0, hb, hkp⟩; refine ⟨_, rfl, ?_⟩; have n0_ := Aside0.mk (blk_kept (by (with_reducible repeat (first | refine blk_drewN ?_ _ | refine blk_drew ?_ | refine blk_alloc ?_ _)); exact BK164.out) hkp (fun hs_ => (fun e_ => (Kd.R_ne HO171.out BK164.out (by decide)) e_) hs_)); have n1_ := Aside0.mk (Kd.R_mono (ok' := fun k_ => True) ho0 (fun k_ hk_ => trivial)); have n2_ := Aside0.mk (hb); clear BK164; clear HB; clear HO171; have BK164 := n0_; have HO174 := n1_; have HB := n2_; clear n0_ n1_ n2_; (try clear hb); (try clear hkp); (try clear ho0); obtain ⟨Ao33, co33, eo33⟩ := Kd.R_slice HO174.out; subst eo33) | ((with_reducible refine gate_callee (f := 15) rfl ?_); refine goesL_ (some 18) rfl rfl Tryd.func15 (by kernel_rfl) rfl #[.slice Ao33 t172.length co33] rfl (by (try simp only [List.map_toArray, List.map_cons, List.map_nil]); first | done | rfl | (simp only [List.length_drop, List.length_take]; rfl)) ?_; (with_reducible refine (wire_Frame.calls _ _ t172 t175 _ ?side1 ?side2 A6.out (HWX.out.below (by repeat (first | (with_reducible first | exact HB.out | apply below_alloc | apply pw_below_drewN | apply below_drew1 | refine below_set ?_ GE164.out) | exact HB.out)))).mono ?_); (case side1 => repeat (first | exact (Kd.R_reads' HO174.out).2.2 | (with_reducible refine Kd.C_alloc ?_ _) | (with_reducible refine Kd.C_drewN ?_ _) | (with_reducible refine Kd.C_drew ?_))); (case side2 => exact (Kd.R_reads' HO174.out).2.1); rintro e w34 ⟨v176, rfl, ho0, hb⟩; refine ⟨_, rfl, ?_⟩; have n0_ := Aside0.mk (Kd.R_elder' (by (with_reducible repeat (first | apply Kd.R_alloc | apply Kd.R_drewN | apply Kd.R_drew)); exact HO174.out) (Kd.R_base ho0) hb); have n1_ := Aside0.mk (Kd.R_lower (Kd.R_new' ho0 (Kd.R_lt (by (with_reducible repeat (first | apply Kd.R_alloc | apply Kd.R_drewN | apply Kd.R_drew)); exact HO174.out))) (below_size (by repeat (first | (with_reducible first | exact HB.out | apply below_alloc | apply pw_below_drewN | apply below_drew1 | refine below_set ?_ GE164.out) | exact HB.out)))); have n2_ := Aside0.mk (blk_below (g := gb164) (o := .cells #[.slice A0_0 l0_0.length c0_0, .slice A0_1 l0_1.length c0_1] 25 (0, 0)) (by (with_reducible repeat (first | refine blk_drewN ?_ _ | refine blk_drew ?_ | refine blk_alloc ?_ _)); exact BK164.out) hb); have n3_ := Aside0.mk (below_step (by repeat (first | (with_reducible first | exact HB.out | apply below_alloc | apply pw_below_drewN | apply below_drew1 | refine below_set ?_ GE164.out) | exact HB.out)) hb); clear HO174; clear BK164; clear HB; have HO174 := n0_; have HO177 := n1_; have BK164 := n2_; have HB := n3_; clear n0_ n1_ n2_ n3_; (try clear hb); (try clear hb2); (try clear hk); (try clear hi); (try clear ho0); obtain ⟨Ao35, co35, eo35⟩ := Kd.R_slice HO177.out; subst eo35))
      go_ret2
      exact ⟨_, by first | rfl | (simp [errW_none, errW_some] <;> rfl) | (simp [*, errW_none, errW_some] <;> rfl), by (with_reducible repeat (first | apply Kd.R_alloc | apply Kd.R_drewN | apply Kd.R_drew)); exact Kd.R_mono HO177.out (fun _ hk => trivial), by repeat (first | (with_reducible first | exact HB.out | apply below_alloc | apply pw_below_drewN | apply below_drew1 | refine below_set ?_ GE164.out) | exact HB.out)⟩
  · replace c3 := Bool.eq_false_iff.mpr c3
    subst c3
    have H1 : (some (([] : List Int), 150)) = some (r1, r2) := by rw [if_neg (show ¬ (false = true) by decide)] at H; exact H
    clear H
    have H := H1
    clear H1
    simp only [Option.some.injEq, Prod.mk.injEq] at H
    obtain ⟨rfl, rfl⟩ := H
    try have G23 := Aside0.mk (glob23_cond (Ny166.out ▸ A4.out))
    have hcm := fun W => conv_mark W #[.int .u8 84, .int .u8 73, .int .u8 76, .int .u8 84] 4
    go_enter Tryd.func11, Tryd.ntmps11
    go_wp2_with (first | ((with_reducible refine gate_dst (N := 1) rfl ?_); refine box_event ?hg (N := 1) ?hd (cs := #[.slice A0_0 l0_0.length c0_0, .slice A0_1 l0_1.length c0_1]) (t := 25) ?hr ?_; (case hd => rfl); (case hg => rfl); (case hr => first | (go_simp; done) | (go_simp; rfl)); intro gb164 hg w36 hbox hb; have n0_ := Aside0.mk (below_step (by repeat (first | (with_reducible first | exact HB.out | apply below_alloc | apply pw_below_drewN | apply below_drew1) | exact HB.out)) hb); have n1_ := Aside0.mk (hbox); have n2_ := Aside0.mk ((by rw [hg]; exact (below_size (by repeat (first | (with_reducible first | exact HB.out | apply below_alloc | apply pw_below_drewN | apply below_drew1) | exact HB.out))) : w.heap.size ≤ gb164)); have n3_ := Aside0.mk ((by rw [hg]; exact (below_size (by repeat (first | (with_reducible first | exact HB.out | apply below_alloc | apply pw_below_drewN | apply below_drew1) | exact HB.out))) : w.heap.size ≤ gb164)); clear HB; have HB := n0_; have BK164 := n1_; have GW164 := n2_; have GE164 := n3_; clear n0_ n1_ n2_ n3_; clear hb hbox hg; have hcz37_0 : w36.cell? ⟨gb164, 0, none⟩ = some (.slice A0_0 l0_0.length c0_0) := (blk_cell BK164.out 0).trans rfl; have hcz37_1 : w36.cell? ⟨gb164, 1, none⟩ = some (.slice A0_1 l0_1.length c0_1) := (blk_cell BK164.out 1).trans rfl; have hfz37_0 := blk_frozen BK164.out 0; have hfz37_1 := blk_frozen BK164.out 1) | ((with_reducible refine gate_callee (f := 22) rfl ?_); refine goesL_ (some 6) rfl rfl Tryd.func22 (by kernel_rfl) rfl #[.agg #[.slice A0_0 l0_0.length c0_0, .slice A0_1 l0_1.length c0_1]] rfl (by (try simp only [List.map_toArray, List.map_cons, List.map_nil]); first | done | rfl | (simp only [List.length_drop, List.length_take]; rfl)) ?_; (with_reducible refine (image_ok.calls _ _ l0_0 _ _ l0_1 false _ ?side1 ?side2 ?side3 ?side4 A2.out).mono ?_); (case side1 => repeat (first | exact (Kd.C_below HR0_0.out HB.out) | (with_reducible refine Kd.C_alloc ?_ _) | (with_reducible refine Kd.C_drewN ?_ _) | (with_reducible refine Kd.C_drew ?_))); (case side2 => exact HC0_0.out); (case side3 => repeat (first | exact (Kd.C_below HR0_1.out HB.out) | (with_reducible refine Kd.C_alloc ?_ _) | (with_reducible refine Kd.C_drewN ?_ _) | (with_reducible refine Kd.C_drew ?_))); (case side4 => exact HC0_1.out); rintro e w38 ⟨rfl, hb⟩; refine ⟨_, rfl, ?_⟩; have n0_ := Aside0.mk (blk_below (g := gb164) (o := .cells #[.slice A0_0 l0_0.length c0_0, .slice A0_1 l0_1.length c0_1] 25 (0, 0)) (by (with_reducible repeat (first | refine blk_drewN ?_ _ | refine blk_drew ?_ | refine blk_alloc ?_ _)); exact BK164.out) hb); have n1_ := Aside0.mk (below_step (by repeat (first | (with_reducible first | exact HB.out | apply below_alloc | apply pw_below_drewN | apply below_drew1 | refine below_set ?_ GE164.out) | exact HB.out)) hb); clear BK164; clear HB; have BK164 := n0_; have HB := n1_; clear n0_ n1_; (try clear hb); (try clear hb2); (try clear hk); (try clear hi)))
    go_ret2
    exact ⟨_, by first | rfl | (simp [errW_none, errW_some] <;> rfl) | (simp [*, errW_none, errW_some] <;> rfl), by first | exact Kd.R_nil _ _ _ _ _ | exact Kd.N_nil _ _ _ _ _ | exact Kd.V_nil _ _ _ _ _ | exact Kd.Q_nil _ _ _ _ _ | exact Kd.S_nil _ _ _ _ _, by repeat (first | (with_reducible first | exact HB.out | apply below_alloc | apply pw_below_drewN | apply below_drew1 | refine below_set ?_ GE164.out) | exact HB.out)⟩
def image_Right.f (l0_0 : List (S48)) (l0_1 : List (S54)) : Option (Int) := (image_Encode.f l0_0 l0_1).bind fun bt179 => (some bt179.2)
set_option maxHeartbeats 8000000 in
set_option maxRecDepth 100000 in
theorem image_Right.calls (A0_0 : Option Addr) (c0_0 : Nat) (l0_0 : List (S48)) (A0_1 : Option Addr) (c0_1 : Nat) (l0_1 : List (S54)) (r : Int) (w : World) (hr0_0 : Kd.C k48 w A0_0 l0_0.length l0_0) (hc0_0 : l0_0.length ≤ c0_0) (hr0_1 : Kd.C k54 w A0_1 l0_1.length l0_1) (hc0_1 : l0_1.length ≤ c0_1) (h : image_Right.f l0_0 l0_1 = some r) (hW : Tab w) :
    Calls Tryd.prog 10 #[.agg #[.slice A0_0 l0_0.length c0_0, .slice A0_1 l0_1.length c0_1]] w fun e w' => e = .returned (.int .i64 r) ∧ Below w.heap.size w w' := by
  have hu25 := Tryd.underlying25
  have HR0_0 := Aside0.mk hr0_0
  have HC0_0 := Aside0.mk hc0_0
  clear hr0_0 hc0_0
  have HR0_1 := Aside0.mk hr0_1
  have HC0_1 := Aside0.mk hc0_1
  clear hr0_1 hc0_1
  have HB := Aside0.mk (Below.refl w.heap.size w)
  have HWX := Aside0.mk hW
  clear hW
  have H : ((image_Encode.f l0_0 l0_1).bind fun bt179 => (some bt179.2)) = some r := h
  clear h
  replace H := Option.bind_eq_some_iff.mp H
  obtain ⟨⟨t179, t182⟩, A20, H⟩ := H
  replace H : (some t182) = some r := H
  have A2 := Aside0.mk A20
  clear A20
  obtain rfl := Option.some.inj H
  go_enter Tryd.func10, Tryd.ntmps10
  go_wp2_with (first | ((with_reducible refine gate_dst (N := 1) rfl ?_); refine box_event ?hg (N := 1) ?hd (cs := #[.slice A0_0 l0_0.length c0_0, .slice A0_1 l0_1.length c0_1]) (t := 25) ?hr ?_; (case hd => rfl); (case hg => rfl); (case hr => first | (go_simp; done) | (go_simp; rfl)); intro gb178 hg w3 hbox hb; have n0_ := Aside0.mk (below_step (by repeat (first | (with_reducible first | exact HB.out | apply below_alloc | apply pw_below_drewN | apply below_drew1) | exact HB.out)) hb); have n1_ := Aside0.mk (hbox); have n2_ := Aside0.mk ((by rw [hg]; exact (below_size (by repeat (first | (with_reducible first | exact HB.out | apply below_alloc | apply pw_below_drewN | apply below_drew1) | exact HB.out))) : w.heap.size ≤ gb178)); have n3_ := Aside0.mk ((by rw [hg]; exact (below_size (by repeat (first | (with_reducible first | exact HB.out | apply below_alloc | apply pw_below_drewN | apply below_drew1) | exact HB.out))) : w.heap.size ≤ gb178)); clear HB; have HB := n0_; have BK178 := n1_; have GW178 := n2_; have GE178 := n3_; clear n0_ n1_ n2_ n3_; clear hb hbox hg; have hcz4_0 : w3.cell? ⟨gb178, 0, none⟩ = some (.slice A0_0 l0_0.length c0_0) := (blk_cell BK178.out 0).trans rfl; have hcz4_1 : w3.cell? ⟨gb178, 1, none⟩ = some (.slice A0_1 l0_1.length c0_1) := (blk_cell BK178.out 1).trans rfl; have hfz4_0 := blk_frozen BK178.out 0; have hfz4_1 := blk_frozen BK178.out 1) | ((with_reducible refine gate_callee (f := 11) rfl ?_); refine goesL_ (some 7) rfl rfl Tryd.func11 (by kernel_rfl) rfl #[.agg #[.slice A0_0 l0_0.length c0_0, .slice A0_1 l0_1.length c0_1]] rfl (by (try simp only [List.map_toArray, List.map_cons, List.map_nil]); first | done | rfl | (simp only [List.length_drop, List.length_take]; rfl)) ?_; (with_reducible refine (image_Encode.calls _ _ l0_0 _ _ l0_1 t179 t182 _ ?side1 ?side2 ?side3 ?side4 A2.out (HWX.out.below (by repeat (first | (with_reducible first | exact HB.out | apply below_alloc | apply pw_below_drewN | apply below_drew1 | refine below_set ?_ GE178.out) | exact HB.out)))).mono ?_); (case side1 => repeat (first | exact (Kd.C_below HR0_0.out HB.out) | (with_reducible refine Kd.C_alloc ?_ _) | (with_reducible refine Kd.C_drewN ?_ _) | (with_reducible refine Kd.C_drew ?_))); (case side2 => exact HC0_0.out); (case side3 => repeat (first | exact (Kd.C_below HR0_1.out HB.out) | (with_reducible refine Kd.C_alloc ?_ _) | (with_reducible refine Kd.C_drewN ?_ _) | (with_reducible refine Kd.C_drew ?_))); (case side4 => exact HC0_1.out); rintro e w5 ⟨v180, rfl, ho0, hb⟩; refine ⟨_, rfl, ?_⟩; have n0_ := Aside0.mk (Kd.R_lower ho0 (below_size (by repeat (first | (with_reducible first | exact HB.out | apply below_alloc | apply pw_below_drewN | apply below_drew1 | refine below_set ?_ GE178.out) | exact HB.out)))); have n1_ := Aside0.mk (blk_below (g := gb178) (o := .cells #[.slice A0_0 l0_0.length c0_0, .slice A0_1 l0_1.length c0_1] 25 (0, 0)) (by (with_reducible repeat (first | refine blk_drewN ?_ _ | refine blk_drew ?_ | refine blk_alloc ?_ _)); exact BK178.out) hb); have n2_ := Aside0.mk (below_step (by repeat (first | (with_reducible first | exact HB.out | apply below_alloc | apply pw_below_drewN | apply below_drew1 | refine below_set ?_ GE178.out) | exact HB.out)) hb); clear BK178; clear HB; have HO181 := n0_; have BK178 := n1_; have HB := n2_; clear n0_ n1_ n2_; (try clear hb); (try clear hb2); (try clear hk); (try clear hi); (try clear ho0)))
  go_ret
  exact ⟨by first | rfl | (simp [errW_none, errW_some] <;> rfl) | (simp [*, errW_none, errW_some] <;> rfl), by repeat (first | (with_reducible first | exact HB.out | apply below_alloc | apply pw_below_drewN | apply below_drew1 | refine below_set ?_ GE178.out) | exact HB.out)⟩
end Go.Proofs.YteidgpaakoeefaaDoor.PIm
namespace Go.Proofs.YteidgpaakoeefaaDoor
open Go.RowKit Go.Proofs.YteidgpaakoeefaaDoorW.PrintWords Go.Proofs.YteidgpaakoeefaaDoorW.PrintLast Go.Proofs.YteidgpaakoeefaaDoorW.PrintMore
set_option linter.unusedVariables false
set_option linter.unusedSimpArgs false
open PIm
theorem ok_f (gs : List S48) (fs : List S54) (hg : gs.length ≤ 140737488355318) (hf : fs.length ≤ 140737488355318) (hfin : ∀ f ∈ fs, fnIn f) : image_ok.f gs fs = some (okF gs fs) := by
  have e1 : api_Glob_52.f gs 53 = some (gs.any fun x => !globB x) := by unfold api_Glob_52.f; rw [if_pos hg]
  have e2 : api_Fn_55.f fs 56 = some (fs.any fun x => !fnB x) := by unfold api_Fn_55.f; rw [if_pos ⟨hf, hfin⟩]
  unfold image_ok.f okF
  rw [e1, e2, Option.bind_some, Option.bind_some]
  generalize (gs.any fun x => !globB x) = b1
  generalize (fs.any fun x => !fnB x) = b2
  by_cases h1 : gs.length ≤ 64
  · by_cases h2 : fs.length ≤ 64
    · rw [if_pos (show (gs.length : Int) ≤ 64 by omega), if_pos (show (fs.length : Int) ≤ 64 by omega), decide_eq_true h1, decide_eq_true h2]
      cases b1 <;> cases b2 <;> rfl
    · rw [if_pos (show (gs.length : Int) ≤ 64 by omega), if_neg (show ¬ (fs.length : Int) ≤ 64 by omega), decide_eq_true h1, decide_eq_false h2]; rfl
  · rw [if_neg (show ¬ (gs.length : Int) ≤ 64 by omega), decide_eq_false h1]; rfl
theorem enc_f (gs : List S48) (fs : List S54) (hg : gs.length ≤ 140737488355318) (hf : fs.length ≤ 140737488355318) (hfin : ∀ f ∈ fs, fnIn f)
    (hr : okF gs fs = true → (∀ x ∈ gs, rngG x) ∧ (∀ f ∈ fs, rngF f) ∧ (bodyF gs fs).length ≤ 140737488355318) : image_Encode.f gs fs = some (encF gs fs) := by
  unfold image_Encode.f encF
  rw [ok_f gs fs hg hf hfin, Option.bind_some]
  cases hok : okF gs fs with
  | false => rw [if_neg (by decide), if_neg (by decide)]
  | true =>
    obtain ⟨h1, h2, h3⟩ := hr hok
    have hb : (bodyF gs fs).length = ([84, 73, 76, 84] ++ rowG gs ++ rowF fs : List Int).length := rfl
    rw [hb, List.length_append] at h3
    have e1 : api_Glob_23.f [84, 73, 76, 84] gs 24 = some ([84, 73, 76, 84] ++ rowG gs) := by
      unfold api_Glob_23.f
      rw [if_pos ⟨by rw [List.append_assoc]; exact (by omega : ([84, 73, 76, 84] ++ rowG gs : List Int).length < 140737488355328), hg, h1⟩]
    have e2 : api_Fn_27.f ([84, 73, 76, 84] ++ rowG gs) fs 28 = some (bodyF gs fs) := by
      unfold api_Fn_27.f
      rw [if_pos ⟨by rw [List.append_assoc]; show (([84, 73, 76, 84] ++ rowG gs) ++ rowF fs : List Int).length < _; rw [List.length_append]; omega, hf, h2⟩]
      rfl
    have e3 : wire_Frame.f (bodyF gs fs) = some (frameF (bodyF gs fs)) := by
      unfold wire_Frame.f
      rw [if_pos (by rw [hb, List.length_append]; exact h3)]
    rw [if_pos rfl, e1, Option.bind_some, e2, Option.bind_some, e3, Option.bind_some, if_pos rfl]
    by_cases h : 1048576 < (frameF (bodyF gs fs)).length
    · rw [if_pos (show ((frameF (bodyF gs fs)).length : Int) > 1048576 by omega), if_pos h]
    · rw [if_neg (show ¬ ((frameF (bodyF gs fs)).length : Int) > 1048576 by omega), if_neg h]
end Go.Proofs.YteidgpaakoeefaaDoor
