/- Taken together by a program of mine: what the proof names, out of the texts of this seat (its words as the print wrote them), part 5. -/
import Derived.Test.YteidgpaakoeefaaDoorQ4
namespace Go.Proofs.YteidgpaakoeefaaDoor
open Go.RowKit Go.Proofs.YteidgpaakoeefaaDoorW.PrintWords Go.Proofs.YteidgpaakoeefaaDoorW.PrintLast Go.Proofs.YteidgpaakoeefaaDoorW.PrintMore
set_option linter.unusedVariables false
set_option linter.unusedSimpArgs false
open PIm
theorem iequal_l0 (x y : List Int) (hl : x.length = y.length) (hm : x.length ≤ 9223372036854775806) : ∀ (k i : Nat), i ≤ x.length → x.length < k + i → slices_Equal_int_int.l0 k x y (x.length : Int) (i : Int) = some (decide (x.drop i = y.drop i))
  | 0, i, h, hk => by omega
  | k + 1, i, h, hk => by
    unfold slices_Equal_int_int.l0
    by_cases hi : i < x.length
    · have hi2 : i < y.length := by omega
      rw [if_pos (by omega), if_pos (by omega), if_pos (by omega), if_pos (by omega), rd_get' hi, rd_get' hi2, show x.drop i = x[i] :: x.drop (i + 1) from List.drop_eq_getElem_cons hi, show y.drop i = y[i] :: y.drop (i + 1) from List.drop_eq_getElem_cons hi2]
      by_cases he : x[i] = y[i]
      · rw [if_pos he, show wrap64 ((i : Int) + 1) = ((i + 1 : Nat) : Int) by simp only [wrap64]; omega, iequal_l0 x y hl hm k (i + 1) (by omega) (by omega)]
        refine congrArg some (decide_eq_decide.2 ⟨fun h => by rw [he, h], fun h => by injection h⟩)
      · rw [if_neg he]
        refine congrArg some (decide_eq_false fun h => he ?_).symm
        injection h
    · rw [if_neg (by omega), List.drop_of_length_le (by omega), List.drop_of_length_le (by omega)]
      simp
theorem iequal_law (x y : List Int) (k : Nat) (hk : x.length < k) (hm : x.length ≤ 9223372036854775806) : slices_Equal_int_int.f k x y = some (decide (x = y)) := by
  unfold slices_Equal_int_int.f
  by_cases hl : x.length = y.length
  · rw [if_pos (by omega)]
    have := iequal_l0 x y hl hm k 0 (by omega) (by omega)
    simpa using this
  · rw [if_neg (by omega)]
    have : x ≠ y := fun e => hl (by rw [e])
    simp [this]
def fnB (f : S54) : Bool := nameF f.f0 && (decide (f.f1.length ≤ 8) && (decide (f.f3.length ≤ 32) && (decide (f.f4.length ≤ 32768) && (f.f3.all typB && ((decide (f.f2 = 0) || typB f.f2) && (decide (f.f1.length ≤ f.f3.length) && (decide (f.f1 = f.f3.take f.f1.length) && !(f.f4.any insBad))))))))
def fnIn (f : S54) : Prop := f.f0.size ≤ 9223372036854775807 ∧ f.f1.length ≤ 140737488355318 ∧ f.f3.length ≤ 140737488355318 ∧ f.f4.length ≤ 140737488355318
instance (f : S54) : Decidable (fnIn f) := by unfold fnIn; infer_instance
theorem types_f (l : List Int) (h : l.length ≤ 140737488355318) : image_types.f l = some (l.all typB) := by
  unfold image_types.f slices_ContainsFunc_int_int.f
  rw [if_pos h, Option.bind_some]
  refine congrArg some ?_
  rw [List.all_eq_not_any_not]
theorem fn_f (f : S54) (h : fnIn f) (k : Nat) (hk : f.f1.length < k) : image_fn.f k f.f0 f.f1 f.f2 f.f3 f.f4 = some (fnB f) := by
  obtain ⟨h0, h1, h3, h4⟩ := h
  have hN : token_Name.f f.f0 = some (nameF f.f0) := by unfold token_Name.f; rw [if_pos h0]
  have hI : api_Instr_85.f f.f4 86 = some (f.f4.any insBad) := by unfold api_Instr_85.f; rw [if_pos h4]
  have hE : slices_Equal_int_int.f k f.f1 (f.f3.take ((f.f1.length : Int) : Int).toNat) = some (decide (f.f1 = f.f3.take f.f1.length)) := iequal_law _ _ k hk (by omega)
  unfold image_fn.f fnB
  simp only [hN, hI, hE, types_f _ h3, typed_f, Option.bind_some]
  cases nameF f.f0 with
  | false => simp
  | true =>
    by_cases g1 : f.f1.length ≤ 8
    · by_cases g2 : f.f3.length ≤ 32
      · by_cases g3 : f.f4.length ≤ 32768
        · rw [if_pos rfl, if_pos (by omega), if_pos (by omega), if_pos (by omega), decide_eq_true g1, decide_eq_true g2, decide_eq_true g3]
          simp only [Bool.true_and]
          cases f.f3.all typB with
          | false => simp
          | true =>
            rw [if_pos rfl]
            simp only [Bool.true_and]
            by_cases g5 : f.f1.length ≤ f.f3.length
            · rw [if_pos (show (f.f1.length : Int) ≤ (f.f3.length : Int) by omega), if_pos (show (0 : Int) ≤ (f.f1.length : Int) by omega), decide_eq_true g5]
              generalize decide (f.f1 = f.f3.take f.f1.length) = b
              generalize f.f4.any insBad = b2
              by_cases g4 : f.f2 = 0
              · rw [if_pos g4, decide_eq_true g4]; cases b <;> simp
              · rw [if_neg g4, decide_eq_false g4]; cases typB f.f2 <;> cases b <;> simp
            · rw [if_neg (show ¬ (f.f1.length : Int) ≤ (f.f3.length : Int) by omega), decide_eq_false g5]
              by_cases g4 : f.f2 = 0
              · rw [if_pos g4, decide_eq_true g4]; simp
              · rw [if_neg g4, decide_eq_false g4]; cases typB f.f2 <;> simp
        · rw [if_pos rfl, if_pos (by omega), if_pos (by omega), if_neg (by omega), decide_eq_false g3]; simp
      · rw [if_pos rfl, if_pos (by omega), if_neg (by omega), decide_eq_false g2]; simp
    · rw [if_pos rfl, if_neg (by omega), decide_eq_false g1]; simp
theorem ok2_ok (f : S54) (h : fnIn f) (A1 : Option Addr) (c1 : Nat) (A3 : Option Addr) (c3 : Nat) (A4 : Option Addr) (c4 : Nat) (w : World) (h1 : Kd.C (Kd.int .i64) w A1 f.f1.length f.f1) (g1 : f.f1.length ≤ c1) (h3 : Kd.C (Kd.int .i64) w A3 f.f3.length f.f3) (g3 : f.f3.length ≤ c3) (h4 : Kd.C k50 w A4 f.f4.length f.f4) (g4 : f.f4.length ≤ c4) :
    Calls Tryd.prog 56 #[.agg #[.string f.f0, .slice A1 f.f1.length c1, .int .i64 f.f2, .slice A3 f.f3.length c3, .slice A4 f.f4.length c4]] w fun e w' => e = .returned (.bool (!fnB f)) ∧ Below w.heap.size w w' :=
  image_ok_2.calls (f.f1.length + 1) f.f0 A1 c1 f.f1 f.f2 A3 c3 f.f3 A4 c4 f.f4 _ w h1 g1 h3 g3 h4 g4 (by unfold image_ok_2.f; rw [fn_f f h _ (by omega)]; rfl)
set_option maxHeartbeats 2000000 in
set_option maxRecDepth 100000 in
theorem index_fn (A0 : Option Addr) (c0 : Nat) (l : List S54) (w : World) (hr0 : Kd.C k54 w A0 l.length l) (hl : l.length ≤ 140737488355318) (hin : ∀ f ∈ l, fnIn f) :
    Calls Tryd.prog 81 #[.slice A0 l.length c0, .func (.func 56) #[] #[]] w fun e w' => ∃ r : Int, e = .returned (.int .i64 r) ∧ ((0 ≤ r) = (l.any (fun x => !fnB x) = true)) ∧ Below w.heap.size w w' := by
  have HR0 := Aside0.mk hr0; have HIN := Aside0.mk hin
  clear hr0 hin
  go_enter Tryd.func81, Tryd.ntmps81
  go_wp2_with fail
  go_loopw [8] (fun v wr => ∃ (k : Nat), v = .int .i64 k ∧ Aside0 ((l.take k).any (fun x => !fnB x) = false) ∧ Aside0 (k ≤ l.length) ∧ Aside0 (Below w.heap.size w wr)) (fun v _ => l.length - (intOf v).toNat)
  case atStart => exact ⟨0, rfl, ⟨by simp⟩, ⟨Nat.zero_le _⟩, ⟨Below.refl _ _⟩⟩
  case round =>
    obtain ⟨k, rfl, HA, HK, HB⟩ := hrel
    have hk := HK.out
    by_cases hlt : k < l.length
    · have hC := Kd.C_below HR0.out HB.out
      obtain ⟨ad, A1, c1, A3, c3, A4, c4, e, hx0, hx1, hx2, hx3, hx4, g1, h1, g3, h3, g4, h4⟩ := at_T54 hC (k : Int) (by omega) (by omega)
      cases e
      have hget : rd_T54 l (k : Int) = l[k] := by
        unfold rd_T54
        simp only [Int.toNat_natCast, List.getD_eq_getElem?_getD]
        rw [List.getElem?_eq_getElem hlt]; rfl
      have hxx : l[k]? = some l[k] := List.getElem?_eq_getElem hlt
      have hfi := HIN.out l[k] (List.getElem_mem hlt)
      rw [hget] at hx0 hx1 hx2 hx3 hx4 g1 h1 g3 h3 g4 h4
      simp only [Int.toNat_natCast] at hx0 hx1 hx2 hx3 hx4
      generalize l[k] = x at hx0 hx1 hx2 hx3 hx4 g1 h1 g3 h3 g4 h4 hxx hfi
      have HX := Lib.hid hxx
      have z1 : decide ((k : Int) < (l.length : Int)) = true := decide_eq_true (by omega)
      have q1 : (0 ≤ (k : Int)) = True := eq_true (by omega)
      have q2 : ((k : Int) < (l.length : Int)) = True := eq_true (by omega)
      have HLT := Lib.hid hlt
      have hcall := fun W hb => ok2_ok x hfi A1 c1 A3 c3 A4 c4 W (Kd.C_below h1 hb) g1 (Kd.C_below h3 hb) g3 (Kd.C_below h4 hb) g4
      have HBW := Aside0.mk (Below.refl wr.heap.size wr)
      clear hC hget hxx hlt hfi g1 h1 g3 h3 g4 h4
      cases hp : fnB x with
      | false =>
        rw [hp] at hcall
        have HP := Lib.hid (show (!fnB x) = true by rw [hp]; rfl)
        clear hp
        go_wp2_with fail
        ((with_reducible refine (hcall _ (by repeat (first | (with_reducible first | exact HBW.out | apply below_alloc | apply pw_below_drewN | apply below_drew1) | exact HBW.out))).mono ?_); rintro e_ w_ ⟨rfl, hb⟩)
        clear hcall HBW
        have m_ := Aside0.mk (below_step (by repeat (first | (with_reducible first | exact HB.out | apply below_alloc | apply pw_below_drewN | apply below_drew1) | exact HB.out)) hb); clear HB hb; have HB := m_; clear m_
        go_wp2
        go_ret
        refine ⟨_, rfl, ?_, HB.out⟩
        have : l.any (fun x => !fnB x) = true := any_here HX.out HP.out
        rw [this]
        exact propext ⟨fun _ => rfl, fun _ => by omega⟩
      | true =>
        rw [hp] at hcall
        have HP := Lib.hid (show (!fnB x) = false by rw [hp]; rfl)
        clear hp
        go_wp2_with fail
        ((with_reducible refine (hcall _ (by repeat (first | (with_reducible first | exact HBW.out | apply below_alloc | apply pw_below_drewN | apply below_drew1) | exact HBW.out))).mono ?_); rintro e_ w_ ⟨rfl, hb⟩)
        clear hcall HBW
        have m_ := Aside0.mk (below_step (by repeat (first | (with_reducible first | exact HB.out | apply below_alloc | apply pw_below_drewN | apply below_drew1) | exact HB.out)) hb); clear HB hb; have HB := m_; clear m_
        go_wp2
        have hlt := HLT.out
        exact ⟨⟨k + 1, by go_num, ⟨any_more (p := fun x => !fnB x) HX.out HP.out HA.out⟩, ⟨hlt⟩, HB⟩, by simp [intOf]; omega⟩
    · have z1 : decide ((k : Int) < (l.length : Int)) = false := decide_eq_false (by omega)
      have hE := any_end (by omega) HA.out
      have HE := Lib.hid hE
      clear hE
      go_wp2
      go_ret
      refine ⟨_, rfl, ?_, HB.out⟩
      rw [HE.out]
      exact propext ⟨fun g => by omega, fun g => by cases g⟩
theorem contains_fn (A0 : Option Addr) (c0 : Nat) (l : List S54) (w : World) (hr0 : Kd.C k54 w A0 l.length l) (hl : l.length ≤ 140737488355318) (hin : ∀ f ∈ l, fnIn f) :
    Calls Tryd.prog 55 #[.slice A0 l.length c0, .func (.func 56) #[] #[]] w fun e w' => e = .returned (.bool (l.any (fun x => !fnB x))) ∧ Below w.heap.size w w' := by
  have hidx := index_fn A0 c0 l w hr0 hl hin
  clear hr0 hin
  go_enter Tryd.func55, Tryd.ntmps55
  go_wp2_with fail
  ((with_reducible refine hidx.mono ?_); rintro e_ w_ ⟨r, rfl, hr, hb⟩)
  have HR := Aside0.mk hr; have HB := Aside0.mk hb
  clear hidx hr hb
  go_wp2
  go_ret
  refine ⟨?_, HB.out⟩
  have := HR.out
  rw [show decide (r ≥ 0) = l.any (fun x => !fnB x) by rw [Bool.eq_iff_iff, decide_eq_true_eq, ← this]]
  rfl
def PIm.api_Fn_55.f (l : List S54) (q : Int) : Option Bool := if l.length ≤ 140737488355318 ∧ ∀ f ∈ l, fnIn f then some (l.any (fun x => !fnB x)) else none
theorem PIm.api_Fn_55.calls (A0 : Option Addr) (c0 : Nat) (l : List S54) (q : Int) (r : Bool) (w : World) (hr0 : Kd.C k54 w A0 l.length l) (hc0 : l.length ≤ c0) (h : PIm.api_Fn_55.f l q = some r) :
    Calls Tryd.prog 55 #[.slice A0 l.length c0, .func (.func 56) #[] #[]] w fun e w' => e = .returned (.bool r) ∧ Below w.heap.size w w' := by
  unfold PIm.api_Fn_55.f at h
  split at h
  · next hc =>
    obtain rfl := Option.some.inj h
    exact contains_fn A0 c0 l w hr0 hc.1 hc.2
  · cases h
end Go.Proofs.YteidgpaakoeefaaDoor
namespace Go.Proofs.YteidgpaakoeefaaDoor
open Go.RowKit Go.Proofs.YteidgpaakoeefaaDoorW.PrintWords Go.Proofs.YteidgpaakoeefaaDoorW.PrintLast Go.Proofs.YteidgpaakoeefaaDoorW.PrintMore
set_option linter.unusedVariables false
set_option linter.unusedSimpArgs false
open PIm
def natB (n : Int) : List Int := (numF [] n).1
def wholeB (n : Int) : List Int := venc (zz n).toNat
def rng (n : Int) : Prop := -9223372036854775808 ≤ n ∧ n ≤ 9223372036854775807
instance (n : Int) : Decidable (rng n) := by unfold rng; infer_instance
theorem nat_f (b : List Int) (n : Int) (hn : rng n) (hl : (b ++ natB n).length < 140737488355328) : image_nat.f b n = some (b ++ natB n) := by
  unfold image_nat.f wire_Num.f
  rw [if_pos ⟨by simp, hn.1, hn.2⟩, Option.bind_some]
  have : b.length + (numF [] n).1.length < 140737488355328 := by rw [List.length_append] at hl; exact hl
  rw [if_pos this]; rfl
theorem whole_f (b : List Int) (n : Int) (hn : rng n) (hl : (b ++ wholeB n).length < 140737488355328) : image_whole.f b n = some (b ++ wholeB n) := by
  unfold image_whole.f wire_Int.f
  rw [if_pos ⟨by simp, hn.1, hn.2⟩, Option.bind_some]
  have : b.length + ([] ++ venc (zz n).toNat).length < 140737488355328 := by rw [List.length_append] at hl; exact hl
  rw [if_pos this]; rfl
def putI (n : Int) : List Int := natB n
def putC (x : S50) : List Int := natB x.f0 ++ (wholeB x.f1 ++ natB x.f2)
def putG (x : S48) : List Int := natB x.f0 ++ (natB x.f1 ++ wholeB x.f2)
def rngI (n : Int) : Prop := rng n
def rngC (x : S50) : Prop := rng x.f0 ∧ rng x.f1 ∧ rng x.f2
def rngG (x : S48) : Prop := rng x.f0 ∧ rng x.f1 ∧ rng x.f2
instance (n : Int) : Decidable (rngI n) := by unfold rngI; infer_instance
instance (n : S50) : Decidable (rngC n) := by unfold rngC; infer_instance
instance (n : S48) : Decidable (rngG n) := by unfold rngG; infer_instance
theorem putC_f (b : List Int) (x : S50) (hn : rngC x) (hl : (b ++ putC x).length < 140737488355328) : image_Encode_2_1.f b x.f0 x.f1 x.f2 = some (b ++ putC x) := by
  unfold putC at hl
  simp only [List.length_append] at hl
  unfold image_Encode_2_1.f
  rw [nat_f b x.f0 hn.1 (by simp only [List.length_append]; omega), Option.bind_some, whole_f _ x.f1 hn.2.1 (by simp only [List.length_append]; omega), Option.bind_some, nat_f _ x.f2 hn.2.2 (by simp only [List.length_append]; omega)]
  simp [putC]
theorem putG_f (b : List Int) (x : S48) (hn : rngG x) (hl : (b ++ putG x).length < 140737488355328) : image_Encode_1.f b x.f0 x.f1 x.f2 = some (b ++ putG x) := by
  unfold putG at hl
  simp only [List.length_append] at hl
  unfold image_Encode_1.f
  rw [nat_f b x.f0 hn.1 (by simp only [List.length_append]; omega), Option.bind_some, nat_f _ x.f1 hn.2.1 (by simp only [List.length_append]; omega), Option.bind_some, whole_f _ x.f2 hn.2.2 (by simp only [List.length_append]; omega)]
  simp [putG]
theorem take_put {α : Type} {put : α → List Int} {l : List α} {k : Nat} {x : α} (h : l[k]? = some x) (b : List Int) : b ++ (l.take k).flatMap put ++ put x = b ++ (l.take (k + 1)).flatMap put := by
  obtain ⟨hi, hx⟩ := List.getElem?_eq_some_iff.1 h
  rw [List.take_succ_eq_append_getElem hi, List.flatMap_append, hx, List.append_assoc]; simp
theorem take_le {α : Type} {put : α → List Int} (l : List α) (k : Nat) (b : List Int) : (b ++ (l.take k).flatMap put).length ≤ (b ++ l.flatMap put).length := by
  have : l.flatMap put = (l.take k).flatMap put ++ (l.drop k).flatMap put := by rw [← List.flatMap_append, List.take_append_drop]
  rw [this]; simp only [List.length_append]; omega
set_option maxHeartbeats 4000000 in
set_option maxRecDepth 100000 in
theorem row_int (P0_ : Nat → Prop) (v : Value) (b : List Int) (A0 : Option Addr) (c0 : Nat) (l : List Int) (w0 w : World) (hB : Below w0.heap.size w0 w) (ho0 : Kd.R (Kd.int .u8) 5 w w0.heap.size P0_ v b)
    (hr : ∀ W', Kept w W' (fun k_ => P0_ k_) → Kd.C (Kd.int .i64) W' A0 l.length l) (hl : (b ++ natB l.length ++ l.flatMap putI).length < 140737488355328) (hll : l.length ≤ 140737488355318) (hx : ∀ x ∈ l, rngI x) :
    Calls Tryd.prog 30 #[v, .slice A0 l.length c0, .func (.func 26) #[] #[]] w fun e w' => ∃ v0_ : Value, e = .returned v0_ ∧ Kd.R (Kd.int .u8) 5 w' w0.heap.size (fun k_ => (P0_ k_ ∨ w.heap.size ≤ k_)) v0_ (b ++ natB l.length ++ l.flatMap putI) ∧ Below w0.heap.size w0 w' ∧ Kept w w' (fun k_ => P0_ k_) := by
  have hnat := image_nat.calls P0_ v b (l.length : Int) _ w0 w hB ho0 (nat_f b l.length ⟨by omega, by omega⟩ (by simp only [List.length_append] at hl ⊢; omega))
  have HR := Aside0.mk hr; have HL := Aside0.mk hl; have HX := Aside0.mk hx
  clear hr hl hx hB ho0
  go_enter Tryd.func30, Tryd.ntmps30
  go_wp2_with fail
  ((with_reducible refine hnat.mono ?_); rintro e_ w1 ⟨v1, rfl, ho, hb, hk⟩)
  have HO := Aside0.mk ho; have HB := Aside0.mk hb; have HK := Aside0.mk hk
  clear hnat ho hb hk
  go_wp2_with fail
  go_loopw [0, 15] (fun vb vi wr => ∃ (k : Nat), vi = .int .i64 k ∧ Aside0 (k ≤ l.length) ∧ Aside0 (Kd.R (Kd.int .u8) 5 wr w0.heap.size (fun k_ => (P0_ k_ ∨ w.heap.size ≤ k_)) vb (b ++ natB l.length ++ (l.take k).flatMap putI)) ∧ Aside0 (Below w0.heap.size w0 wr) ∧ Aside0 (Kept w wr (fun k_ => P0_ k_))) (fun _ v _ => l.length - (intOf v).toNat)
  case atStart => exact ⟨0, rfl, ⟨Nat.zero_le _⟩, ⟨by simpa using HO.out⟩, HB, HK⟩
  case round =>
    obtain ⟨k, rfl, HN, HO, HB, HK⟩ := hrel
    have hk := HN.out
    by_cases hlt : k < l.length
    · have hC := HR.out _ HK.out
      obtain ⟨ad, e, hx⟩ := Kd.at_int hC (k : Int) (by omega) (by omega)
      cases e
      have hget : rd l (k : Int) = l[k] := by
        unfold rd
        simp only [Int.toNat_natCast, List.getD_eq_getElem?_getD]
        rw [List.getElem?_eq_getElem hlt]; rfl
      have hxx : l[k]? = some l[k] := List.getElem?_eq_getElem hlt
      have hrx := HX.out l[k] (List.getElem_mem hlt)
      rw [hget] at hx
      simp only [Int.toNat_natCast] at hx
      generalize l[k] = x at hx hxx hrx
      have z1 : decide ((k : Int) < (l.length : Int)) = true := decide_eq_true (by omega)
      have q1 : (0 ≤ (k : Int)) = True := eq_true (by omega)
      have q2 : ((k : Int) < (l.length : Int)) = True := eq_true (by omega)
      have hf := nat_f (b ++ natB l.length ++ (l.take k).flatMap putI) x hrx (by
        have h1 := take_put (put := putI) hxx (b ++ natB l.length)
        have h2 := take_le (put := putI) l (k + 1) (b ++ natB l.length)
        rw [← h1] at h2
        exact Nat.lt_of_le_of_lt h2 HL.out)
      have hcall := fun W hb ho => image_nat.calls (fun k_ => (P0_ k_ ∨ w.heap.size ≤ k_)) u0 (b ++ natB l.length ++ (l.take k).flatMap putI) x _ w0 W hb ho hf
      have HXX := Lib.hid hxx; have HLT := Lib.hid hlt
      clear hC hget hxx hrx hf hlt
      go_wp2_with fail
      ((with_reducible refine (hcall _ (by repeat (first | (with_reducible first | exact HB.out | apply below_alloc | apply pw_below_drewN | apply below_drew1) | exact HB.out)) (by (with_reducible repeat (first | apply Kd.R_alloc | apply Kd.R_drewN | apply Kd.R_drew)); exact HO.out)).mono ?_); rintro e_ w_ ⟨v2, rfl, ho, hb, hkp⟩)
      clear hcall
      have hsz := HK.out.1
      have m1_ := Aside0.mk (Kd.R_mono ho (fun k_ h_ => (h_.elim id (fun g_ => Or.inr (Nat.le_trans hsz (by first | exact g_ | (have g2_ := g_; simp at g2_; omega)))) : P0_ k_ ∨ w.heap.size ≤ k_)))
      have m2_ := Aside0.mk (Kept.then_ (by repeat (first | (with_reducible first | exact HK.out | apply Kept.alloc | apply Kept.drewN | apply Kept.drew) | exact HK.out)) hkp (fun _ h_ => h_))
      have HB2 := Aside0.mk hb
      clear ho hb hkp hsz HO HK HB
      go_wp2
      exact ⟨⟨k + 1, by go_num, ⟨HLT.out⟩, ⟨by rw [← take_put HXX.out]; exact m1_.out⟩, HB2, m2_⟩, by have := HLT.out; simp [intOf]; omega⟩
    · have z1 : decide ((k : Int) < (l.length : Int)) = false := decide_eq_false (by omega)
      obtain rfl : k = l.length := by omega
      go_wp2
      go_ret
      exact ⟨_, rfl, by rw [← List.take_length (l := l)]; simpa using HO.out, HB.out, HK.out⟩
set_option maxHeartbeats 4000000 in
set_option maxRecDepth 100000 in
theorem row_ins (P0_ : Nat → Prop) (v : Value) (b : List Int) (A0 : Option Addr) (c0 : Nat) (l : List S50) (w0 w : World) (hB : Below w0.heap.size w0 w) (ho0 : Kd.R (Kd.int .u8) 5 w w0.heap.size P0_ v b)
    (hr : ∀ W', Kept w W' (fun k_ => P0_ k_) → Kd.C k50 W' A0 l.length l) (hl : (b ++ natB l.length ++ l.flatMap putC).length < 140737488355328) (hll : l.length ≤ 140737488355318) (hx : ∀ x ∈ l, rngC x) :
    Calls Tryd.prog 31 #[v, .slice A0 l.length c0, .func (.func 32) #[] #[]] w fun e w' => ∃ v0_ : Value, e = .returned v0_ ∧ Kd.R (Kd.int .u8) 5 w' w0.heap.size (fun k_ => (P0_ k_ ∨ w.heap.size ≤ k_)) v0_ (b ++ natB l.length ++ l.flatMap putC) ∧ Below w0.heap.size w0 w' ∧ Kept w w' (fun k_ => P0_ k_) := by
  have hnat := image_nat.calls P0_ v b (l.length : Int) _ w0 w hB ho0 (nat_f b l.length ⟨by omega, by omega⟩ (by simp only [List.length_append] at hl ⊢; omega))
  have HR := Aside0.mk hr; have HL := Aside0.mk hl; have HX := Aside0.mk hx
  clear hr hl hx hB ho0
  go_enter Tryd.func31, Tryd.ntmps31
  go_wp2_with fail
  ((with_reducible refine hnat.mono ?_); rintro e_ w1 ⟨v1, rfl, ho, hb, hk⟩)
  have HO := Aside0.mk ho; have HB := Aside0.mk hb; have HK := Aside0.mk hk
  clear hnat ho hb hk
  go_wp2_with fail
  go_loopw [0, 15] (fun vb vi wr => ∃ (k : Nat), vi = .int .i64 k ∧ Aside0 (k ≤ l.length) ∧ Aside0 (Kd.R (Kd.int .u8) 5 wr w0.heap.size (fun k_ => (P0_ k_ ∨ w.heap.size ≤ k_)) vb (b ++ natB l.length ++ (l.take k).flatMap putC)) ∧ Aside0 (Below w0.heap.size w0 wr) ∧ Aside0 (Kept w wr (fun k_ => P0_ k_))) (fun _ v _ => l.length - (intOf v).toNat)
  case atStart => exact ⟨0, rfl, ⟨Nat.zero_le _⟩, ⟨by simpa using HO.out⟩, HB, HK⟩
  case round =>
    obtain ⟨k, rfl, HN, HO, HB, HK⟩ := hrel
    have hk := HN.out
    by_cases hlt : k < l.length
    · have hC := HR.out _ HK.out
      obtain ⟨ad, e, hx0, hx1, hx2⟩ := at_T50 hC (k : Int) (by omega) (by omega)
      cases e
      have hget : rd_T50 l (k : Int) = l[k] := by
        unfold rd_T50
        simp only [Int.toNat_natCast, List.getD_eq_getElem?_getD]
        rw [List.getElem?_eq_getElem hlt]; rfl
      have hxx : l[k]? = some l[k] := List.getElem?_eq_getElem hlt
      have hrx := HX.out l[k] (List.getElem_mem hlt)
      rw [hget] at hx0 hx1 hx2
      simp only [Int.toNat_natCast] at hx0 hx1 hx2
      generalize l[k] = x at hx0 hx1 hx2 hxx hrx
      have z1 : decide ((k : Int) < (l.length : Int)) = true := decide_eq_true (by omega)
      have q1 : (0 ≤ (k : Int)) = True := eq_true (by omega)
      have q2 : ((k : Int) < (l.length : Int)) = True := eq_true (by omega)
      have hf := putC_f (b ++ natB l.length ++ (l.take k).flatMap putC) x hrx (by
        have h1 := take_put (put := putC) hxx (b ++ natB l.length)
        have h2 := take_le (put := putC) l (k + 1) (b ++ natB l.length)
        rw [← h1] at h2
        exact Nat.lt_of_le_of_lt h2 HL.out)
      have hcall := fun W hb ho => image_Encode_2_1.calls (fun k_ => (P0_ k_ ∨ w.heap.size ≤ k_)) u0 (b ++ natB l.length ++ (l.take k).flatMap putC) x.f0 x.f1 x.f2 _ w0 W hb ho hf
      have HXX := Lib.hid hxx; have HLT := Lib.hid hlt
      clear hC hget hxx hrx hf hlt
      go_wp2_with fail
      ((with_reducible refine (hcall _ (by repeat (first | (with_reducible first | exact HB.out | apply below_alloc | apply pw_below_drewN | apply below_drew1) | exact HB.out)) (by (with_reducible repeat (first | apply Kd.R_alloc | apply Kd.R_drewN | apply Kd.R_drew)); exact HO.out)).mono ?_); rintro e_ w_ ⟨v2, rfl, ho, hb, hkp⟩)
      clear hcall
      have hsz := HK.out.1
      have m1_ := Aside0.mk (Kd.R_mono ho (fun k_ h_ => (h_.elim id (fun g_ => Or.inr (Nat.le_trans hsz (by first | exact g_ | (have g2_ := g_; simp at g2_; omega)))) : P0_ k_ ∨ w.heap.size ≤ k_)))
      have m2_ := Aside0.mk (Kept.then_ (by repeat (first | (with_reducible first | exact HK.out | apply Kept.alloc | apply Kept.drewN | apply Kept.drew) | exact HK.out)) hkp (fun _ h_ => h_))
      have HB2 := Aside0.mk hb
      clear ho hb hkp hsz HO HK HB
      go_wp2
      exact ⟨⟨k + 1, by go_num, ⟨HLT.out⟩, ⟨by rw [← take_put HXX.out]; exact m1_.out⟩, HB2, m2_⟩, by have := HLT.out; simp [intOf]; omega⟩
    · have z1 : decide ((k : Int) < (l.length : Int)) = false := decide_eq_false (by omega)
      obtain rfl : k = l.length := by omega
      go_wp2
      go_ret
      exact ⟨_, rfl, by rw [← List.take_length (l := l)]; simpa using HO.out, HB.out, HK.out⟩
end Go.Proofs.YteidgpaakoeefaaDoor
namespace Go.Proofs.YteidgpaakoeefaaDoor
open Go.RowKit Go.Proofs.YteidgpaakoeefaaDoorW.PrintWords Go.Proofs.YteidgpaakoeefaaDoorW.PrintLast Go.Proofs.YteidgpaakoeefaaDoorW.PrintMore
set_option linter.unusedVariables false
set_option linter.unusedSimpArgs false
open PIm
def rowI (l : List Int) : List Int := natB l.length ++ l.flatMap putI
def rowC (l : List S50) : List Int := natB l.length ++ l.flatMap putC
def rowG (l : List S48) : List Int := natB l.length ++ l.flatMap putG
def PIm.api_Glob_23.f (b : List Int) (l : List S48) (q : Int) : Option (List Int) := if (b ++ natB l.length ++ l.flatMap putG).length < 140737488355328 ∧ l.length ≤ 140737488355318 ∧ ∀ x ∈ l, rngG x then some (b ++ rowG l) else none
def textB (t : ByteArray) : List Int := venc t.size ++ bytesOf t
def putF (f : S54) : List Int := textB f.f0 ++ (rowI f.f1 ++ (natB f.f2 ++ (rowI (f.f3.drop f.f1.length) ++ rowC f.f4)))
def rngF (f : S54) : Prop := f.f0.size ≤ 65536 ∧ (∀ x ∈ f.f1, rngI x) ∧ rng f.f2 ∧ (∀ x ∈ f.f3, rngI x) ∧ (∀ x ∈ f.f4, rngC x) ∧ f.f1.length ≤ f.f3.length ∧ f.f3.length ≤ 140737488355318 ∧ f.f4.length ≤ 140737488355318
instance (f : S54) : Decidable (rngF f) := by unfold rngF; infer_instance
def rowF (l : List S54) : List Int := natB l.length ++ l.flatMap putF
def bodyF (gs : List S48) (fs : List S54) : List Int := [84, 73, 76, 84] ++ rowG gs ++ rowF fs
def okF (gs : List S48) (fs : List S54) : Bool := decide (gs.length ≤ 64) && (decide (fs.length ≤ 64) && (!(gs.any fun x => !globB x) && !(fs.any fun x => !fnB x)))
def encF (gs : List S48) (fs : List S54) : List Int × Int := if okF gs fs then (if 1048576 < (frameF (bodyF gs fs)).length then ([], 2) else (frameF (bodyF gs fs), 0)) else ([], 150)
end Go.Proofs.YteidgpaakoeefaaDoor
namespace Go.Proofs.YteidgpaakoeefaaDoor
open Go.RowKit Go.Proofs.YteidgpaakoeefaaDoorW.PrintWords Go.Proofs.YteidgpaakoeefaaDoorW.PrintLast Go.Proofs.YteidgpaakoeefaaDoorW.PrintMore
set_option linter.unusedVariables false
set_option linter.unusedSimpArgs false
open PIm
def PIm.wire_Text.f (l0 : List Int) (t : ByteArray) : Option (List Int × Int) := if l0.length ≤ 140737488000000 ∧ t.size ≤ 9223372036854775807 then some (textF l0 t) else none
theorem PIm.wire_Text.calls (A0 : Option Addr) (c0 : Nat) (l0 : List Int) (t : ByteArray) (r1 : List Int) (r2 : Int) (w : World) (hr0 : Kd.C (Kd.int .u8) w A0 l0.length l0) (hc0 : l0.length ≤ c0) (h : PIm.wire_Text.f l0 t = some (r1, r2)) :
    Calls Tryd.prog 29 #[.slice A0 l0.length c0, .string t] w fun e w' => ∃ v0_ : Value, e = .returned (.tuple #[v0_, .int .i64 r2]) ∧ Kd.R (Kd.int .u8) 5 w' w.heap.size (fun _ => True) v0_ r1 ∧ Below w.heap.size w w' := by
  unfold PIm.wire_Text.f at h
  split at h
  · next hc =>
    have e := Option.some.inj h
    have := Text_calls A0 c0 l0 t w hr0 hc.1 hc.2
    rw [e] at this
    exact this
  · cases h
def PIm.image_row_int.f (b : List Int) (l : List Int) (q : Int) : Option (List Int) := if (b ++ natB l.length ++ l.flatMap putI).length < 140737488355328 ∧ l.length ≤ 140737488355318 ∧ ∀ x ∈ l, rngI x then some (b ++ rowI l) else none
theorem PIm.image_row_int.calls (P0_ : Nat → Prop) (u9000_ : Value) (b : List Int) (A0 : Option Addr) (c0 : Nat) (l : List Int) (q : Int) (r : List Int) (w0 w : World) (hB : Below w0.heap.size w0 w) (ho0 : Kd.R (Kd.int .u8) 5 w w0.heap.size P0_ u9000_ b)
    (hr : ∀ W', Kept w W' (fun k_ => P0_ k_) → Kd.C (Kd.int .i64) W' A0 l.length l) (hc : l.length ≤ c0) (h : PIm.image_row_int.f b l q = some r) :
    Calls Tryd.prog 30 #[u9000_, .slice A0 l.length c0, .func (.func 26) #[] #[]] w fun e w' => ∃ v0_ : Value, e = .returned v0_ ∧ Kd.R (Kd.int .u8) 5 w' w0.heap.size (fun k_ => (P0_ k_ ∨ w.heap.size ≤ k_)) v0_ r ∧ Below w0.heap.size w0 w' ∧ Kept w w' (fun k_ => P0_ k_) := by
  unfold PIm.image_row_int.f at h
  split at h
  · next hc =>
    obtain rfl := Option.some.inj h
    have := row_int P0_ u9000_ b A0 c0 l w0 w hB ho0 hr hc.1 hc.2.1 hc.2.2
    rw [List.append_assoc] at this
    exact this
  · cases h
def PIm.api_Instr.f (b : List Int) (l : List S50) (q : Int) : Option (List Int) := if (b ++ natB l.length ++ l.flatMap putC).length < 140737488355328 ∧ l.length ≤ 140737488355318 ∧ ∀ x ∈ l, rngC x then some (b ++ rowC l) else none
theorem PIm.api_Instr.calls (P0_ : Nat → Prop) (u9000_ : Value) (b : List Int) (A0 : Option Addr) (c0 : Nat) (l : List S50) (q : Int) (r : List Int) (w0 w : World) (hB : Below w0.heap.size w0 w) (ho0 : Kd.R (Kd.int .u8) 5 w w0.heap.size P0_ u9000_ b)
    (hr : ∀ W', Kept w W' (fun k_ => P0_ k_) → Kd.C k50 W' A0 l.length l) (hc : l.length ≤ c0) (h : PIm.api_Instr.f b l q = some r) :
    Calls Tryd.prog 31 #[u9000_, .slice A0 l.length c0, .func (.func 32) #[] #[]] w fun e w' => ∃ v0_ : Value, e = .returned v0_ ∧ Kd.R (Kd.int .u8) 5 w' w0.heap.size (fun k_ => (P0_ k_ ∨ w.heap.size ≤ k_)) v0_ r ∧ Below w0.heap.size w0 w' ∧ Kept w w' (fun k_ => P0_ k_) := by
  unfold PIm.api_Instr.f at h
  split at h
  · next hc =>
    obtain rfl := Option.some.inj h
    have := row_ins P0_ u9000_ b A0 c0 l w0 w hB ho0 hr hc.1 hc.2.1 hc.2.2
    rw [List.append_assoc] at this
    exact this
  · cases h
end Go.Proofs.YteidgpaakoeefaaDoor
namespace Go.Proofs.YteidgpaakoeefaaDoor.PIm
open Go.RowKit Go.Proofs.YteidgpaakoeefaaDoorW.PrintWords Go.Proofs.YteidgpaakoeefaaDoorW.PrintLast Go.Proofs.YteidgpaakoeefaaDoorW.PrintMore
attribute [local go_sem] max2_int min2_int max_two min_two max_three min_three max_four min_four   -- for this text's walks alone
set_option linter.unusedVariables false
set_option linter.unusedSimpArgs false
def image_Encode_2.f (l0 : List Int) (a1_0 : ByteArray) (l1_1 : List Int) (a1_2 : Int) (l1_3 : List Int) (l1_4 : List (S50)) : Option (List Int) := (wire_Text.f ([] : List Int) a1_0).bind fun bt110 => (if l0.length + bt110.1.length < 140737488355328 then ((image_row_int.f (l0 ++ bt110.1) l1_1 26).bind fun t117 => ((image_nat.f t117 a1_2).bind fun t120 => (if 0 ≤ (l1_1.length : Int) then (if (l1_1.length : Int) ≤ (l1_3.length : Int) then ((image_row_int.f t120 (l1_3.drop ((l1_1.length : Int) : Int).toNat) 26).bind fun t127 => ((api_Instr.f t127 l1_4 32).bind fun t130 => (some t130))) else (none)) else (none)))) else (none))
def image_Encode_2.T3 : Bool × List (List Nat × List Nat) := (true, [([], []), ([], []), ([1], [1]), ([0, 2], [0, 2]), ([], []), ([4], [4]), ([], []), ([6], [6]), ([7], [7]), ([5, 8], [5, 8]), ([3, 9, 3], [3, 9]), ([10, 10, 0, 1, 2, 3, 4, 5, 6, 7, 8, 9, 10], [0, 10])])
def image_Encode_2.B3 : List Nat := [0, 0, 2, 7, 0, 16, 0, 64, 192, 496, 1023, 2047]
theorem image_Encode_2.tab3 : rtab .any (opsOf Tryd.f28 3) = image_Encode_2.T3 := by kernel_rfl
theorem image_Encode_2.bits3 : waitsOk image_Encode_2.T3.2 image_Encode_2.B3 = true := by kernel_rfl
set_option maxHeartbeats 8000000 in
set_option maxRecDepth 100000 in
theorem image_Encode_2.calls (P0_ : Nat → Prop) (u9000_ : Value) (l0 : List Int) (a1_0 : ByteArray) (A1_1 : Option Addr) (c1_1 : Nat) (l1_1 : List Int) (a1_2 : Int) (A1_3 : Option Addr) (c1_3 : Nat) (l1_3 : List Int) (A1_4 : Option Addr) (c1_4 : Nat) (l1_4 : List (S50)) (r : List Int) (w0 w : World) (hB : Below w0.heap.size w0 w) (ho0 : Kd.R (Kd.int .u8) 5 w w0.heap.size P0_ u9000_ l0) (hr1_1 : ∀ W_, Kept w W_ (fun k_ => P0_ k_) → Kd.C (Kd.int .i64) W_ A1_1 l1_1.length l1_1) (hc1_1 : l1_1.length ≤ c1_1) (hr1_3 : ∀ W_, Kept w W_ (fun k_ => P0_ k_) → Kd.C (Kd.int .i64) W_ A1_3 l1_3.length l1_3) (hc1_3 : l1_3.length ≤ c1_3) (hr1_4 : ∀ W_, Kept w W_ (fun k_ => P0_ k_) → Kd.C k50 W_ A1_4 l1_4.length l1_4) (hc1_4 : l1_4.length ≤ c1_4) (h : image_Encode_2.f l0 a1_0 l1_1 a1_2 l1_3 l1_4 = some r) :
    Calls Tryd.prog 28 #[u9000_, .agg #[.string a1_0, .slice A1_1 l1_1.length c1_1, .int .i64 a1_2, .slice A1_3 l1_3.length c1_3, .slice A1_4 l1_4.length c1_4]] w fun e w' => ∃ v0_ : Value, e = .returned (v0_) ∧ Kd.R (Kd.int .u8) 5 w' w0.heap.size (fun k_ => (P0_ k_ ∨ w.heap.size ≤ k_)) v0_ r ∧ Below w0.heap.size w0 w' ∧ Kept w w' (fun k_ => P0_ k_) := by
  have hu54 := Tryd.underlying54
  have HO0 := Aside0.mk (show Kd.R (Kd.int .u8) 5 w w0.heap.size (fun k_ => (P0_ k_ ∨ w.heap.size ≤ k_)) u9000_ l0 from Kd.R_mono ho0 (fun k_ hk => (.inl hk)))
  have HR1_1 := Aside0.mk hr1_1
  have HC1_1 := Aside0.mk hc1_1
  clear hr1_1 hc1_1
  have HR1_3 := Aside0.mk hr1_3
  have HC1_3 := Aside0.mk hc1_3
  clear hr1_3 hc1_3
  have HR1_4 := Aside0.mk hr1_4
  have HC1_4 := Aside0.mk hc1_4
  clear hr1_4 hc1_4
  have HK := Aside0.mk (Kept.refl w (fun k_ => P0_ k_))
  have HW0 := Aside0.mk hB.size
  have HB := Aside0.mk hB
  clear hB
  have H : ((wire_Text.f ([] : List Int) a1_0).bind fun bt110 => (if l0.length + bt110.1.length < 140737488355328 then ((image_row_int.f (l0 ++ bt110.1) l1_1 26).bind fun t117 => ((image_nat.f t117 a1_2).bind fun t120 => (if 0 ≤ (l1_1.length : Int) then (if (l1_1.length : Int) ≤ (l1_3.length : Int) then ((image_row_int.f t120 (l1_3.drop ((l1_1.length : Int) : Int).toNat) 26).bind fun t127 => ((api_Instr.f t127 l1_4 32).bind fun t130 => (some t130))) else (none)) else (none)))) else (none))) = some r := h
  clear h
  replace H := Option.bind_eq_some_iff.mp H
  obtain ⟨⟨t110, t111⟩, A30, H⟩ := H
  replace H : (if l0.length + t110.length < 140737488355328 then ((image_row_int.f (l0 ++ t110) l1_1 26).bind fun t117 => ((image_nat.f t117 a1_2).bind fun t120 => (if 0 ≤ (l1_1.length : Int) then (if (l1_1.length : Int) ≤ (l1_3.length : Int) then ((image_row_int.f t120 (l1_3.drop ((l1_1.length : Int) : Int).toNat) 26).bind fun t127 => ((api_Instr.f t127 l1_4 32).bind fun t130 => (some t130))) else (none)) else (none)))) else (none)) = some r := H
  have A3 := Aside0.mk A30
  clear A30
  by_cases c4 : l0.length + t110.length < 140737488355328
  · rw [if_pos c4] at H
    have LMc4 := Aside0.mk c4
    clear c4
    obtain ⟨y114, hy114⟩ : ∃ y_ : List Int, y_ = (l0 ++ t110) := ⟨_, rfl⟩
    replace H : ((image_row_int.f y114 l1_1 26).bind fun t117 => ((image_nat.f t117 a1_2).bind fun t120 => (if 0 ≤ (l1_1.length : Int) then (if (l1_1.length : Int) ≤ (l1_3.length : Int) then ((image_row_int.f t120 (l1_3.drop ((l1_1.length : Int) : Int).toNat) 26).bind fun t127 => ((api_Instr.f t127 l1_4 32).bind fun t130 => (some t130))) else (none)) else (none)))) = some r := by first | (rw [hy114]; with_reducible exact H) | (have H2_ := (Option.bind_some _ _).symm.trans H; rw [hy114]; with_reducible exact H2_) | (have H2_ := (Option.bind_some _ _).symm.trans H; with_reducible exact H2_) | with_reducible exact H | (rw [hy114]; exact H) | exact H
    have Ny114 := Aside0.mk hy114
    clear hy114
    replace H := Option.bind_eq_some_iff.mp H
    obtain ⟨t117, A50, H⟩ := H
    replace H : ((image_nat.f t117 a1_2).bind fun t120 => (if 0 ≤ (l1_1.length : Int) then (if (l1_1.length : Int) ≤ (l1_3.length : Int) then ((image_row_int.f t120 (l1_3.drop ((l1_1.length : Int) : Int).toNat) 26).bind fun t127 => ((api_Instr.f t127 l1_4 32).bind fun t130 => (some t130))) else (none)) else (none))) = some r := H
    have A5 := Aside0.mk A50
    clear A50
    replace H := Option.bind_eq_some_iff.mp H
    obtain ⟨t120, A60, H⟩ := H
    replace H : (if 0 ≤ (l1_1.length : Int) then (if (l1_1.length : Int) ≤ (l1_3.length : Int) then ((image_row_int.f t120 (l1_3.drop ((l1_1.length : Int) : Int).toNat) 26).bind fun t127 => ((api_Instr.f t127 l1_4 32).bind fun t130 => (some t130))) else (none)) else (none)) = some r := H
    have A6 := Aside0.mk A60
    clear A60
    by_cases c7 : 0 ≤ (l1_1.length : Int)
    · rw [if_pos c7] at H
      have c7b0 := eq_true c7
      have c7b1 : decide (0 ≤ (l1_1.length : Int)) = true := decide_eq_true c7
      clear c7
      by_cases c8 : (l1_1.length : Int) ≤ (l1_3.length : Int)
      · rw [if_pos c8] at H
        have c8b0 := eq_true c8
        have c8b1 : decide ((l1_1.length : Int) ≤ (l1_3.length : Int)) = true := decide_eq_true c8
        clear c8
        obtain ⟨y123, hy123⟩ : ∃ y_ : List Int, y_ = (l1_3.drop ((l1_1.length : Int) : Int).toNat) := ⟨_, rfl⟩
        replace H : ((image_row_int.f t120 y123 26).bind fun t127 => ((api_Instr.f t127 l1_4 32).bind fun t130 => (some t130))) = some r := by first | (rw [hy123]; with_reducible exact H) | (have H2_ := (Option.bind_some _ _).symm.trans H; rw [hy123]; with_reducible exact H2_) | (have H2_ := (Option.bind_some _ _).symm.trans H; with_reducible exact H2_) | with_reducible exact H | (rw [hy123]; exact H) | exact H
        have Ny123 := Aside0.mk hy123
        clear hy123
        replace H := Option.bind_eq_some_iff.mp H
        obtain ⟨t127, A90, H⟩ := H
        replace H : ((api_Instr.f t127 l1_4 32).bind fun t130 => (some t130)) = some r := H
        have A9 := Aside0.mk A90
        clear A90
        replace H := Option.bind_eq_some_iff.mp H
        obtain ⟨t130, A100, H⟩ := H
        replace H : (some t130) = some r := H
        have A10 := Aside0.mk A100
        clear A100
        obtain rfl := Option.some.inj H
        go_enter Tryd.func28, Tryd.ntmps28
        try go_wp2_with (first | ((with_reducible refine gate_dst (N := 3) rfl ?_); refine box_event ?hg (N := 3) ?hd (cs := #[.string a1_0, .slice A1_1 l1_1.length c1_1, .int .i64 a1_2, .slice A1_3 l1_3.length c1_3, .slice A1_4 l1_4.length c1_4]) (t := 54) ?hr ?_; (case hd => rfl); (case hg => rfl); (case hr => first | (go_simp; done) | (go_simp; rfl)); intro gb109 hg w11 hbox hb; have n0_ := Aside0.mk (Kd.R_below (by (with_reducible repeat (first | apply Kd.R_alloc | apply Kd.R_drewN | apply Kd.R_drew)); exact HO0.out) hb); have n1_ := Aside0.mk (Kept.below (S := (fun k_ => P0_ k_)) (by repeat (first | (with_reducible first | exact HK.out | apply Kept.alloc | apply Kept.drewN | apply Kept.drew) | exact HK.out)) hb); have n2_ := Aside0.mk (below_step (by repeat (first | (with_reducible first | exact HB.out | apply below_alloc | apply pw_below_drewN | apply below_drew1) | exact HB.out)) hb); have n3_ := Aside0.mk (hbox); have n4_ := Aside0.mk ((by rw [hg]; exact (by first | exact HK.out.1 | exact (show Kept w _ (fun k_ => P0_ k_) from by repeat (first | (with_reducible first | exact HK.out | apply Kept.alloc | apply Kept.drewN | apply Kept.drew) | exact HK.out)).1) : w.heap.size ≤ gb109)); have n5_ := Aside0.mk ((by rw [hg]; exact (below_size (by repeat (first | (with_reducible first | exact HB.out | apply below_alloc | apply pw_below_drewN | apply below_drew1) | exact HB.out))) : w0.heap.size ≤ gb109)); clear HO0; clear HK; clear HB; have HO0 := n0_; have HK := n1_; have HB := n2_; have BK109 := n3_; have GW109 := n4_; have GE109 := n5_; clear n0_ n1_ n2_ n3_ n4_ n5_; clear hb hbox hg; have hcz12_0 : w11.cell? ⟨gb109, 0, none⟩ = some (.string a1_0) := (blk_cell BK109.out 0).trans rfl; have hcz12_1 : w11.cell? ⟨gb109, 1, none⟩ = some (.slice A1_1 l1_1.length c1_1) := (blk_cell BK109.out 1).trans rfl; have hcz12_2 : w11.cell? ⟨gb109, 2, none⟩ = some (.int .i64 a1_2) := (blk_cell BK109.out 2).trans rfl; have hcz12_3 : w11.cell? ⟨gb109, 3, none⟩ = some (.slice A1_3 l1_3.length c1_3) := (blk_cell BK109.out 3).trans rfl; have hcz12_4 : w11.cell? ⟨gb109, 4, none⟩ = some (.slice A1_4 l1_4.length c1_4) := (blk_cell BK109.out 4).trans rfl; have hfz12_0 := blk_frozen BK109.out 0; have hfz12_1 := blk_frozen BK109.out 1; have hfz12_2 := blk_frozen BK109.out 2; have hfz12_3 := blk_frozen BK109.out 3; have hfz12_4 := blk_frozen BK109.out 4) | ((with_reducible refine gate_callee (f := 29) rfl ?_); refine goesL_ (some 10) rfl rfl Tryd.func29 (by kernel_rfl) rfl #[.slice none 0 0, .string a1_0] rfl (by (try simp only [List.map_toArray, List.map_cons, List.map_nil]); first | done | rfl | (simp only [List.length_drop, List.length_take]; rfl)) ?_; (refine (wire_Text.calls _ _ ([] : List Int) a1_0 t110 t111 _ ?side1 ?side2 A3.out).mono ?_); (case side1 => exact Kd.C_nil _ _); (case side2 => exact Nat.le_refl _); rintro e w13 ⟨v112, rfl, ho0, hb⟩; refine ⟨_, rfl, ?_⟩; have n0_ := Aside0.mk (Kd.R_elder' (by (with_reducible repeat (first | apply Kd.R_alloc | apply Kd.R_drewN | apply Kd.R_drew)); exact HO0.out) (Kd.R_base ho0) hb); have n1_ := Aside0.mk (Kd.R_lower (Kd.R_new' (Kd.R_newM (M := fun k_ => (P0_ k_ ∨ w.heap.size ≤ k_)) ho0 (by first | exact HK.out.1 | exact (show Kept w _ (fun k_ => P0_ k_) from by repeat (first | (with_reducible first | exact HK.out | apply Kept.alloc | apply Kept.drewN | apply Kept.drew | refine Kept.setCell ?_ (.inr GW109.out) _) | exact HK.out)).1) (fun k_ h_ => .inr h_)) (Kd.R_lt (by (with_reducible repeat (first | apply Kd.R_alloc | apply Kd.R_drewN | apply Kd.R_drew)); exact HO0.out))) (below_size (by repeat (first | (with_reducible first | exact HB.out | apply below_alloc | apply pw_below_drewN | apply below_drew1 | refine below_set ?_ GE109.out) | exact HB.out)))); have n2_ := Aside0.mk (blk_below (g := gb109) (o := .cells #[.string a1_0, .slice A1_1 l1_1.length c1_1, .int .i64 a1_2, .slice A1_3 l1_3.length c1_3, .slice A1_4 l1_4.length c1_4] 54 (0, 0)) (by (with_reducible repeat (first | refine blk_drewN ?_ _ | refine blk_drew ?_ | refine blk_alloc ?_ _)); exact BK109.out) hb); have n3_ := Aside0.mk (Kept.below (S := (fun k_ => P0_ k_)) (by repeat (first | (with_reducible first | exact HK.out | apply Kept.alloc | apply Kept.drewN | apply Kept.drew | refine Kept.setCell ?_ (.inr GW109.out) _) | exact HK.out)) hb); have n4_ := Aside0.mk (below_step (by repeat (first | (with_reducible first | exact HB.out | apply below_alloc | apply pw_below_drewN | apply below_drew1 | refine below_set ?_ GE109.out) | exact HB.out)) hb); clear HO0; clear BK109; clear HK; clear HB; have HO0 := n0_; have HO113 := n1_; have BK109 := n2_; have HK := n3_; have HB := n4_; clear n0_ n1_ n2_ n3_ n4_; (try clear hb); (try clear hb2); (try clear hk); (try clear hi); (try clear ho0)))
        have n0_ := Aside0.mk (Kd.R_drew HO0.out)
        have n1_ := Aside0.mk (Kd.R_drew HO113.out)
        have n2_ := Aside0.mk (blk_drew BK109.out)
        have n3_ := Aside0.mk (Kept.drew HK.out)
        have n4_ := Aside0.mk (below_drew1 HB.out)
        clear HO0
        clear HO113
        clear BK109
        clear HK
        clear HB
        have HO0 := n0_
        have HO113 := n1_
        have BK109 := n2_
        have HK := n3_
        have HB := n4_
        clear n0_ n1_ n2_ n3_ n4_
        obtain ⟨Ao16, co16, eo16⟩ := Kd.R_slice HO113.out
        (first | subst eo16 | (injection eo16 with f1_ f2_ f3_; have f4_ := f1_.symm; have f5_ := f3_.symm; clear f1_ f2_ f3_; subst f4_; subst f5_))
        refine start_ (n := 7) (S := fun w' => w'.cell? ⟨gb109, 0, none⟩ = some (.string a1_0) ∧ w'.cell? ⟨gb109, 1, none⟩ = some (.slice A1_1 l1_1.length c1_1) ∧ w'.cell? ⟨gb109, 2, none⟩ = some (.int .i64 a1_2) ∧ w'.cell? ⟨gb109, 3, none⟩ = some (.slice A1_3 l1_3.length c1_3) ∧ w'.cell? ⟨gb109, 4, none⟩ = some (.slice A1_4 l1_4.length c1_4)) (ds := []) #[false, false, false, false, false, false, false] (by kernel_rfl) rfl rfl ⟨(blk_cell BK109.out 0).trans rfl, (blk_cell BK109.out 1).trans rfl, (blk_cell BK109.out 2).trans rfl, (blk_cell BK109.out 3).trans rfl, (blk_cell BK109.out 4).trans rfl⟩ (fun hHeld => ?_)
        generalize w13.drew = w14 at HO0 HO113 BK109 HK HB hHeld ⊢
        refine pure_ (i := 0) (N := some 13) (v := ?_) (a' := ?_) #[true, false, false, false, false, false, false] rfl rfl (by kernel_rfl) (fun _ _ _ h => h) (Or.inl ⟨by rfl, ?_⟩) ?_ ?_
        rotate_left
        · intro w'
          go_simp
          with_reducible rfl
        rotate_left
        · simp only [Act.put, List.setIfInBounds_toArray, List.set_cons_zero, List.set_cons_succ, i64_w, i32_w]
          rfl
        refine pure_ (i := 1) (N := some 14) (v := ?_) (a' := ?_) #[true, true, false, false, false, false, false] rfl rfl (by kernel_rfl) (fun _ _ _ h => h) (Or.inl ⟨by rfl, ?_⟩) ?_ ?_
        rotate_left
        · intro w'
          go_simp
          with_reducible rfl
        rotate_left
        · simp only [Act.put, List.setIfInBounds_toArray, List.set_cons_zero, List.set_cons_succ, i64_w, i32_w]
          rfl
        refine pure_ (i := 3) (N := some 16) (v := ?_) (a' := ?_) #[true, true, false, true, false, false, false] rfl rfl (by kernel_rfl) (fun _ _ _ h => h) (Or.inl ⟨by rfl, ?_⟩) ?_ ?_
        rotate_left
        · intro w'
          go_simp
          with_reducible rfl
        rotate_left
        · simp only [Act.put, List.setIfInBounds_toArray, List.set_cons_zero, List.set_cons_succ, i64_w, i32_w]
          rfl
        refine take_ (i := 4) (N := some 17) (v := ?_) (a' := ?_) #[true, true, false, true, true, false, false] rfl rfl (by kernel_rfl) (fun _ _ _ h => h) (Or.inl ⟨by rfl, ?_⟩) hHeld ?_ ?_
        rotate_left
        · rintro w' ⟨s0, s1, s2, s3, s4⟩
          go_simp
          with_reducible rfl
        rotate_left
        · simp only [Act.put, List.setIfInBounds_toArray, List.set_cons_zero, List.set_cons_succ, i64_w, i32_w]
          rfl
        refine one_ (i := 2) (N := some 15) #[true, true, true, true, true, false, false] rfl rfl (by kernel_rfl) (by decide) (fun K hK => ?_)
        refine Kd.R_append_rows_step (Kd.int .u8) (w0 := w0) w0.heap.size (by rfl) (.tmp 13) (.tmp 14) 30 5 (.int .u8 0) 1 rfl Tryd.underlying30 info5 rfl (by decide) (by omega) u9000_ l0 t110 _ _ _ (fun k_ => (P0_ k_ ∨ w.heap.size ≤ k_) ∧ some k_ ≠ (.slice Ao16 t110.length co16 : Value).ownBlock) (fun _ => False) rfl rfl ?aO ?aR (fun _ _ h => h) (fun _ h => h.elim) ?aF ?aB ?aS ?aL ?_
        (case aR => repeat (first | exact (Kd.R_reads' HO113.out).2.2 | (with_reducible refine Kd.C_alloc ?_ _) | (with_reducible refine Kd.C_drewN ?_ _) | (with_reducible refine Kd.C_drew ?_)))
        (case aB => exact (by repeat (first | (with_reducible first | exact HB.out | apply below_alloc | apply pw_below_drewN | apply below_drew1 | refine below_set ?_ GE109.out) | exact HB.out)))
        (case aF => exact (fun k_ hk => ⟨(.inr (Nat.le_trans (by first | exact HK.out.1 | exact (show Kept w _ (fun k_ => P0_ k_) from by repeat (first | (with_reducible first | exact HK.out | apply Kept.alloc | apply Kept.drewN | apply Kept.drew | refine Kept.setCell ?_ (.inr GW109.out) _) | exact HK.out)).1) hk)), Kd.fresh' (Kd.R_lt (by (with_reducible repeat (first | apply Kd.R_alloc | apply Kd.R_drewN | apply Kd.R_drew)); exact HO113.out)) k_ hk⟩))
        (case aO => exact (by (with_reducible repeat (first | apply Kd.R_alloc | apply Kd.R_drewN | apply Kd.R_drew)); exact HO0.out))
        (case aS => exact (below_size (by repeat (first | (with_reducible first | exact HB.out | apply below_alloc | apply pw_below_drewN | apply below_drew1 | refine below_set ?_ GE109.out) | exact HB.out))))
        (case aL => have := LMc4.out; omega)
        intro v115 w15 ho hb hg hat
        rw [← Ny114.out] at ho
        have n0_ := Aside0.mk (blk_grown (g := gb109) (o := .cells #[.string a1_0, .slice A1_1 l1_1.length c1_1, .int .i64 a1_2, .slice A1_3 l1_3.length c1_3, .slice A1_4 l1_4.length c1_4] 54 (0, 0)) (by (with_reducible repeat (first | refine blk_drewN ?_ _ | refine blk_drew ?_ | refine blk_alloc ?_ _)); exact BK109.out) hg (Kd.R_ne HO0.out BK109.out (by decide)))
        have n1_ := Aside0.mk (Kd.R_after (ok := (fun k_ => (P0_ k_ ∨ w.heap.size ≤ k_))) (by (with_reducible repeat (first | apply Kd.R_alloc | apply Kd.R_drewN | apply Kd.R_drew)); exact Kd.R_mono HO113.out (fun _ hk => ⟨hk.1.1, hk.2⟩)) hg hat)
        have n2_ := Aside0.mk (hb)
        have n3_ := Aside0.mk (Kept.of_grown (S := (fun k_ => P0_ k_)) hg (by repeat (first | (with_reducible first | exact HK.out | apply Kept.alloc | apply Kept.drewN | apply Kept.drew | refine Kept.setCell ?_ (.inr GW109.out) _) | exact HK.out)) (fun k_ e_ => (HO0.out.1 k_ e_).1))
        have n4_ := Aside0.mk (ho)
        clear BK109
        clear HO113
        clear HB
        clear HK
        clear HO0
        have BK109 := n0_
        have HO113 := n1_
        have HB := n2_
        have HK := n3_
        have HO116 := n4_
        clear n0_ n1_ n2_ n3_ n4_
        clear ho hb hg hat
        obtain ⟨Ao17, co17, eo17⟩ := Kd.R_slice HO116.out
        (first | subst eo17 | (injection eo17 with f1_ f2_ f3_; have f4_ := f1_.symm; have f5_ := f3_.symm; clear f1_ f2_ f3_; subst f4_; subst f5_))
        refine hK.out _ _ ⟨(blk_cell BK109.out 0).trans rfl, (blk_cell BK109.out 1).trans rfl, (blk_cell BK109.out 2).trans rfl, (blk_cell BK109.out 3).trans rfl, (blk_cell BK109.out 4).trans rfl⟩ (fun hHeld => ?_)
        clear hK K
        refine norm_ (a' := ?_) ?_ ?_
        rotate_left
        · show Act.put _ (some 15) _ = _
          simp only [Act.put, List.setIfInBounds_toArray, List.set_cons_zero, List.set_cons_succ, i64_w, i32_w]
          rfl
        refine one_ (i := 5) (N := some 18) #[true, true, true, true, true, true, false] rfl rfl (by kernel_rfl) (by decide) (fun K hK => ?_)
        refine goes_ Tryd.func30 (by kernel_rfl) rfl #[.slice Ao17 y114.length co17, .slice A1_1 l1_1.length c1_1, .func (.func 26) #[] #[]] (by rfl) rfl rfl (by (try simp only [List.map_toArray, List.map_cons, List.map_nil]); first | done | rfl | (simp only [List.length_drop, List.length_take]; rfl)) ?_
        with_reducible refine (image_row_int.calls (fun k_ => some k_ = (.slice Ao17 y114.length co17 : Value).ownBlock) (.slice Ao17 y114.length co17) y114 _ _ l1_1 26 t117 w0 _ ?side1 ?side2 ?side3 ?side4 A5.out).mono ?_
        (case side1 => repeat (first | (with_reducible first | exact HB.out | apply below_alloc | apply pw_below_drewN | apply below_drew1 | refine below_set ?_ GE109.out) | exact HB.out))
        (case side2 => exact Kd.R_tight rfl HO116.out)
        (case side3 => exact Kd.C_kept_call HR1_1.out (by repeat (first | (with_reducible first | exact HK.out | apply Kept.alloc | apply Kept.drewN | apply Kept.drew | refine Kept.setCell ?_ (.inr GW109.out) _) | exact HK.out)) (fun k_ hs_ => (fun e_ => (HO116.out.1 k_ e_.symm).1) hs_))
        (case side4 => exact HC1_1.out)
        rintro e w18 ⟨v118, rfl, ho0, hb, hkp⟩
        refine ⟨_, rfl, ?_⟩
        have n0_ := Aside0.mk (blk_kept (by (with_reducible repeat (first | refine blk_drewN ?_ _ | refine blk_drew ?_ | refine blk_alloc ?_ _)); exact BK109.out) hkp (fun hs_ => (fun e_ => (Kd.R_ne HO116.out BK109.out (by decide)) e_) hs_))
        have n1_ := Aside0.mk (Kd.R_mono (ok' := fun k_ => (P0_ k_ ∨ w.heap.size ≤ k_) ∧ some k_ ≠ (v118 : Value).ownBlock) (Kd.R_keptB (HO113.out) hkp (fun k_ hk_ hs_ => (hk_.2) hs_)) (fun k_ hk_ => ⟨hk_.1.1, fun e_ => Or.elim (ho0.1 k_ e_.symm) (fun hs_ => hk_.2.1 hs_) (fun hn_ => Nat.not_le.2 hk_.2.2 hn_)⟩))
        have n2_ := Aside0.mk (Kd.R_mono (ok' := fun k_ => (P0_ k_ ∨ w.heap.size ≤ k_) ∧ some k_ ≠ (.slice Ao16 t110.length co16 : Value).ownBlock) ho0 (fun k_ hk_ => ⟨Or.elim hk_ (fun hs_ => (HO116.out.1 k_ (hs_).symm).1) (fun hn_ => (.inr (Nat.le_trans (by first | exact HK.out.1 | exact (show Kept w _ (fun k_ => P0_ k_) from by repeat (first | (with_reducible first | exact HK.out | apply Kept.alloc | apply Kept.drewN | apply Kept.drew | refine Kept.setCell ?_ (.inr GW109.out) _) | exact HK.out)).1) hn_))), Or.elim hk_ (fun hs_ => fun e_ => (((HO113.out).1 k_ e_.symm).2) hs_) (fun hn_ => (Kd.fresh' (Kd.R_lt (by (with_reducible repeat (first | apply Kd.R_alloc | apply Kd.R_drewN | apply Kd.R_drew)); exact HO113.out)) k_ hn_))⟩))
        have n3_ := Aside0.mk (Kept.then_ (S := (fun k_ => P0_ k_)) (by repeat (first | (with_reducible first | exact HK.out | apply Kept.alloc | apply Kept.drewN | apply Kept.drew | refine Kept.setCell ?_ (.inr GW109.out) _) | exact HK.out)) hkp (fun k_ hs_ => (fun e_ => (HO116.out.1 k_ e_.symm).1) hs_))
        have n4_ := Aside0.mk (hb)
        clear BK109
        clear HO113
        clear HK
        clear HB
        clear HO116
        have BK109 := n0_
        have HO113 := n1_
        have HO119 := n2_
        have HK := n3_
        have HB := n4_
        clear n0_ n1_ n2_ n3_ n4_
        (try clear hb)
        (try clear hkp)
        (try clear ho0)
        refine hK.out _ _ ⟨(blk_cell BK109.out 0).trans rfl, (blk_cell BK109.out 1).trans rfl, (blk_cell BK109.out 2).trans rfl, (blk_cell BK109.out 3).trans rfl, (blk_cell BK109.out 4).trans rfl⟩ (fun hHeld => ?_)
        clear hK K
        refine norm_ (a' := ?_) ?_ ?_
        rotate_left
        · show Act.put _ (some 18) _ = _
          simp only [Act.put, List.setIfInBounds_toArray, List.set_cons_zero, List.set_cons_succ, i64_w, i32_w]
          rfl
        refine pure_ (i := 6) (N := some 0) (v := ?_) (a' := ?_) #[true, true, true, true, true, true, true] rfl rfl (by kernel_rfl) (fun _ _ _ h => h) (Or.inl ⟨by rfl, ?_⟩) ?_ ?_
        rotate_left
        · intro w'
          go_simp
          with_reducible rfl
        rotate_left
        · simp only [Act.put, List.setIfInBounds_toArray, List.set_cons_zero, List.set_cons_succ, i64_w, i32_w]
          rfl
        refine done_ (by kernel_rfl) ?_
        try go_wp2
        have n0_ := Aside0.mk (Kd.R_drew HO113.out)
        have n1_ := Aside0.mk (Kd.R_drew HO119.out)
        have n2_ := Aside0.mk (blk_drew BK109.out)
        have n3_ := Aside0.mk (Kept.drew HK.out)
        have n4_ := Aside0.mk (below_drew1 HB.out)
        clear HO113
        clear HO119
        clear BK109
        clear HK
        clear HB
        have HO113 := n0_
        have HO119 := n1_
        have BK109 := n2_
        have HK := n3_
        have HB := n4_
        clear n0_ n1_ n2_ n3_ n4_
        have q20 : ((l1_1.length : Int) : Int) ≤ ((l1_3.length : Int) : Int) := of_decide_eq_true (by first | (with_reducible assumption) | assumption)
        obtain ⟨i020, hi020, _, hsz20, _⟩ := info_parts info3
        have hroom20 : l1_3.length ≤ c1_3 := HC1_3.out
        have hC20 : Kd.C (Kd.int .i64) _ A1_3 l1_3.length l1_3 := (Kd.C_kept_now HR1_3.out HK.out)
        have q020 : (0 : Int) ≤ ((l1_1.length : Int) : Int) := of_decide_eq_true (by first | (with_reducible assumption) | assumption)
        have hcut20 := cut_from (P := Tryd.prog) 52 3 .i64 Tryd.underlying52 hi020 1 hsz20 A1_3 l1_3.length c1_3 (l1_1.length : Int) q020 q20
        have hr20 := Kd.C_drop (m := ((l1_1.length : Int) : Int).toNat) (c := c1_3) hC20 (by omega) hroom20
        obtain ⟨A20, hA20⟩ : ∃ A1, A1 = (if c1_3 = ((l1_1.length : Int) : Int).toNat then A1_3 else (A1_3 : Option Addr).map (·.add (((l1_1.length : Int) : Int).toNat * 1))) := ⟨_, rfl⟩
        obtain ⟨c20, hc20⟩ : ∃ c1, c1 = c1_3 - ((l1_1.length : Int) : Int).toNat := ⟨_, rfl⟩
        have hy20 : y123.length = l1_3.length - ((l1_1.length : Int) : Int).toNat := (by rw [Ny123.out, List.length_drop] <;> omega)
        rw [show (l1_3).drop ((l1_1.length : Int) : Int).toNat = y123 from Ny123.out.symm] at hr20
        replace hr20 : Kd.C (Kd.int .i64) _ A20 y123.length y123 := (by rw [hA20]; exact hr20)
        rw [← hy20, ← hA20, ← hc20] at hcut20
        have HR126 := Aside0.mk hr20
        have HC126 := Aside0.mk (show y123.length ≤ c20 from by rw [hy20, hc20]; exact Nat.sub_le_sub_right hroom20 _)
        clear hr20 hC20 hroom20 hi020 hsz20 hc20
        have KY20 := Aside0.mk hy20
        have KA20 := Aside0.mk hA20
        clear hy20 hA20
        have KL20 := Aside0.mk (show ((l1_1.length : Int) : Int).toNat ≤ l1_3.length from by omega)
        replace q20 := eq_true q20
        obtain ⟨Ao21, co21, eo21⟩ := Kd.R_slice HO119.out
        (first | subst eo21 | (injection eo21 with f1_ f2_ f3_; have f4_ := f1_.symm; have f5_ := f3_.symm; clear f1_ f2_ f3_; subst f4_; subst f5_))
        refine start_ (n := 12) (S := fun w' => w'.cell? ⟨gb109, 0, none⟩ = some (.string a1_0) ∧ w'.cell? ⟨gb109, 1, none⟩ = some (.slice A1_1 l1_1.length c1_1) ∧ w'.cell? ⟨gb109, 2, none⟩ = some (.int .i64 a1_2) ∧ w'.cell? ⟨gb109, 3, none⟩ = some (.slice A1_3 l1_3.length c1_3) ∧ w'.cell? ⟨gb109, 4, none⟩ = some (.slice A1_4 l1_4.length c1_4)) (ds := []) #[false, false, false, false, false, false, false, false, false, false, false, false] (by kernel_rfl) rfl rfl ⟨(blk_cell BK109.out 0).trans rfl, (blk_cell BK109.out 1).trans rfl, (blk_cell BK109.out 2).trans rfl, (blk_cell BK109.out 3).trans rfl, (blk_cell BK109.out 4).trans rfl⟩ (fun hHeld => ?_); refine with_tabW image_Encode_2.tab3 image_Encode_2.bits3 (fun HT_ HW_ => ?_)
        generalize w18.drew = w19 at HO113 HO119 BK109 HK HB HR126 hHeld ⊢
        refine pure_ (i := 0) (N := some 19) (v := ?_) (a' := ?_) #[true, false, false, false, false, false, false, false, false, false, false, false] rfl rfl (any_of HT_.out (by kernel_rfl)) (fun _ _ _ h => h) (Or.inl ⟨by rfl, ?_⟩) ?_ ?_
        rotate_left
        · intro w'
          go_simp
          with_reducible rfl
        rotate_left
        · simp only [Act.put, List.setIfInBounds_toArray, List.set_cons_zero, List.set_cons_succ, i64_w, i32_w]
          rfl
        refine pure_ (i := 1) (N := some 20) (v := ?_) (a' := ?_) #[true, true, false, false, false, false, false, false, false, false, false, false] rfl rfl (any_of HT_.out (by kernel_rfl)) (fun _ _ _ h => h) (Or.inl ⟨by rfl, ?_⟩) ?_ ?_
        rotate_left
        · intro w'
          go_simp
          with_reducible rfl
        rotate_left
        · simp only [Act.put, List.setIfInBounds_toArray, List.set_cons_zero, List.set_cons_succ, i64_w, i32_w]
          rfl
        refine pure_ (i := 4) (N := some 23) (v := ?_) (a' := ?_) #[true, true, false, false, true, false, false, false, false, false, false, false] rfl rfl (any_of HT_.out (by kernel_rfl)) (fun _ _ _ h => h) (Or.inl ⟨by rfl, ?_⟩) ?_ ?_
        rotate_left
        · intro w'
          go_simp
          with_reducible rfl
        rotate_left
        · simp only [Act.put, List.setIfInBounds_toArray, List.set_cons_zero, List.set_cons_succ, i64_w, i32_w]
          rfl
        refine pure_ (i := 6) (N := some 25) (v := ?_) (a' := ?_) #[true, true, false, false, true, false, true, false, false, false, false, false] rfl rfl (any_of HT_.out (by kernel_rfl)) (fun _ _ _ h => h) (Or.inl ⟨by rfl, ?_⟩) ?_ ?_
        rotate_left
        · intro w'
          go_simp
          with_reducible rfl
        rotate_left
        · simp only [Act.put, List.setIfInBounds_toArray, List.set_cons_zero, List.set_cons_succ, i64_w, i32_w]
          rfl
        refine take_ (i := 2) (N := some 21) (v := ?_) (a' := ?_) #[true, true, true, false, true, false, true, false, false, false, false, false] rfl rfl (take_ofW HT_.out HW_.out (by kernel_rfl)) (fun _ _ _ h => h) (Or.inl ⟨by rfl, ?_⟩) hHeld ?_ ?_
        rotate_left
        · rintro w' ⟨s0, s1, s2, s3, s4⟩
          go_simp
          with_reducible rfl
        rotate_left
        · simp only [Act.put, List.setIfInBounds_toArray, List.set_cons_zero, List.set_cons_succ, i64_w, i32_w]
          rfl
        refine take_ (i := 5) (N := some 24) (v := ?_) (a' := ?_) #[true, true, true, false, true, true, true, false, false, false, false, false] rfl rfl (take_ofW HT_.out HW_.out (by kernel_rfl)) (fun _ _ _ h => h) (Or.inl ⟨by rfl, ?_⟩) hHeld ?_ ?_
        rotate_left
        · rintro w' ⟨s0, s1, s2, s3, s4⟩
          go_simp
          with_reducible rfl
        rotate_left
        · simp only [Act.put, List.setIfInBounds_toArray, List.set_cons_zero, List.set_cons_succ, i64_w, i32_w]
          rfl
        refine take_ (i := 7) (N := some 26) (v := ?_) (a' := ?_) #[true, true, true, false, true, true, true, true, false, false, false, false] rfl rfl (take_ofW HT_.out HW_.out (by kernel_rfl)) (fun _ _ _ h => h) (Or.inl ⟨by rfl, ?_⟩) hHeld ?_ ?_
        rotate_left
        · rintro w' ⟨s0, s1, s2, s3, s4⟩
          go_simp
          with_reducible rfl
        rotate_left
        · simp only [Act.put, List.setIfInBounds_toArray, List.set_cons_zero, List.set_cons_succ, i64_w, i32_w]
          rfl
        refine pure_ (i := 8) (N := some 27) (v := ?_) (a' := ?_) #[true, true, true, false, true, true, true, true, true, false, false, false] rfl rfl (any_of HT_.out (by kernel_rfl)) (fun _ _ _ h => h) (Or.inl ⟨by rfl, ?_⟩) ?_ ?_
        rotate_left
        · intro w'
          go_simp
          with_reducible rfl
        rotate_left
        · simp only [Act.put, List.setIfInBounds_toArray, List.set_cons_zero, List.set_cons_succ, i64_w, i32_w]
          rfl
        refine pure_ (i := 9) (N := some 28) (v := ?_) (a' := ?_) #[true, true, true, false, true, true, true, true, true, true, false, false] rfl rfl (any_of HT_.out (by kernel_rfl)) (fun _ _ _ h => h) (Or.inl ⟨by rfl, ?_⟩) ?_ ?_
        rotate_left
        · intro w'
          go_simp
          with_reducible rfl
        rotate_left
        · simp only [Act.put, List.setIfInBounds_toArray, List.set_cons_zero, List.set_cons_succ, i64_w, i32_w]
          rfl
        refine one_ (i := 3) (N := some 22) #[true, true, true, true, true, true, true, true, true, true, false, false] rfl rfl (one_of HT_.out (by kernel_rfl)) (by decide) (fun K hK => ?_)
        refine goes_ Tryd.func26 (by kernel_rfl) rfl #[.slice Ao21 t117.length co21, .int .i64 a1_2] (by rfl) rfl rfl (by (try simp only [List.map_toArray, List.map_cons, List.map_nil]); first | done | rfl | (simp only [List.length_drop, List.length_take]; rfl)) ?_
        with_reducible refine (image_nat.calls (fun k_ => some k_ = (.slice Ao21 t117.length co21 : Value).ownBlock) (.slice Ao21 t117.length co21) t117 a1_2 t120 w0 _ ?side1 ?side2 A6.out).mono ?_
        (case side1 => repeat (first | (with_reducible first | exact HB.out | apply below_alloc | apply pw_below_drewN | apply below_drew1 | refine below_set ?_ GE109.out) | exact HB.out))
        (case side2 => exact Kd.R_tight rfl HO119.out)
        rintro e w22 ⟨v121, rfl, ho0, hb, hkp⟩
        refine ⟨_, rfl, ?_⟩
        have n0_ := Aside0.mk (blk_kept (by (with_reducible repeat (first | refine blk_drewN ?_ _ | refine blk_drew ?_ | refine blk_alloc ?_ _)); exact BK109.out) hkp (fun hs_ => (fun e_ => (Kd.R_ne HO119.out BK109.out (by decide)) e_) hs_))
        have n1_ := Aside0.mk (Kd.R_mono (ok' := fun k_ => (P0_ k_ ∨ w.heap.size ≤ k_) ∧ some k_ ≠ (v121 : Value).ownBlock) (Kd.R_keptB (HO113.out) hkp (fun k_ hk_ hs_ => (hk_.2) hs_)) (fun k_ hk_ => ⟨hk_.1.1, fun e_ => Or.elim (ho0.1 k_ e_.symm) (fun hs_ => hk_.2.1 hs_) (fun hn_ => Nat.not_le.2 hk_.2.2 hn_)⟩))
        have n2_ := Aside0.mk (Kd.R_mono (ok' := fun k_ => (P0_ k_ ∨ w.heap.size ≤ k_) ∧ some k_ ≠ (.slice Ao16 t110.length co16 : Value).ownBlock) ho0 (fun k_ hk_ => ⟨Or.elim hk_ (fun hs_ => (HO119.out.1 k_ (hs_).symm).1) (fun hn_ => (.inr (Nat.le_trans (by first | exact HK.out.1 | exact (show Kept w _ (fun k_ => P0_ k_) from by repeat (first | (with_reducible first | exact HK.out | apply Kept.alloc | apply Kept.drewN | apply Kept.drew | refine Kept.setCell ?_ (.inr GW109.out) _) | exact HK.out)).1) hn_))), Or.elim hk_ (fun hs_ => fun e_ => (((HO113.out).1 k_ e_.symm).2) hs_) (fun hn_ => (Kd.fresh' (Kd.R_lt (by (with_reducible repeat (first | apply Kd.R_alloc | apply Kd.R_drewN | apply Kd.R_drew)); exact HO113.out)) k_ hn_))⟩))
        have n3_ := Aside0.mk (Kept.then_ (S := (fun k_ => P0_ k_)) (by repeat (first | (with_reducible first | exact HK.out | apply Kept.alloc | apply Kept.drewN | apply Kept.drew | refine Kept.setCell ?_ (.inr GW109.out) _) | exact HK.out)) hkp (fun k_ hs_ => (fun e_ => (HO119.out.1 k_ e_.symm).1) hs_))
        have n4_ := Aside0.mk (hb)
        clear BK109
        clear HO113
        clear HK
        clear HB
        clear HO119
        have BK109 := n0_
        have HO113 := n1_
        have HO122 := n2_
        have HK := n3_
        have HB := n4_
        clear n0_ n1_ n2_ n3_ n4_
        (try clear hb)
        (try clear hkp)
        (try clear ho0)
        obtain ⟨Ao23, co23, eo23⟩ := Kd.R_slice HO122.out
        (first | subst eo23 | (injection eo23 with f1_ f2_ f3_; have f4_ := f1_.symm; have f5_ := f3_.symm; clear f1_ f2_ f3_; subst f4_; subst f5_))
        refine hK.out _ _ ⟨(blk_cell BK109.out 0).trans rfl, (blk_cell BK109.out 1).trans rfl, (blk_cell BK109.out 2).trans rfl, (blk_cell BK109.out 3).trans rfl, (blk_cell BK109.out 4).trans rfl⟩ (fun hHeld => ?_)
        clear hK K
        refine norm_ (a' := ?_) ?_ ?_
        rotate_left
        · show Act.put _ (some 22) _ = _
          simp only [Act.put, List.setIfInBounds_toArray, List.set_cons_zero, List.set_cons_succ, i64_w, i32_w]
          rfl
        refine one_ (i := 10) (N := some 29) #[true, true, true, true, true, true, true, true, true, true, true, false] rfl rfl (one_of HT_.out (by kernel_rfl)) (by decide) (fun K hK => ?_)
        refine goes_ Tryd.func30 (by kernel_rfl) rfl #[.slice Ao23 t120.length co23, .slice A20 y123.length c20, .func (.func 26) #[] #[]] (by rfl) rfl rfl (by (try simp only [List.map_toArray, List.map_cons, List.map_nil]); first | done | rfl | (simp only [List.length_drop, List.length_take]; rfl)) ?_
        with_reducible refine (image_row_int.calls (fun k_ => some k_ = (.slice Ao23 t120.length co23 : Value).ownBlock) (.slice Ao23 t120.length co23) t120 _ _ y123 26 t127 w0 _ ?side1 ?side2 ?side3 ?side4 A9.out).mono ?_
        (case side1 => repeat (first | (with_reducible first | exact HB.out | apply below_alloc | apply pw_below_drewN | apply below_drew1 | refine below_set ?_ GE109.out) | exact HB.out))
        (case side2 => exact Kd.R_tight rfl HO122.out)
        (case side3 => exact fun W_ hw_ => by have h_ := Kd.C_drop (m := ((l1_1.length : Int) : Int).toNat) (c := c1_3) ((Kd.C_kept_call HR1_3.out (by repeat (first | (with_reducible first | exact HK.out | apply Kept.alloc | apply Kept.drewN | apply Kept.drew | refine Kept.setCell ?_ (.inr GW109.out) _) | exact HK.out)) (fun k_ hs_ => (fun e_ => (HO122.out.1 k_ e_.symm).1) hs_)) W_ hw_) KL20.out HC1_3.out; rw [show (l1_3).drop ((l1_1.length : Int) : Int).toNat = y123 from Ny123.out.symm] at h_; rw [KA20.out]; exact h_)
        (case side4 => exact HC126.out)
        rintro e w24 ⟨v128, rfl, ho0, hb, hkp⟩
        refine ⟨_, rfl, ?_⟩
        have n0_ := Aside0.mk (blk_kept (by (with_reducible repeat (first | refine blk_drewN ?_ _ | refine blk_drew ?_ | refine blk_alloc ?_ _)); exact BK109.out) hkp (fun hs_ => (fun e_ => (Kd.R_ne HO122.out BK109.out (by decide)) e_) hs_))
        have n1_ := Aside0.mk (Kd.R_mono (ok' := fun k_ => (P0_ k_ ∨ w.heap.size ≤ k_) ∧ some k_ ≠ (v128 : Value).ownBlock) (Kd.R_keptB (HO113.out) hkp (fun k_ hk_ hs_ => (hk_.2) hs_)) (fun k_ hk_ => ⟨hk_.1.1, fun e_ => Or.elim (ho0.1 k_ e_.symm) (fun hs_ => hk_.2.1 hs_) (fun hn_ => Nat.not_le.2 hk_.2.2 hn_)⟩))
        have n2_ := Aside0.mk (Kd.R_mono (ok' := fun k_ => (P0_ k_ ∨ w.heap.size ≤ k_) ∧ some k_ ≠ (.slice Ao16 t110.length co16 : Value).ownBlock) ho0 (fun k_ hk_ => ⟨Or.elim hk_ (fun hs_ => (HO122.out.1 k_ (hs_).symm).1) (fun hn_ => (.inr (Nat.le_trans (by first | exact HK.out.1 | exact (show Kept w _ (fun k_ => P0_ k_) from by repeat (first | (with_reducible first | exact HK.out | apply Kept.alloc | apply Kept.drewN | apply Kept.drew | refine Kept.setCell ?_ (.inr GW109.out) _) | exact HK.out)).1) hn_))), Or.elim hk_ (fun hs_ => fun e_ => (((HO113.out).1 k_ e_.symm).2) hs_) (fun hn_ => (Kd.fresh' (Kd.R_lt (by (with_reducible repeat (first | apply Kd.R_alloc | apply Kd.R_drewN | apply Kd.R_drew)); exact HO113.out)) k_ hn_))⟩))
        have n3_ := Aside0.mk (Kept.then_ (S := (fun k_ => P0_ k_)) (by repeat (first | (with_reducible first | exact HK.out | apply Kept.alloc | apply Kept.drewN | apply Kept.drew | refine Kept.setCell ?_ (.inr GW109.out) _) | exact HK.out)) hkp (fun k_ hs_ => (fun e_ => (HO122.out.1 k_ e_.symm).1) hs_))
        have n4_ := Aside0.mk (hb)
        clear BK109
        clear HO113
        clear HK
        clear HB
        clear HO122
        have BK109 := n0_
        have HO113 := n1_
        have HO129 := n2_
        have HK := n3_
        have HB := n4_
        clear n0_ n1_ n2_ n3_ n4_
        (try clear hb)
        (try clear hkp)
        (try clear ho0)
        refine hK.out _ _ ⟨(blk_cell BK109.out 0).trans rfl, (blk_cell BK109.out 1).trans rfl, (blk_cell BK109.out 2).trans rfl, (blk_cell BK109.out 3).trans rfl, (blk_cell BK109.out 4).trans rfl⟩ (fun hHeld => ?_)
        clear hK K
        refine norm_ (a' := ?_) ?_ ?_
        rotate_left
        · show Act.put _ (some 29) _ = _
          simp only [Act.put, List.setIfInBounds_toArray, List.set_cons_zero, List.set_cons_succ, i64_w, i32_w]
          rfl
        refine pure_ (i := 11) (N := some 0) (v := ?_) (a' := ?_) #[true, true, true, true, true, true, true, true, true, true, true, true] rfl rfl (any_of HT_.out (by kernel_rfl)) (fun _ _ _ h => h) (Or.inl ⟨by rfl, ?_⟩) ?_ ?_
        rotate_left
        · intro w'
          go_simp
          with_reducible rfl
        rotate_left
        · simp only [Act.put, List.setIfInBounds_toArray, List.set_cons_zero, List.set_cons_succ, i64_w, i32_w]
          rfl
        refine done_ (done_of HT_.out (by kernel_rfl)) ?_
        have hcz25_0 : w24.cell? ⟨gb109, 0, none⟩ = some (.string a1_0) := (blk_cell BK109.out 0).trans rfl
        have hcz25_1 : w24.cell? ⟨gb109, 1, none⟩ = some (.slice A1_1 l1_1.length c1_1) := (blk_cell BK109.out 1).trans rfl
        have hcz25_2 : w24.cell? ⟨gb109, 2, none⟩ = some (.int .i64 a1_2) := (blk_cell BK109.out 2).trans rfl
        have hcz25_3 : w24.cell? ⟨gb109, 3, none⟩ = some (.slice A1_3 l1_3.length c1_3) := (blk_cell BK109.out 3).trans rfl
        have hcz25_4 : w24.cell? ⟨gb109, 4, none⟩ = some (.slice A1_4 l1_4.length c1_4) := (blk_cell BK109.out 4).trans rfl
        have hfz25_0 := blk_frozen BK109.out 0
        have hfz25_1 := blk_frozen BK109.out 1
        have hfz25_2 := blk_frozen BK109.out 2
        have hfz25_3 := blk_frozen BK109.out 3
        have hfz25_4 := blk_frozen BK109.out 4
        obtain ⟨Ao26, co26, eo26⟩ := Kd.R_slice HO129.out
        subst eo26
        try go_wp2_with (first | ((with_reducible refine gate_callee (f := 31) rfl ?_); refine goesL_ (some 33) rfl rfl Tryd.func31 (by kernel_rfl) rfl #[.slice Ao26 t127.length co26, .slice A1_4 l1_4.length c1_4, .func (.func 32) #[] #[]] rfl (by (try simp only [List.map_toArray, List.map_cons, List.map_nil]); first | done | rfl | (simp only [List.length_drop, List.length_take]; rfl)) ?_; (with_reducible refine (api_Instr.calls (fun k_ => some k_ = (.slice Ao26 t127.length co26 : Value).ownBlock) (.slice Ao26 t127.length co26) t127 _ _ l1_4 32 t130 w0 _ ?side1 ?side2 ?side3 ?side4 A10.out).mono ?_); (case side1 => repeat (first | (with_reducible first | exact HB.out | apply below_alloc | apply pw_below_drewN | apply below_drew1 | refine below_set ?_ GE109.out) | exact HB.out)); (case side2 => exact Kd.R_tight rfl HO129.out); (case side3 => exact Kd.C_kept_call HR1_4.out (by repeat (first | (with_reducible first | exact HK.out | apply Kept.alloc | apply Kept.drewN | apply Kept.drew | refine Kept.setCell ?_ (.inr GW109.out) _) | exact HK.out)) (fun k_ hs_ => (fun e_ => (HO129.out.1 k_ e_.symm).1) hs_)); (case side4 => exact HC1_4.out); rintro e w27 ⟨v131, rfl, ho0, hb, hkp⟩; refine ⟨_, rfl, ?_⟩; have n0_ := Aside0.mk (blk_kept (by (with_reducible repeat (first | refine blk_drewN ?_ _ | refine blk_drew ?_ | refine blk_alloc ?_ _)); exact BK109.out) hkp (fun hs_ => (fun e_ => (Kd.R_ne HO129.out BK109.out (by decide)) e_) hs_)); have n1_ := Aside0.mk (Kd.R_mono (ok' := fun k_ => (P0_ k_ ∨ w.heap.size ≤ k_) ∧ some k_ ≠ (v131 : Value).ownBlock) (Kd.R_keptB (HO113.out) hkp (fun k_ hk_ hs_ => (hk_.2) hs_)) (fun k_ hk_ => ⟨hk_.1.1, fun e_ => Or.elim (ho0.1 k_ e_.symm) (fun hs_ => hk_.2.1 hs_) (fun hn_ => Nat.not_le.2 hk_.2.2 hn_)⟩)); have n2_ := Aside0.mk (Kd.R_mono (ok' := fun k_ => (P0_ k_ ∨ w.heap.size ≤ k_) ∧ some k_ ≠ (.slice Ao16 t110.length co16 : Value).ownBlock) ho0 (fun k_ hk_ => ⟨Or.elim hk_ (fun hs_ => (HO129.out.1 k_ (hs_).symm).1) (fun hn_ => (.inr (Nat.le_trans (by first | exact HK.out.1 | exact (show Kept w _ (fun k_ => P0_ k_) from by repeat (first | (with_reducible first | exact HK.out | apply Kept.alloc | apply Kept.drewN | apply Kept.drew | refine Kept.setCell ?_ (.inr GW109.out) _) | exact HK.out)).1) hn_))), Or.elim hk_ (fun hs_ => fun e_ => (((HO113.out).1 k_ e_.symm).2) hs_) (fun hn_ => (Kd.fresh' (Kd.R_lt (by (with_reducible repeat (first | apply Kd.R_alloc | apply Kd.R_drewN | apply Kd.R_drew)); exact HO113.out)) k_ hn_))⟩)); have n3_ := Aside0.mk (Kept.then_ (S := (fun k_ => P0_ k_)) (by repeat (first | (with_reducible first | exact HK.out | apply Kept.alloc | apply Kept.drewN | apply Kept.drew | refine Kept.setCell ?_ (.inr GW109.out) _) | exact HK.out)) hkp (fun k_ hs_ => (fun e_ => (HO129.out.1 k_ e_.symm).1) hs_)); have n4_ := Aside0.mk (hb); clear BK109; clear HO113; clear HK; clear HB; clear HO129; have BK109 := n0_; have HO113 := n1_; have HO132 := n2_; have HK := n3_; have HB := n4_; clear n0_ n1_ n2_ n3_ n4_; (try clear hb); (try clear hkp); (try clear ho0)))
        go_ret
        exact ⟨_, by first | rfl | (simp [errW_none, errW_some] <;> rfl) | (simp [*, errW_none, errW_some] <;> rfl), by (with_reducible repeat (first | apply Kd.R_alloc | apply Kd.R_drewN | apply Kd.R_drew)); exact Kd.R_mono HO132.out (fun _ hk => hk.1), by repeat (first | (with_reducible first | exact HB.out | apply below_alloc | apply pw_below_drewN | apply below_drew1 | refine below_set ?_ GE109.out) | exact HB.out), by repeat (first | (with_reducible first | exact HK.out | apply Kept.alloc | apply Kept.drewN | apply Kept.drew | refine Kept.setCell ?_ (.inr GW109.out) _) | exact HK.out)⟩
      · rw [if_neg c8] at H
        exact absurd H (by simp)
    · rw [if_neg c7] at H
      exact absurd H (by simp)
  · rw [if_neg c4] at H
    exact absurd H (by simp)
end Go.Proofs.YteidgpaakoeefaaDoor.PIm
namespace Go.Proofs.YteidgpaakoeefaaDoor
open Go.RowKit Go.Proofs.YteidgpaakoeefaaDoorW.PrintWords Go.Proofs.YteidgpaakoeefaaDoorW.PrintLast Go.Proofs.YteidgpaakoeefaaDoorW.PrintMore
set_option linter.unusedVariables false
set_option linter.unusedSimpArgs false
open PIm
theorem textF_B (t : ByteArray) (h : t.size ≤ 65536) : textF [] t = (textB t, 0) := by
  unfold textF textB
  rw [if_neg (by omega), List.nil_append]
theorem rowI_f (b l : List Int) (q : Int) (hx : ∀ x ∈ l, rngI x) (h2 : l.length ≤ 140737488355318) (hl : (b ++ rowI l).length < 140737488355328) : image_row_int.f b l q = some (b ++ rowI l) := by
  unfold image_row_int.f
  rw [if_pos ⟨by rw [List.append_assoc]; exact hl, h2, hx⟩]
theorem rowC_f (b : List Int) (l : List S50) (q : Int) (hx : ∀ x ∈ l, rngC x) (h2 : l.length ≤ 140737488355318) (hl : (b ++ rowC l).length < 140737488355328) : api_Instr.f b l q = some (b ++ rowC l) := by
  unfold api_Instr.f
  rw [if_pos ⟨by rw [List.append_assoc]; exact hl, h2, hx⟩]
theorem putF_f (b : List Int) (f : S54) (hn : rngF f) (hl : (b ++ putF f).length < 140737488355328) : image_Encode_2.f b f.f0 f.f1 f.f2 f.f3 f.f4 = some (b ++ putF f) := by
  obtain ⟨h0, h1, h2, h3, h4, h5, h6, h7⟩ := hn
  unfold putF at hl
  simp only [List.length_append] at hl
  unfold image_Encode_2.f wire_Text.f
  rw [if_pos ⟨by simp, by omega⟩, textF_B _ h0, Option.bind_some]
  rw [if_pos (show b.length + (textB f.f0).length < 140737488355328 by omega)]
  rw [rowI_f _ f.f1 _ h1 (by omega) (by simp only [List.length_append]; omega), Option.bind_some]
  rw [nat_f _ f.f2 h2 (by simp only [List.length_append]; omega), Option.bind_some]
  rw [if_pos (by omega), if_pos (by omega)]
  rw [show ((f.f1.length : Int) : Int).toNat = f.f1.length from rfl]
  rw [rowI_f _ (f.f3.drop f.f1.length) _ (fun x hx => h3 x (List.mem_of_mem_drop hx)) (by rw [List.length_drop]; omega) (by simp only [List.length_append]; omega), Option.bind_some]
  rw [rowC_f _ f.f4 _ h4 h7 (by simp only [List.length_append]; omega), Option.bind_some]
  simp [putF]
set_option maxHeartbeats 4000000 in
set_option maxRecDepth 100000 in
theorem row_fn (P0_ : Nat → Prop) (v : Value) (b : List Int) (A0 : Option Addr) (c0 : Nat) (l : List S54) (w0 w : World) (hB : Below w0.heap.size w0 w) (ho0 : Kd.R (Kd.int .u8) 5 w w0.heap.size P0_ v b)
    (hr : Kd.C k54 w0 A0 l.length l) (hS : ∀ k, P0_ k → w0.heap.size ≤ k) (hl : (b ++ natB l.length ++ l.flatMap putF).length < 140737488355328) (hll : l.length ≤ 140737488355318) (hx : ∀ x ∈ l, rngF x) :
    Calls Tryd.prog 27 #[v, .slice A0 l.length c0, .func (.func 28) #[] #[]] w fun e w' => ∃ v0_ : Value, e = .returned v0_ ∧ Kd.R (Kd.int .u8) 5 w' w0.heap.size (fun k_ => (P0_ k_ ∨ w.heap.size ≤ k_)) v0_ (b ++ natB l.length ++ l.flatMap putF) ∧ Below w0.heap.size w0 w' ∧ Kept w w' (fun k_ => P0_ k_) := by
  have hnat := image_nat.calls P0_ v b (l.length : Int) _ w0 w hB ho0 (nat_f b l.length ⟨by omega, by omega⟩ (by simp only [List.length_append] at hl ⊢; omega))
  have HR := Aside0.mk hr; have HL := Aside0.mk hl; have HX := Aside0.mk hx; have HS := Aside0.mk hS; have HWW := Aside0.mk hB.size
  clear hr hl hx hB ho0 hS
  go_enter Tryd.func27, Tryd.ntmps27
  go_wp2_with fail
  ((with_reducible refine hnat.mono ?_); rintro e_ w1 ⟨v1, rfl, ho, hb, hk⟩)
  have HO := Aside0.mk ho; have HB := Aside0.mk hb; have HK := Aside0.mk hk
  clear hnat ho hb hk
  go_wp2_with fail
  go_loopw [0, 15] (fun vb vi wr => ∃ (k : Nat), vi = .int .i64 k ∧ Aside0 (k ≤ l.length) ∧ Aside0 (Kd.R (Kd.int .u8) 5 wr w0.heap.size (fun k_ => (P0_ k_ ∨ w.heap.size ≤ k_)) vb (b ++ natB l.length ++ (l.take k).flatMap putF)) ∧ Aside0 (Below w0.heap.size w0 wr) ∧ Aside0 (Kept w wr (fun k_ => P0_ k_))) (fun _ v _ => l.length - (intOf v).toNat)
  case atStart => exact ⟨0, rfl, ⟨Nat.zero_le _⟩, ⟨by simpa using HO.out⟩, HB, HK⟩
  case round =>
    obtain ⟨k, rfl, HN, HO, HB, HK⟩ := hrel
    have hk := HN.out
    by_cases hlt : k < l.length
    · obtain ⟨ad, A1, c1, A3, c3, A4, c4, e, hx0, hx1, hx2, hx3, hx4, g1, h1, g3, h3, g4, h4⟩ := at_T54 HR.out (k : Int) (by omega) (by omega)
      cases e
      have hget : rd_T54 l (k : Int) = l[k] := by
        unfold rd_T54
        simp only [Int.toNat_natCast, List.getD_eq_getElem?_getD]
        rw [List.getElem?_eq_getElem hlt]; rfl
      have hxx : l[k]? = some l[k] := List.getElem?_eq_getElem hlt
      have hrx := HX.out l[k] (List.getElem_mem hlt)
      rw [hget] at hx0 hx1 hx2 hx3 hx4 g1 h1 g3 h3 g4 h4
      simp only [Int.toNat_natCast] at hx0 hx1 hx2 hx3 hx4
      generalize l[k] = x at hx0 hx1 hx2 hx3 hx4 g1 h1 g3 h3 g4 h4 hxx hrx
      have cl : ∀ {a : Addr} {u : Value}, w0.cell? a = some u → wr.cell? a = some u := fun hc => (HB.out.cell (World.block_lt_of_cell? w0 _ hc)).trans hc
      replace hx0 := cl hx0; replace hx1 := cl hx1; replace hx2 := cl hx2; replace hx3 := cl hx3; replace hx4 := cl hx4
      have z1 : decide ((k : Int) < (l.length : Int)) = true := decide_eq_true (by omega)
      have q1 : (0 ≤ (k : Int)) = True := eq_true (by omega)
      have q2 : ((k : Int) < (l.length : Int)) = True := eq_true (by omega)
      have hf := putF_f (b ++ natB l.length ++ (l.take k).flatMap putF) x hrx (by
        have h1 := take_put (put := putF) hxx (b ++ natB l.length)
        have h2 := take_le (put := putF) l (k + 1) (b ++ natB l.length)
        rw [← h1] at h2
        exact Nat.lt_of_le_of_lt h2 HL.out)
      have hSS : ∀ k_, (P0_ k_ ∨ w.heap.size ≤ k_) → w0.heap.size ≤ k_ := fun k_ h_ => h_.elim (HS.out k_) (fun g_ => Nat.le_trans HWW.out g_)
      have hcall := fun W hb ho => image_Encode_2.calls (fun k_ => (P0_ k_ ∨ w.heap.size ≤ k_)) u0 (b ++ natB l.length ++ (l.take k).flatMap putF) x.f0 A1 c1 x.f1 x.f2 A3 c3 x.f3 A4 c4 x.f4 _ w0 W hb ho
        (Kd.C_kept_came (Kd.heap_int .i64) h1 hb hSS) g1 (Kd.C_kept_came (Kd.heap_int .i64) h3 hb hSS) g3 (Kd.C_kept_came k50_heap h4 hb hSS) g4 hf
      have HXX := Lib.hid hxx; have HLT := Lib.hid hlt
      clear hget hxx hrx hf hlt cl hSS g1 h1 g3 h3 g4 h4
      go_wp2_with fail
      ((with_reducible refine (hcall _ (by repeat (first | (with_reducible first | exact HB.out | apply below_alloc | apply pw_below_drewN | apply below_drew1) | exact HB.out)) (by (with_reducible repeat (first | apply Kd.R_alloc | apply Kd.R_drewN | apply Kd.R_drew)); exact HO.out)).mono ?_); rintro e_ w_ ⟨v2, rfl, ho, hb, hkp⟩)
      clear hcall
      have hsz := HK.out.1
      have m1_ := Aside0.mk (Kd.R_mono ho (fun k_ h_ => (h_.elim id (fun g_ => Or.inr (Nat.le_trans hsz (by first | exact g_ | (have g2_ := g_; simp at g2_; omega)))) : P0_ k_ ∨ w.heap.size ≤ k_)))
      have m2_ := Aside0.mk (Kept.then_ (by repeat (first | (with_reducible first | exact HK.out | apply Kept.alloc | apply Kept.drewN | apply Kept.drew) | exact HK.out)) hkp (fun _ h_ => h_))
      have HB2 := Aside0.mk hb
      clear ho hb hkp hsz HO HK HB
      go_wp2
      exact ⟨⟨k + 1, by go_num, ⟨HLT.out⟩, ⟨by rw [← take_put HXX.out]; exact m1_.out⟩, HB2, m2_⟩, by have := HLT.out; simp [intOf]; omega⟩
    · have z1 : decide ((k : Int) < (l.length : Int)) = false := decide_eq_false (by omega)
      obtain rfl : k = l.length := by omega
      go_wp2
      go_ret
      exact ⟨_, rfl, by rw [← List.take_length (l := l)]; simpa using HO.out, HB.out, HK.out⟩
structure Came3 (P0_ : Nat → Prop) (A0 : Option Addr) (l : List S54) (w0 w : World) : Prop where
  row : Kd.C k54 w0 A0 l.length l
  below : Below w0.heap.size w0 w
  new : ∀ k, P0_ k → w0.heap.size ≤ k
def PIm.api_Fn_27.f (b : List Int) (l : List S54) (q : Int) : Option (List Int) := if (b ++ natB l.length ++ l.flatMap putF).length < 140737488355328 ∧ l.length ≤ 140737488355318 ∧ ∀ x ∈ l, rngF x then some (b ++ rowF l) else none
theorem PIm.api_Fn_27.calls (P0_ : Nat → Prop) (u9000_ : Value) (b : List Int) (A0 : Option Addr) (c0 : Nat) (l : List S54) (q : Int) (r : List Int) (w0 w : World) (hB : Below w0.heap.size w0 w) (ho0 : Kd.R (Kd.int .u8) 5 w w0.heap.size P0_ u9000_ b)
    (hr : Came3 P0_ A0 l w0 w) (hc : l.length ≤ c0) (h : PIm.api_Fn_27.f b l q = some r) :
    Calls Tryd.prog 27 #[u9000_, .slice A0 l.length c0, .func (.func 28) #[] #[]] w fun e w' => ∃ v0_ : Value, e = .returned v0_ ∧ Kd.R (Kd.int .u8) 5 w' w0.heap.size (fun k_ => (P0_ k_ ∨ w.heap.size ≤ k_)) v0_ r ∧ Below w0.heap.size w0 w' ∧ Kept w w' (fun k_ => P0_ k_) := by
  unfold PIm.api_Fn_27.f at h
  split at h
  · next hc =>
    obtain rfl := Option.some.inj h
    have := row_fn P0_ u9000_ b A0 c0 l w0 w hB ho0 hr.row hr.new hc.1 hc.2.1 hc.2.2
    rw [List.append_assoc] at this
    exact this
  · cases h
end Go.Proofs.YteidgpaakoeefaaDoor
namespace Go.Proofs.YteidgpaakoeefaaDoor
open Go.RowKit Go.Proofs.YteidgpaakoeefaaDoorW.PrintWords Go.Proofs.YteidgpaakoeefaaDoorW.PrintLast Go.Proofs.YteidgpaakoeefaaDoorW.PrintMore
set_option linter.unusedVariables false
set_option linter.unusedSimpArgs false
open PIm
theorem fullCells {w : World} {a : Addr} {l : List Int} (h : Kd.C (Kd.int .u8) w (some a) l.length l) : ∀ j u, (l.map (Value.int .u8))[j]? = some u → w.cell? (a.add j) = some u := by
  intro j u hj
  rw [List.getElem?_map] at hj
  cases hx : l[j]? with
  | none => rw [hx] at hj; cases hj
  | some x =>
    rw [hx] at hj
    obtain rfl := Option.some.inj hj
    have hjl : j < l.length := (List.getElem?_eq_some_iff.1 hx).1
    obtain ⟨ad, e, hc⟩ := Kd.at_int h (j : Int) (by omega) (by omega)
    cases e
    rw [Int.toNat_natCast, rd_get' hjl, (List.getElem?_eq_some_iff.1 hx).2] at hc
    exact hc
theorem app_run {P : Program} {ops : Array Oper} {rest : List Oper} {o : Oper} {a : Act} {Q : Exit → Act → World → Prop} {W w1 : World} {v1 : Value} (hgd : o.guard = none) (s x : Operand) (t : TypeId)
    (ho : o.op = .call { callee := .builtin .append, args := #[s, x], argTypes := #[t, t] }) {u y : Value} (hs : a.eval s = u) (hx : a.eval x = y)
    (hr1 : (Builtin.append_ #[t, t] o.type #[u, y]).run P W = .ok v1 w1) (h : wpList P ops Q rest (a.put o.dst v1) w1) : wpList P ops Q (o :: rest) a W := by
  refine wpList_plain hgd fun K hK => ?_
  unfold Oper.wp execOp
  simp only [ho, resolve, invoke, builtin, Sem.run_bind, Sem.run_pure, Result.andThen_ok, List.map_toArray, List.map_cons, List.map_nil, hs, hx, hr1]
  exact hK _ _ h
set_option maxHeartbeats 2000000 in
set_option maxRecDepth 100000 in
theorem nat_full (g : Nat) (b : List Int) (n : Int) (w : World) (hr : Kd.C (Kd.int .u8) w (some ⟨g, 0, none⟩) b.length b) (hb1 : b.length ≤ 1000) (hn0 : 0 ≤ n) (hn1 : n ≤ 9223372036854775807) (hpos : 0 < (natB n).length) (hsm : (natB n).length ≤ 1000) :
    Calls Tryd.prog 26 #[.slice (some ⟨g, 0, none⟩) b.length b.length, .int .i64 n] w fun e w' => ∃ v0_ : Value, e = .returned v0_ ∧ Kd.R (Kd.int .u8) 5 w' w.heap.size (fun _ => True) v0_ (b ++ natB n) ∧ Below w.heap.size w w' := by
  have hnum := Num_calls none 0 [] n w (Kd.C_nil _ _) (by simp) (by omega) hn1
  have HR := Aside0.mk hr; have HP := Aside0.mk hpos; have HSM := Aside0.mk hsm
  clear hr hpos hsm
  obtain ⟨i0, hi0, hz0, hsz0, hby0⟩ := info_parts info5
  have HI := Lib.hid hi0
  go_enter Tryd.func26, Tryd.ntmps26
  go_wp2_with fail
  ((refine hnum.mono ?_); rintro e_ w1 ⟨v1, rfl, ho, hb⟩)
  obtain ⟨A1, c1, rfl⟩ := Kd.R_slice ho
  have hrd := (Kd.R_reads' ho).2.2
  have hC0 := Kd.C_below HR.out hb
  have hlen : (numF [] n).1.length = (natB n).length := rfl
  obtain ⟨a1, rfl⟩ : ∃ a1, A1 = some a1 := by
    obtain ⟨ad, e, _⟩ := Kd.at_int hrd 0 (by omega) (by have := HP.out; omega)
    exact ⟨ad, e⟩
  obtain ⟨v2, w2, hrun, hown, hg⟩ := run_append_arg_grows (P := Tryd.prog) (w := w1) 30 30 5 i0 (.int .u8 0) 1 1 Tryd.underlying30 hi0 hz0 hsz0 hby0 rfl (by decide)
    ⟨g, 0, none⟩ b.length b.length (b.map (Value.int .u8)) (by simp) (fullCells hC0) a1 (numF [] n).1.length c1 ((numF [] n).1.map (Value.int .u8)) (by simp) (fullCells hrd) (by have := HP.out; omega) (by have := HSM.out; simp only [maxLen]; omega) (by have := HSM.out; omega)
  have HO := Aside0.mk hown; have HG := Aside0.mk hg; have HB := Aside0.mk hb
  have HRUN := Lib.hid hrun
  clear hnum ho hb hrd hC0 hown hg hi0 hz0 hsz0 hby0 hrun
  go_wp2_with (first | ((with_reducible refine gate_builtin (b := .append) (xs := #[.tmp 12, .tmp 13]) rfl ?_); at_builtin; refine app_run rfl (.tmp 12) (.tmp 13) 30 rfl rfl rfl HRUN.out ?_))
  go_ret
  refine ⟨_, rfl, ?_, ?_⟩
  · have h := HO.out
    rw [← List.map_append] at h
    exact Kd.R_lower (Kd.R_of_own (enc := Value.int .u8) (h1 := fun _ => rfl) (by rw [List.length_append]; exact h) (fun _ _ => trivial)) HB.out.size
  · exact below_step HB.out (by
      have hgg := HG.out
      exact ⟨hgg.os, hgg.tape, hgg.output, hgg.size, fun k hk => hgg.block k hk (fun e => by cases e)⟩)
end Go.Proofs.YteidgpaakoeefaaDoor
namespace Go.Proofs.YteidgpaakoeefaaDoor
open Go.RowKit Go.Proofs.YteidgpaakoeefaaDoorW.PrintWords Go.Proofs.YteidgpaakoeefaaDoorW.PrintLast Go.Proofs.YteidgpaakoeefaaDoorW.PrintMore
set_option linter.unusedVariables false
set_option linter.unusedSimpArgs false
open PIm
set_option maxHeartbeats 4000000 in
set_option maxRecDepth 100000 in
theorem row_glo_full (g : Nat) (b : List Int) (A0 : Option Addr) (c0 : Nat) (l : List S48) (w0 w : World) (hB : Below w0.heap.size w0 w) (hfull : Kd.C (Kd.int .u8) w (some ⟨g, 0, none⟩) b.length b) (hb1 : b.length ≤ 1000) (hpos : 0 < (natB l.length).length) (hsm : (natB l.length).length ≤ 1000)
    (hr0 : Kd.C k48 w0 A0 l.length l) (hl : (b ++ natB l.length ++ l.flatMap putG).length < 140737488355328) (hll : l.length ≤ 140737488355318) (hx : ∀ x ∈ l, rngG x) :
    Calls Tryd.prog 23 #[.slice (some ⟨g, 0, none⟩) b.length b.length, .slice A0 l.length c0, .func (.func 24) #[] #[]] w fun e w' => ∃ v0_ : Value, e = .returned v0_ ∧ Kd.R (Kd.int .u8) 5 w' w0.heap.size (fun k_ => (False ∨ w.heap.size ≤ k_)) v0_ (b ++ natB l.length ++ l.flatMap putG) ∧ Below w0.heap.size w0 w' ∧ Kept w w' (fun _ => False) := by
  have hnat := nat_full g b (l.length : Int) w hfull hb1 (by omega) (by omega) hpos hsm
  have hr : ∀ W', Kept w W' (fun _ => False) → Kd.C k48 W' A0 l.length l := Kd.C_kept_came k48_heap hr0 hB (fun _ h => h.elim)
  have hBw := hB.size
  have HB0 := Aside0.mk hB
  have HR := Aside0.mk hr; have HL := Aside0.mk hl; have HX := Aside0.mk hx
  clear hr hl hx hB hr0 hfull hpos hsm
  go_enter Tryd.func23, Tryd.ntmps23
  go_wp2_with fail
  ((with_reducible refine hnat.mono ?_); rintro e_ w1 ⟨v1, rfl, ho, hb⟩)
  have HO := Aside0.mk (Kd.R_lower (Kd.R_mono (Kd.R_bound ho) (fun k_ h_ => (Or.inr h_.2.1 : False ∨ w.heap.size ≤ k_))) hBw); have HB := Aside0.mk (below_step HB0.out hb); have HK := Aside0.mk (Kept.of_below hb (fun _ => False))
  clear hnat ho hb HB0
  go_wp2_with fail
  go_loopw [0, 15] (fun vb vi wr => ∃ (k : Nat), vi = .int .i64 k ∧ Aside0 (k ≤ l.length) ∧ Aside0 (Kd.R (Kd.int .u8) 5 wr w0.heap.size (fun k_ => (False ∨ w.heap.size ≤ k_)) vb (b ++ natB l.length ++ (l.take k).flatMap putG)) ∧ Aside0 (Below w0.heap.size w0 wr) ∧ Aside0 (Kept w wr (fun _ => False))) (fun _ v _ => l.length - (intOf v).toNat)
  case atStart => exact ⟨0, rfl, ⟨Nat.zero_le _⟩, ⟨by simpa using HO.out⟩, HB, HK⟩
  case round =>
    obtain ⟨k, rfl, HN, HO, HB, HK⟩ := hrel
    have hk := HN.out
    by_cases hlt : k < l.length
    · have hC := HR.out _ HK.out
      obtain ⟨ad, e, hx0, hx1, hx2⟩ := at_T48 hC (k : Int) (by omega) (by omega)
      cases e
      have hget : rd_T48 l (k : Int) = l[k] := by
        unfold rd_T48
        simp only [Int.toNat_natCast, List.getD_eq_getElem?_getD]
        rw [List.getElem?_eq_getElem hlt]; rfl
      have hxx : l[k]? = some l[k] := List.getElem?_eq_getElem hlt
      have hrx := HX.out l[k] (List.getElem_mem hlt)
      rw [hget] at hx0 hx1 hx2
      simp only [Int.toNat_natCast] at hx0 hx1 hx2
      generalize l[k] = x at hx0 hx1 hx2 hxx hrx
      have z1 : decide ((k : Int) < (l.length : Int)) = true := decide_eq_true (by omega)
      have q1 : (0 ≤ (k : Int)) = True := eq_true (by omega)
      have q2 : ((k : Int) < (l.length : Int)) = True := eq_true (by omega)
      have hf := putG_f (b ++ natB l.length ++ (l.take k).flatMap putG) x hrx (by
        have h1 := take_put (put := putG) hxx (b ++ natB l.length)
        have h2 := take_le (put := putG) l (k + 1) (b ++ natB l.length)
        rw [← h1] at h2
        exact Nat.lt_of_le_of_lt h2 HL.out)
      have hcall := fun W hb ho => image_Encode_1.calls (fun k_ => (False ∨ w.heap.size ≤ k_)) u0 (b ++ natB l.length ++ (l.take k).flatMap putG) x.f0 x.f1 x.f2 _ w0 W hb ho hf
      have HXX := Lib.hid hxx; have HLT := Lib.hid hlt
      clear hC hget hxx hrx hf hlt
      go_wp2_with fail
      ((with_reducible refine (hcall _ (by repeat (first | (with_reducible first | exact HB.out | apply below_alloc | apply pw_below_drewN | apply below_drew1) | exact HB.out)) (by (with_reducible repeat (first | apply Kd.R_alloc | apply Kd.R_drewN | apply Kd.R_drew)); exact HO.out)).mono ?_); rintro e_ w_ ⟨v2, rfl, ho, hb, hkp⟩)
      clear hcall
      have hsz := HK.out.1
      have m1_ := Aside0.mk (Kd.R_mono ho (fun k_ h_ => (h_.elim id (fun g_ => Or.inr (Nat.le_trans hsz (by first | exact g_ | (have g2_ := g_; simp at g2_; omega)))) : False ∨ w.heap.size ≤ k_)))
      have m2_ := Aside0.mk (Kept.then_ (by repeat (first | (with_reducible first | exact HK.out | apply Kept.alloc | apply Kept.drewN | apply Kept.drew) | exact HK.out)) hkp (fun _ h_ => h_))
      have HB2 := Aside0.mk hb
      clear ho hb hkp hsz HO HK HB
      go_wp2
      exact ⟨⟨k + 1, by go_num, ⟨HLT.out⟩, ⟨by rw [← take_put HXX.out]; exact m1_.out⟩, HB2, m2_⟩, by have := HLT.out; simp [intOf]; omega⟩
    · have z1 : decide ((k : Int) < (l.length : Int)) = false := decide_eq_false (by omega)
      obtain rfl : k = l.length := by omega
      go_wp2
      go_ret
      exact ⟨_, rfl, by rw [← List.take_length (l := l)]; simpa using HO.out, HB.out, HK.out⟩
end Go.Proofs.YteidgpaakoeefaaDoor
namespace Go.Proofs.YteidgpaakoeefaaDoor
open Go.RowKit Go.Proofs.YteidgpaakoeefaaDoorW.PrintWords Go.Proofs.YteidgpaakoeefaaDoorW.PrintLast Go.Proofs.YteidgpaakoeefaaDoorW.PrintMore
set_option linter.unusedVariables false
open PIm
theorem natB_len {n : Int} (h : 0 ≤ n) (h1 : n ≤ 9223372036854775807) : 0 < (natB n).length ∧ (natB n).length ≤ 1000 := by
  have e : natB n = venc n.toNat := by unfold natB numF; rw [if_neg (by omega)]; simp
  rw [e]
  exact ⟨venc_pos _, Nat.le_trans (venc_len64 (by omega)) (by decide)⟩
theorem glob23_cond {b : List Int} {l : List S48} {q : Int} {r : List Int} (h : api_Glob_23.f b l q = some r) :
    b ++ natB l.length ++ l.flatMap putG = r ∧ 0 < (natB l.length).length ∧ (natB l.length).length ≤ 1000 ∧ (b ++ natB l.length ++ l.flatMap putG).length < 140737488355328 ∧ l.length ≤ 140737488355318 ∧ ∀ x ∈ l, rngG x := by
  unfold api_Glob_23.f at h
  split at h
  · next hc =>
    have := natB_len (n := (l.length : Int)) (by omega) (by have := hc.2.1; omega)
    exact ⟨by rw [List.append_assoc]; exact Option.some.inj h, this.1, this.2, hc.1, hc.2.1, hc.2.2⟩
  · cases h
end Go.Proofs.YteidgpaakoeefaaDoor
namespace Go.Proofs.YteidgpaakoeefaaDoor.PIm
open Go.RowKit Go.Proofs.YteidgpaakoeefaaDoorW.PrintWords Go.Proofs.YteidgpaakoeefaaDoorW.PrintLast Go.Proofs.YteidgpaakoeefaaDoorW.PrintMore
attribute [local go_sem] max2_int min2_int max_two min_two max_three min_three max_four min_four   -- for this text's walks alone
set_option linter.unusedVariables false
set_option linter.unusedSimpArgs false
def image_ok.f (l0_0 : List (S48)) (l0_1 : List (S54)) : Option (Bool) := if (l0_0.length : Int) ≤ 64 then (if (l0_1.length : Int) ≤ 64 then ((api_Glob_52.f l0_0 53).bind fun t162 => (if t162 = true then (some false) else ((api_Fn_55.f l0_1 56).bind fun t163 => (some (!t163))))) else (some false)) else (some false)
set_option maxHeartbeats 8000000 in
set_option maxRecDepth 100000 in
theorem image_ok.calls (A0_0 : Option Addr) (c0_0 : Nat) (l0_0 : List (S48)) (A0_1 : Option Addr) (c0_1 : Nat) (l0_1 : List (S54)) (r : Bool) (w : World) (hr0_0 : Kd.C k48 w A0_0 l0_0.length l0_0) (hc0_0 : l0_0.length ≤ c0_0) (hr0_1 : Kd.C k54 w A0_1 l0_1.length l0_1) (hc0_1 : l0_1.length ≤ c0_1) (h : image_ok.f l0_0 l0_1 = some r) :
    Calls Tryd.prog 22 #[.agg #[.slice A0_0 l0_0.length c0_0, .slice A0_1 l0_1.length c0_1]] w fun e w' => e = .returned (.bool r) ∧ Below w.heap.size w w' := by
  have hu25 := Tryd.underlying25
  have HR0_0 := Aside0.mk hr0_0
  have HC0_0 := Aside0.mk hc0_0
  clear hr0_0 hc0_0
  have HR0_1 := Aside0.mk hr0_1
  have HC0_1 := Aside0.mk hc0_1
  clear hr0_1 hc0_1
  have HB := Aside0.mk (Below.refl w.heap.size w)
  have H : (if (l0_0.length : Int) ≤ 64 then (if (l0_1.length : Int) ≤ 64 then ((api_Glob_52.f l0_0 53).bind fun t162 => (if t162 = true then (some false) else ((api_Fn_55.f l0_1 56).bind fun t163 => (some (!t163))))) else (some false)) else (some false)) = some r := h
  clear h
  by_cases c2 : (l0_0.length : Int) ≤ 64
  · rw [if_pos c2] at H
    have c2b0 : decide ((l0_0.length : Int) ≤ 64) = true := decide_eq_true c2
    have c2b1 : decide (l0_0.length ≤ 64) = true := decide_eq_true (by omega)
    clear c2
    by_cases c3 : (l0_1.length : Int) ≤ 64
    · rw [if_pos c3] at H
      have c3b0 : decide ((l0_1.length : Int) ≤ 64) = true := decide_eq_true c3
      have c3b1 : decide (l0_1.length ≤ 64) = true := decide_eq_true (by omega)
      clear c3
      replace H := Option.bind_eq_some_iff.mp H
      obtain ⟨t162, A40, H⟩ := H
      replace H : (if t162 = true then (some false) else ((api_Fn_55.f l0_1 56).bind fun t163 => (some (!t163)))) = some r := H
      have A4 := Aside0.mk A40
      clear A40
      by_cases c5 : t162 = true
      · subst c5
        have H1 : (some false) = some r := by rw [if_pos rfl] at H; exact H
        clear H
        have H := H1
        clear H1
        obtain rfl := Option.some.inj H
        go_enter Tryd.func22, Tryd.ntmps22
        go_wp2_with (first | ((with_reducible refine gate_dst (N := 1) rfl ?_); (try (refine gate_guard (by rfl) ?_; dsimp only)); refine box_event ?hg (N := 1) ?hd (cs := #[.slice A0_0 l0_0.length c0_0, .slice A0_1 l0_1.length c0_1]) (t := 25) ?hr ?_; (case hd => rfl); (case hg => rfl); (case hr => first | (go_simp; done) | (go_simp; rfl)); intro gb161 hg w6 hbox hb; have n0_ := Aside0.mk (below_step (by repeat (first | (with_reducible first | exact HB.out | apply below_alloc | apply pw_below_drewN | apply below_drew1) | exact HB.out)) hb); have n1_ := Aside0.mk (hbox); have n2_ := Aside0.mk ((by rw [hg]; exact (below_size (by repeat (first | (with_reducible first | exact HB.out | apply below_alloc | apply pw_below_drewN | apply below_drew1) | exact HB.out))) : w.heap.size ≤ gb161)); have n3_ := Aside0.mk ((by rw [hg]; exact (below_size (by repeat (first | (with_reducible first | exact HB.out | apply below_alloc | apply pw_below_drewN | apply below_drew1) | exact HB.out))) : w.heap.size ≤ gb161)); clear HB; have HB := n0_; have BK161 := n1_; have GW161 := n2_; have GE161 := n3_; clear n0_ n1_ n2_ n3_; clear hb hbox hg; have hcz7_0 : w6.cell? ⟨gb161, 0, none⟩ = some (.slice A0_0 l0_0.length c0_0) := (blk_cell BK161.out 0).trans rfl; have hcz7_1 : w6.cell? ⟨gb161, 1, none⟩ = some (.slice A0_1 l0_1.length c0_1) := (blk_cell BK161.out 1).trans rfl; have hfz7_0 := blk_frozen BK161.out 0; have hfz7_1 := blk_frozen BK161.out 1) | (go_at_call 52; (with_reducible refine (api_Glob_52.calls _ _ l0_0 53 true _ ?side1 ?side2 A4.out).mono ?_); (case side1 => repeat (first | exact (Kd.C_below HR0_0.out HB.out) | (with_reducible refine Kd.C_alloc ?_ _) | (with_reducible refine Kd.C_drewN ?_ _) | (with_reducible refine Kd.C_drew ?_))); (case side2 => exact HC0_0.out); rintro e w8 ⟨rfl, hb⟩; have n0_ := Aside0.mk (blk_below (g := gb161) (o := .cells #[.slice A0_0 l0_0.length c0_0, .slice A0_1 l0_1.length c0_1] 25 (0, 0)) (by (with_reducible repeat (first | refine blk_drewN ?_ _ | refine blk_drew ?_ | refine blk_alloc ?_ _)); exact BK161.out) hb); have n1_ := Aside0.mk (below_step (by repeat (first | (with_reducible first | exact HB.out | apply below_alloc | apply pw_below_drewN | apply below_drew1 | refine below_set ?_ GE161.out) | exact HB.out)) hb); clear BK161; clear HB; have BK161 := n0_; have HB := n1_; clear n0_ n1_; (try clear hb); (try clear hb2); (try clear hk); (try clear hi)))
        go_ret
        exact ⟨by first | rfl | (simp [errW_none, errW_some] <;> rfl) | (simp [*, errW_none, errW_some] <;> rfl), by repeat (first | (with_reducible first | exact HB.out | apply below_alloc | apply pw_below_drewN | apply below_drew1 | refine below_set ?_ GE161.out) | exact HB.out)⟩
      · replace c5 := Bool.eq_false_iff.mpr c5
        subst c5
        have H1 : ((api_Fn_55.f l0_1 56).bind fun t163 => (some (!t163))) = some r := by rw [if_neg (show ¬ (false = true) by decide)] at H; exact H
        clear H
        have H := H1
        clear H1
        replace H := Option.bind_eq_some_iff.mp H
        obtain ⟨t163, A90, H⟩ := H
        replace H : (some (!t163)) = some r := H
        have A9 := Aside0.mk A90
        clear A90
        obtain rfl := Option.some.inj H
        go_enter Tryd.func22, Tryd.ntmps22
        go_wp2_with (first | ((with_reducible refine gate_dst (N := 1) rfl ?_); (try (refine gate_guard (by rfl) ?_; dsimp only)); refine box_event ?hg (N := 1) ?hd (cs := #[.slice A0_0 l0_0.length c0_0, .slice A0_1 l0_1.length c0_1]) (t := 25) ?hr ?_; (case hd => rfl); (case hg => rfl); (case hr => first | (go_simp; done) | (go_simp; rfl)); intro gb161 hg w10 hbox hb; have n0_ := Aside0.mk (below_step (by repeat (first | (with_reducible first | exact HB.out | apply below_alloc | apply pw_below_drewN | apply below_drew1) | exact HB.out)) hb); have n1_ := Aside0.mk (hbox); have n2_ := Aside0.mk ((by rw [hg]; exact (below_size (by repeat (first | (with_reducible first | exact HB.out | apply below_alloc | apply pw_below_drewN | apply below_drew1) | exact HB.out))) : w.heap.size ≤ gb161)); have n3_ := Aside0.mk ((by rw [hg]; exact (below_size (by repeat (first | (with_reducible first | exact HB.out | apply below_alloc | apply pw_below_drewN | apply below_drew1) | exact HB.out))) : w.heap.size ≤ gb161)); clear HB; have HB := n0_; have BK161 := n1_; have GW161 := n2_; have GE161 := n3_; clear n0_ n1_ n2_ n3_; clear hb hbox hg; have hcz11_0 : w10.cell? ⟨gb161, 0, none⟩ = some (.slice A0_0 l0_0.length c0_0) := (blk_cell BK161.out 0).trans rfl; have hcz11_1 : w10.cell? ⟨gb161, 1, none⟩ = some (.slice A0_1 l0_1.length c0_1) := (blk_cell BK161.out 1).trans rfl; have hfz11_0 := blk_frozen BK161.out 0; have hfz11_1 := blk_frozen BK161.out 1) | (go_at_call 52; (with_reducible refine (api_Glob_52.calls _ _ l0_0 53 false _ ?side1 ?side2 A4.out).mono ?_); (case side1 => repeat (first | exact (Kd.C_below HR0_0.out HB.out) | (with_reducible refine Kd.C_alloc ?_ _) | (with_reducible refine Kd.C_drewN ?_ _) | (with_reducible refine Kd.C_drew ?_))); (case side2 => exact HC0_0.out); rintro e w12 ⟨rfl, hb⟩; have n0_ := Aside0.mk (blk_below (g := gb161) (o := .cells #[.slice A0_0 l0_0.length c0_0, .slice A0_1 l0_1.length c0_1] 25 (0, 0)) (by (with_reducible repeat (first | refine blk_drewN ?_ _ | refine blk_drew ?_ | refine blk_alloc ?_ _)); exact BK161.out) hb); have n1_ := Aside0.mk (below_step (by repeat (first | (with_reducible first | exact HB.out | apply below_alloc | apply pw_below_drewN | apply below_drew1 | refine below_set ?_ GE161.out) | exact HB.out)) hb); clear BK161; clear HB; have BK161 := n0_; have HB := n1_; clear n0_ n1_; (try clear hb); (try clear hb2); (try clear hk); (try clear hi); have hcz13_0 : w12.cell? ⟨gb161, 0, none⟩ = some (.slice A0_0 l0_0.length c0_0) := (blk_cell BK161.out 0).trans rfl; have hcz13_1 : w12.cell? ⟨gb161, 1, none⟩ = some (.slice A0_1 l0_1.length c0_1) := (blk_cell BK161.out 1).trans rfl; have hfz13_0 := blk_frozen BK161.out 0; have hfz13_1 := blk_frozen BK161.out 1) | (go_at_call 55; (with_reducible refine (api_Fn_55.calls _ _ l0_1 56 t163 _ ?side1 ?side2 A9.out).mono ?_); (case side1 => repeat (first | exact (Kd.C_below HR0_1.out HB.out) | (with_reducible refine Kd.C_alloc ?_ _) | (with_reducible refine Kd.C_drewN ?_ _) | (with_reducible refine Kd.C_drew ?_))); (case side2 => exact HC0_1.out); rintro e w14 ⟨rfl, hb⟩; have n0_ := Aside0.mk (blk_below (g := gb161) (o := .cells #[.slice A0_0 l0_0.length c0_0, .slice A0_1 l0_1.length c0_1] 25 (0, 0)) (by (with_reducible repeat (first | refine blk_drewN ?_ _ | refine blk_drew ?_ | refine blk_alloc ?_ _)); exact BK161.out) hb); have n1_ := Aside0.mk (below_step (by repeat (first | (with_reducible first | exact HB.out | apply below_alloc | apply pw_below_drewN | apply below_drew1 | refine below_set ?_ GE161.out) | exact HB.out)) hb); clear BK161; clear HB; have BK161 := n0_; have HB := n1_; clear n0_ n1_; (try clear hb); (try clear hb2); (try clear hk); (try clear hi)))
        go_ret
        exact ⟨by first | rfl | (simp [errW_none, errW_some] <;> rfl) | (simp [*, errW_none, errW_some] <;> rfl), by repeat (first | (with_reducible first | exact HB.out | apply below_alloc | apply pw_below_drewN | apply below_drew1 | refine below_set ?_ GE161.out) | exact HB.out)⟩
    · rw [if_neg c3] at H
      have c3b0 : decide ((l0_1.length : Int) ≤ 64) = false := decide_eq_false c3
      have c3b1 : decide (l0_1.length ≤ 64) = false := decide_eq_false (by omega)
      clear c3
      obtain rfl := Option.some.inj H
      go_enter Tryd.func22, Tryd.ntmps22
      go_wp2_with (first | ((with_reducible refine gate_dst (N := 1) rfl ?_); (try (refine gate_guard (by rfl) ?_; dsimp only)); refine box_event ?hg (N := 1) ?hd (cs := #[.slice A0_0 l0_0.length c0_0, .slice A0_1 l0_1.length c0_1]) (t := 25) ?hr ?_; (case hd => rfl); (case hg => rfl); (case hr => first | (go_simp; done) | (go_simp; rfl)); intro gb161 hg w15 hbox hb; have n0_ := Aside0.mk (below_step (by repeat (first | (with_reducible first | exact HB.out | apply below_alloc | apply pw_below_drewN | apply below_drew1) | exact HB.out)) hb); have n1_ := Aside0.mk (hbox); have n2_ := Aside0.mk ((by rw [hg]; exact (below_size (by repeat (first | (with_reducible first | exact HB.out | apply below_alloc | apply pw_below_drewN | apply below_drew1) | exact HB.out))) : w.heap.size ≤ gb161)); have n3_ := Aside0.mk ((by rw [hg]; exact (below_size (by repeat (first | (with_reducible first | exact HB.out | apply below_alloc | apply pw_below_drewN | apply below_drew1) | exact HB.out))) : w.heap.size ≤ gb161)); clear HB; have HB := n0_; have BK161 := n1_; have GW161 := n2_; have GE161 := n3_; clear n0_ n1_ n2_ n3_; clear hb hbox hg; have hcz16_0 : w15.cell? ⟨gb161, 0, none⟩ = some (.slice A0_0 l0_0.length c0_0) := (blk_cell BK161.out 0).trans rfl; have hcz16_1 : w15.cell? ⟨gb161, 1, none⟩ = some (.slice A0_1 l0_1.length c0_1) := (blk_cell BK161.out 1).trans rfl; have hfz16_0 := blk_frozen BK161.out 0; have hfz16_1 := blk_frozen BK161.out 1))
      go_ret
      exact ⟨by first | rfl | (simp [errW_none, errW_some] <;> rfl) | (simp [*, errW_none, errW_some] <;> rfl), by repeat (first | (with_reducible first | exact HB.out | apply below_alloc | apply pw_below_drewN | apply below_drew1 | refine below_set ?_ GE161.out) | exact HB.out)⟩
  · rw [if_neg c2] at H
    have c2b0 : decide ((l0_0.length : Int) ≤ 64) = false := decide_eq_false c2
    have c2b1 : decide (l0_0.length ≤ 64) = false := decide_eq_false (by omega)
    clear c2
    obtain rfl := Option.some.inj H
    go_enter Tryd.func22, Tryd.ntmps22
    go_wp2_with (first | ((with_reducible refine gate_dst (N := 1) rfl ?_); (try (refine gate_guard (by rfl) ?_; dsimp only)); refine box_event ?hg (N := 1) ?hd (cs := #[.slice A0_0 l0_0.length c0_0, .slice A0_1 l0_1.length c0_1]) (t := 25) ?hr ?_; (case hd => rfl); (case hg => rfl); (case hr => first | (go_simp; done) | (go_simp; rfl)); intro gb161 hg w17 hbox hb; have n0_ := Aside0.mk (below_step (by repeat (first | (with_reducible first | exact HB.out | apply below_alloc | apply pw_below_drewN | apply below_drew1) | exact HB.out)) hb); have n1_ := Aside0.mk (hbox); have n2_ := Aside0.mk ((by rw [hg]; exact (below_size (by repeat (first | (with_reducible first | exact HB.out | apply below_alloc | apply pw_below_drewN | apply below_drew1) | exact HB.out))) : w.heap.size ≤ gb161)); have n3_ := Aside0.mk ((by rw [hg]; exact (below_size (by repeat (first | (with_reducible first | exact HB.out | apply below_alloc | apply pw_below_drewN | apply below_drew1) | exact HB.out))) : w.heap.size ≤ gb161)); clear HB; have HB := n0_; have BK161 := n1_; have GW161 := n2_; have GE161 := n3_; clear n0_ n1_ n2_ n3_; clear hb hbox hg; have hcz18_0 : w17.cell? ⟨gb161, 0, none⟩ = some (.slice A0_0 l0_0.length c0_0) := (blk_cell BK161.out 0).trans rfl; have hcz18_1 : w17.cell? ⟨gb161, 1, none⟩ = some (.slice A0_1 l0_1.length c0_1) := (blk_cell BK161.out 1).trans rfl; have hfz18_0 := blk_frozen BK161.out 0; have hfz18_1 := blk_frozen BK161.out 1))
    go_ret
    exact ⟨by first | rfl | (simp [errW_none, errW_some] <;> rfl) | (simp [*, errW_none, errW_some] <;> rfl), by repeat (first | (with_reducible first | exact HB.out | apply below_alloc | apply pw_below_drewN | apply below_drew1 | refine below_set ?_ GE161.out) | exact HB.out)⟩
def image_Encode.f (l0_0 : List (S48)) (l0_1 : List (S54)) : Option (List Int × Int) := (image_ok.f l0_0 l0_1).bind fun t165 => (if t165 = true then ((api_Glob_23.f (([84, 73, 76, 84] : List Int)) l0_0 24).bind fun t169 => ((api_Fn_27.f t169 l0_1 28).bind fun t172 => ((wire_Frame.f t172).bind fun t175 => (if (t175.length : Int) > 1048576 then (some (([] : List Int), 2)) else (some (t175, 0)))))) else (some (([] : List Int), 150)))
set_option maxHeartbeats 8000000 in
set_option maxRecDepth 100000 in
theorem image_Encode.calls (A0_0 : Option Addr) (c0_0 : Nat) (l0_0 : List (S48)) (A0_1 : Option Addr) (c0_1 : Nat) (l0_1 : List (S54)) (r1 : List Int) (r2 : Int) (w : World) (hr0_0 : Kd.C k48 w A0_0 l0_0.length l0_0) (hc0_0 : l0_0.length ≤ c0_0) (hr0_1 : Kd.C k54 w A0_1 l0_1.length l0_1) (hc0_1 : l0_1.length ≤ c0_1) (h : image_Encode.f l0_0 l0_1 = some (r1, r2)) (hW : Tab w) :
    Calls Tryd.prog 11 #[.agg #[.slice A0_0 l0_0.length c0_0, .slice A0_1 l0_1.length c0_1]] w fun e w' => ∃ v0_ : Value, e = .returned (.tuple #[v0_, .int .i64 r2]) ∧ Kd.R (Kd.int .u8) 5 w' w.heap.size (fun _ => True) v0_ r1 ∧ Below w.heap.size w w' := by
  have hu25 := Tryd.underlying25
  have HR0_0 := Aside0.mk hr0_0
  have HC0_0 := Aside0.mk hc0_0
  clear hr0_0 hc0_0
  have HR0_1 := Aside0.mk hr0_1
  have HC0_1 := Aside0.mk hc0_1
  clear hr0_1 hc0_1
  have HB := Aside0.mk (Below.refl w.heap.size w)
  have HWX := Aside0.mk hW
  clear hW
  have H : ((image_ok.f l0_0 l0_1).bind fun t165 => (if t165 = true then ((api_Glob_23.f (([84, 73, 76, 84] : List Int)) l0_0 24).bind fun t169 => ((api_Fn_27.f t169 l0_1 28).bind fun t172 => ((wire_Frame.f t172).bind fun t175 => (if (t175.length : Int) > 1048576 then (some (([] : List Int), 2)) else (some (t175, 0)))))) else (some (([] : List Int), 150)))) = some (r1, r2) := h
  clear h
  replace H := Option.bind_eq_some_iff.mp H
  obtain ⟨t165, A20, H⟩ := H
  replace H : (if t165 = true then ((api_Glob_23.f (([84, 73, 76, 84] : List Int)) l0_0 24).bind fun t169 => ((api_Fn_27.f t169 l0_1 28).bind fun t172 => ((wire_Frame.f t172).bind fun t175 => (if (t175.length : Int) > 1048576 then (some (([] : List Int), 2)) else (some (t175, 0)))))) else (some (([] : List Int), 150))) = some (r1, r2) := H
  have A2 := Aside0.mk A20
  clear A20
  by_cases c3 : t165 = true
  · subst c3
    have H1 : ((api_Glob_23.f (([84, 73, 76, 84] : List Int)) l0_0 24).bind fun t169 => ((api_Fn_27.f t169 l0_1 28).bind fun t172 => ((wire_Frame.f t172).bind fun t175 => (if (t175.length : Int) > 1048576 then (some (([] : List Int), 2)) else (some (t175, 0)))))) = some (r1, r2) := by rw [if_pos rfl] at H; exact H
    clear H
    have H := H1
    clear H1
    obtain ⟨y166, hy166⟩ : ∃ y_ : List Int, y_ = (([84, 73, 76, 84] : List Int)) := ⟨_, rfl⟩
    replace H : ((api_Glob_23.f y166 l0_0 24).bind fun t169 => ((api_Fn_27.f t169 l0_1 28).bind fun t172 => ((wire_Frame.f t172).bind fun t175 => (if (t175.length : Int) > 1048576 then (some (([] : List Int), 2)) else (some (t175, 0)))))) = some (r1, r2) := by first | (rw [hy166]; with_reducible exact H) | (have H2_ := (Option.bind_some _ _).symm.trans H; rw [hy166]; with_reducible exact H2_) | (have H2_ := (Option.bind_some _ _).symm.trans H; with_reducible exact H2_) | with_reducible exact H | (rw [hy166]; exact H) | exact H
    have Ny166 := Aside0.mk hy166
    clear hy166
    replace H := Option.bind_eq_some_iff.mp H
    obtain ⟨t169, A40, H⟩ := H
    replace H : ((api_Fn_27.f t169 l0_1 28).bind fun t172 => ((wire_Frame.f t172).bind fun t175 => (if (t175.length : Int) > 1048576 then (some (([] : List Int), 2)) else (some (t175, 0))))) = some (r1, r2) := H
    have A4 := Aside0.mk A40
    clear A40
    replace H := Option.bind_eq_some_iff.mp H
    obtain ⟨t172, A50, H⟩ := H
    replace H : ((wire_Frame.f t172).bind fun t175 => (if (t175.length : Int) > 1048576 then (some (([] : List Int), 2)) else (some (t175, 0)))) = some (r1, r2) := H
    have A5 := Aside0.mk A50
    clear A50
    replace H := Option.bind_eq_some_iff.mp H
    obtain ⟨t175, A60, H⟩ := H
    replace H : (if (t175.length : Int) > 1048576 then (some (([] : List Int), 2)) else (some (t175, 0))) = some (r1, r2) := H
    have A6 := Aside0.mk A60
    clear A60
    by_cases c7 : (t175.length : Int) > 1048576
    · rw [if_pos c7] at H
      have c7b0 : decide (1048576 < (t175.length : Int)) = true := decide_eq_true c7
      have c7b1 : decide (1048576 < t175.length) = true := decide_eq_true (by omega)
      clear c7
      simp only [Option.some.injEq, Prod.mk.injEq] at H
      obtain ⟨rfl, rfl⟩ := H
      try have G23 := Aside0.mk (glob23_cond (Ny166.out ▸ A4.out))
      have hcm := fun W => conv_mark W #[.int .u8 84, .int .u8 73, .int .u8 76, .int .u8 84] 4
      go_enter Tryd.func11, Tryd.ntmps11
      go_wp2_with (first | ((with_reducible refine gate_dst (N := 1) rfl ?_); refine box_event ?hg (N := 1) ?hd (cs := #[.slice A0_0 l0_0.length c0_0, .slice A0_1 l0_1.length c0_1]) (t := 25) ?hr ?_; (case hd => rfl); (case hg => rfl); (case hr => first | (go_simp; done) | (go_simp; rfl)); intro gb164 hg w8 hbox hb; have n0_ := Aside0.mk (below_step (by repeat (first | (with_reducible first | exact HB.out | apply below_alloc | apply pw_below_drewN | apply below_drew1) | exact HB.out)) hb); have n1_ := Aside0.mk (hbox); have n2_ := Aside0.mk ((by rw [hg]; exact (below_size (by repeat (first | (with_reducible first | exact HB.out | apply below_alloc | apply pw_below_drewN | apply below_drew1) | exact HB.out))) : w.heap.size ≤ gb164)); have n3_ := Aside0.mk ((by rw [hg]; exact (below_size (by repeat (first | (with_reducible first | exact HB.out | apply below_alloc | apply pw_below_drewN | apply below_drew1) | exact HB.out))) : w.heap.size ≤ gb164)); clear HB; have HB := n0_; have BK164 := n1_; have GW164 := n2_; have GE164 := n3_; clear n0_ n1_ n2_ n3_; clear hb hbox hg; have hcz9_0 : w8.cell? ⟨gb164, 0, none⟩ = some (.slice A0_0 l0_0.length c0_0) := (blk_cell BK164.out 0).trans rfl; have hcz9_1 : w8.cell? ⟨gb164, 1, none⟩ = some (.slice A0_1 l0_1.length c0_1) := (blk_cell BK164.out 1).trans rfl; have hfz9_0 := blk_frozen BK164.out 0; have hfz9_1 := blk_frozen BK164.out 1) | ((with_reducible refine gate_callee (f := 22) rfl ?_); refine goesL_ (some 6) rfl rfl Tryd.func22 (by kernel_rfl) rfl #[.agg #[.slice A0_0 l0_0.length c0_0, .slice A0_1 l0_1.length c0_1]] rfl (by (try simp only [List.map_toArray, List.map_cons, List.map_nil]); first | done | rfl | (simp only [List.length_drop, List.length_take]; rfl)) ?_; (with_reducible refine (image_ok.calls _ _ l0_0 _ _ l0_1 true _ ?side1 ?side2 ?side3 ?side4 A2.out).mono ?_); (case side1 => repeat (first | exact (Kd.C_below HR0_0.out HB.out) | (with_reducible refine Kd.C_alloc ?_ _) | (with_reducible refine Kd.C_drewN ?_ _) | (with_reducible refine Kd.C_drew ?_))); (case side2 => exact HC0_0.out); (case side3 => repeat (first | exact (Kd.C_below HR0_1.out HB.out) | (with_reducible refine Kd.C_alloc ?_ _) | (with_reducible refine Kd.C_drewN ?_ _) | (with_reducible refine Kd.C_drew ?_))); (case side4 => exact HC0_1.out); rintro e w10 ⟨rfl, hb⟩; refine ⟨_, rfl, ?_⟩; have n0_ := Aside0.mk (blk_below (g := gb164) (o := .cells #[.slice A0_0 l0_0.length c0_0, .slice A0_1 l0_1.length c0_1] 25 (0, 0)) (by (with_reducible repeat (first | refine blk_drewN ?_ _ | refine blk_drew ?_ | refine blk_alloc ?_ _)); exact BK164.out) hb); have n1_ := Aside0.mk (below_step (by repeat (first | (with_reducible first | exact HB.out | apply below_alloc | apply pw_below_drewN | apply below_drew1 | refine below_set ?_ GE164.out) | exact HB.out)) hb); clear BK164; clear HB; have BK164 := n0_; have HB := n1_; clear n0_ n1_; (try clear hb); (try clear hb2); (try clear hk); (try clear hi); have hczA : (w10.alloc (.cells #[.int .u8 84, .int .u8 73, .int .u8 76, .int .u8 84] 5 (4, 5))).cell? ⟨gb164, 0, none⟩ = some (.slice A0_0 l0_0.length c0_0) := (blk_cell (blk_alloc BK164.out (.cells #[.int .u8 84, .int .u8 73, .int .u8 76, .int .u8 84] 5 (4, 5))) 0).trans rfl) | ((with_reducible refine gate_callee (f := 23) rfl ?_); refine goesL_ (some 12) rfl rfl Tryd.func23 (by kernel_rfl) rfl #[.slice (some ⟨w10.heap.size, 0, none⟩) 4 4, .slice A0_0 l0_0.length c0_0, .func (.func 24) #[] #[]] rfl (by (try simp only [List.map_toArray, List.map_cons, List.map_nil]); first | done | rfl | (simp only [List.length_drop, List.length_take]; rfl)) ?_; (refine (row_glo_full w10.heap.size [84, 73, 76, 84] A0_0 c0_0 l0_0 w _ (by repeat (first | (with_reducible first | exact HB.out | apply below_alloc | apply pw_below_drewN | apply below_drew1) | exact HB.out)) (C_preM w10 [84, 73, 76, 84] [] 5 (4, 5) (by simp) _ rfl) (by decide) G23.out.2.1 G23.out.2.2.1 HR0_0.out G23.out.2.2.2.1 G23.out.2.2.2.2.1 G23.out.2.2.2.2.2).mono ?_); rintro e w15 ⟨v170, rfl, ho0, hb, hkp⟩; rw [G23.out.1] at ho0; refine ⟨_, rfl, ?_⟩; have n0_ := Aside0.mk (blk_kept (blk_alloc BK164.out _) hkp (fun hs_ => hs_.elim)); have n1_ := Aside0.mk (Kd.R_mono (ok' := fun k_ => True) ho0 (fun k_ hk_ => trivial)); have n2_ := Aside0.mk (hb); clear BK164; clear HB; have BK164 := n0_; have HO171 := n1_; have HB := n2_; clear n0_ n1_ n2_; (try clear hb); (try clear hkp); (try clear ho0); have hcz16_0 : w15.cell? ⟨gb164, 0, none⟩ = some (.slice A0_0 l0_0.length c0_0) := (blk_cell BK164.out 0).trans rfl; have hcz16_1 : w15.cell? ⟨gb164, 1, none⟩ = some (.slice A0_1 l0_1.length c0_1) := (blk_cell BK164.out 1).trans rfl; have hfz16_0 := blk_frozen BK164.out 0; have hfz16_1 := blk_frozen BK164.out 1; obtain ⟨Ao17, co17, eo17⟩ := Kd.R_slice HO171.out; subst eo17) | ((with_reducible refine gate_callee (f := 27) rfl ?_); refine goesL_ (some 16) rfl rfl Tryd.func27 (by kernel_rfl) rfl #[.slice Ao17 t169.length co17, .slice A0_1 l0_1.length c0_1, .func (.func 28) #[] #[]] rfl (by (try simp only [List.map_toArray, List.map_cons, List.map_nil]); first | done | rfl | (simp only [List.length_drop, List.length_take]; rfl)) ?_; (with_reducible refine (api_Fn_27.calls (fun k_ => some k_ = (.slice Ao17 t169.length co17 : Value).ownBlock) (.slice Ao17 t169.length co17) t169 _ _ l0_1 28 t172 w _ ?side1 ?side2 ?side3 ?side4 A5.out).mono ?_); (case side1 => repeat (first | (with_reducible first | exact HB.out | apply below_alloc | apply pw_below_drewN | apply below_drew1 | refine below_set ?_ GE164.out) | exact HB.out)); (case side2 => exact Kd.R_tight rfl HO171.out); (case side3 => exact Came3.mk HR0_1.out (by repeat (first | (with_reducible first | exact HB.out | apply below_alloc | apply pw_below_drewN | apply below_drew1 | refine below_set ?_ GE164.out) | exact HB.out)) (fun k_ hs_ => (fun e_ => Kd.R_base HO171.out k_ e_.symm) hs_)); (case side4 => exact HC0_1.out); rintro e w18 ⟨v173, rfl, ho0, hb, hkp⟩; refine ⟨_, rfl, ?_⟩; have n0_ := Aside0.mk (blk_kept (by (with_reducible repeat (first | refine blk_drewN ?_ _ | refine blk_drew ?_ | refine blk_alloc ?_ _)); exact BK164.out) hkp (fun hs_ => (fun e_ => (Kd.R_ne HO171.out BK164.out (by decide)) e_) hs_)); have n1_ := Aside0.mk (Kd.R_mono (ok' := fun k_ => True) ho0 (fun k_ hk_ => trivial)); have n2_ := Aside0.mk (hb); clear BK164; clear HB; clear HO171; have BK164 := n0_; have HO174 := n1_; have HB := n2_; clear n0_ n1_ n2_; (try clear hb); (try clear hkp); (try clear ho0); obtain ⟨Ao19, co19, eo19⟩ := Kd.R_slice HO174.out; subst eo19) | ((with_reducible refine gate_callee (f := 15) rfl ?_); refine goesL_ (some 18) rfl rfl Tryd.func15 (by kernel_rfl) rfl #[.slice Ao19 t172.length co19] rfl (by (try simp only [List.map_toArray, List.map_cons, List.map_nil]); first | done | rfl | (simp only [List.length_drop, List.length_take]; rfl)) ?_; (with_reducible refine (wire_Frame.calls _ _ t172 t175 _ ?side1 ?side2 A6.out (HWX.out.below (by repeat (first | (with_reducible first | exact HB.out | apply below_alloc | apply pw_below_drewN | apply below_drew1 | refine below_set ?_ GE164.out) | exact HB.out)))).mono ?_); (case side1 => repeat (first | exact (Kd.R_reads' HO174.out).2.2 | (with_reducible refine Kd.C_alloc ?_ _) | (with_reducible refine Kd.C_drewN ?_ _) | (with_reducible refine Kd.C_drew ?_))); (case side2 => exact (Kd.R_reads' HO174.out).2.1); rintro e w20 ⟨v176, rfl, ho0, hb⟩; refine ⟨_, rfl, ?_⟩; have n0_ := Aside0.mk (Kd.R_elder' (by (with_reducible repeat (first | apply Kd.R_alloc | apply Kd.R_drewN | apply Kd.R_drew)); exact HO174.out) (Kd.R_base ho0) hb); have n1_ := Aside0.mk (Kd.R_lower (Kd.R_new' ho0 (Kd.R_lt (by (with_reducible repeat (first | apply Kd.R_alloc | apply Kd.R_drewN | apply Kd.R_drew)); exact HO174.out))) (below_size (by repeat (first | (with_reducible first | exact HB.out | apply below_alloc | apply pw_below_drewN | apply below_drew1 | refine below_set ?_ GE164.out) | exact HB.out)))); have n2_ := Aside0.mk (blk_below (g := gb164) (o := .cells #[.slice A0_0 l0_0.length c0_0, .slice A0_1 l0_1.length c0_1] 25 (0, 0)) (by (with_reducible repeat (first | refine blk_drewN ?_ _ | refine blk_drew ?_ | refine blk_alloc ?_ _)); exact BK164.out) hb); have n3_ := Aside0.mk (below_step (by repeat (first | (with_reducible first | exact HB.out | apply below_alloc | apply pw_below_drewN | apply below_drew1 | refine below_set ?_ GE164.out) | exact HB.out)) hb); clear HO174; clear BK164; clear HB; have HO174 := n0_; have HO177 := n1_; have BK164 := n2_; have HB := n3_; clear n0_ n1_ n2_ n3_; (try clear hb); (try clear hb2); (try clear hk); (try clear hi); (try clear ho0); obtain ⟨Ao21, co21, eo21⟩ := Kd.R_slice HO177.out; subst eo21))
      go_ret2
      exact ⟨_, by first | rfl | (simp [errW_none, errW_some] <;> rfl) | (simp [*, errW_none, errW_some] <;> rfl), by first | exact Kd.R_nil _ _ _ _ _ | exact Kd.N_nil _ _ _ _ _ | exact Kd.V_nil _ _ _ _ _ | exact Kd.Q_nil _ _ _ _ _ | exact Kd.S_nil _ _ _ _ _, by repeat (first | (with_reducible first | exact HB.out | apply below_alloc | apply pw_below_drewN | apply below_drew1 | refine below_set ?_ GE164.out) | exact HB.out)⟩
    · rw [if_neg c7] at H
      have c7b0 : decide (1048576 < (t175.length : Int)) = false := decide_eq_false c7
      have c7b1 : decide (1048576 < t175.length) = false := decide_eq_false (by omega)
      clear c7
      simp only [Option.some.injEq, Prod.mk.injEq] at H
      obtain ⟨rfl, rfl⟩ := H
      try have G23 := Aside0.mk (glob23_cond (Ny166.out ▸ A4.out))
      have hcm := fun W => conv_mark W #[.int .u8 84, .int .u8 73, .int .u8 76, .int .u8 84] 4
      go_enter Tryd.func11, Tryd.ntmps11
      go_wp2_with (first | ((with_reducible refine gate_dst (N := 1) rfl ?_); refine box_event ?hg (N := 1) ?hd (cs := #[.slice A0_0 l0_0.length c0_0, .slice A0_1 l0_1.length c0_1]) (t := 25) ?hr ?_; (case hd => rfl); (case hg => rfl); (case hr => first | (go_simp; done) | (go_simp; rfl)); intro gb164 hg w22 hbox hb; have n0_ := Aside0.mk (below_step (by repeat (first | (with_reducible first | exact HB.out | apply below_alloc | apply pw_below_drewN | apply below_drew1) | exact HB.out)) hb); have n1_ := Aside0.mk (hbox); have n2_ := Aside0.mk ((by rw [hg]; exact (below_size (by repeat (first | (with_reducible first | exact HB.out | apply below_alloc | apply pw_below_drewN | apply below_drew1) | exact HB.out))) : w.heap.size ≤ gb164)); have n3_ := Aside0.mk ((by rw [hg]; exact (below_size (by repeat (first | (with_reducible first | exact HB.out | apply below_alloc | apply pw_below_drewN | apply below_drew1) | exact HB.out))) : w.heap.size ≤ gb164)); clear HB; have HB := n0_; have BK164 := n1_; have GW164 := n2_; have GE164 := n3_; clear n0_ n1_ n2_ n3_; clear hb hbox hg; have hcz23_0 : w22.cell? ⟨gb164, 0, none⟩ = some (.slice A0_0 l0_0.length c0_0) := (blk_cell BK164.out 0).trans rfl; have hcz23_1 : w22.cell? ⟨gb164, 1, none⟩ = some (.slice A0_1 l0_1.length c0_1) := (blk_cell BK164.out 1).trans rfl; have hfz23_0 := blk_frozen BK164.out 0; have hfz23_1 := blk_frozen BK164.out 1) | ((with_reducible refine gate_callee (f := 22) rfl ?_); refine goesL_ (some 6) rfl rfl Tryd.func22 (by kernel_rfl) rfl #[.agg #[.slice A0_0 l0_0.length c0_0, .slice A0_1 l0_1.length c0_1]] rfl (by (try simp only [List.map_toArray, List.map_cons, List.map_nil]); first | done | rfl | (simp only [List.length_drop, List.length_take]; rfl)) ?_; (with_reducible refine (image_ok.calls _ _ l0_0 _ _ l0_1 true _ ?side1 ?side2 ?side3 ?side4 A2.out).mono ?_); (case side1 => repeat (first | exact (Kd.C_below HR0_0.out HB.out) | (with_reducible refine Kd.C_alloc ?_ _) | (with_reducible refine Kd.C_drewN ?_ _) | (with_reducible refine Kd.C_drew ?_))); (case side2 => exact HC0_0.out); (case side3 => repeat (first | exact (Kd.C_below HR0_1.out HB.out) | (with_reducible refine Kd.C_alloc ?_ _) | (with_reducible refine Kd.C_drewN ?_ _) | (with_reducible refine Kd.C_drew ?_))); (case side4 => exact HC0_1.out); rintro e w24 ⟨rfl, hb⟩; refine ⟨_, rfl, ?_⟩; have n0_ := Aside0.mk (blk_below (g := gb164) (o := .cells #[.slice A0_0 l0_0.length c0_0, .slice A0_1 l0_1.length c0_1] 25 (0, 0)) (by (with_reducible repeat (first | refine blk_drewN ?_ _ | refine blk_drew ?_ | refine blk_alloc ?_ _)); exact BK164.out) hb); have n1_ := Aside0.mk (below_step (by repeat (first | (with_reducible first | exact HB.out | apply below_alloc | apply pw_below_drewN | apply below_drew1 | refine below_set ?_ GE164.out) | exact HB.out)) hb); clear BK164; clear HB; have BK164 := n0_; have HB := n1_; clear n0_ n1_; (try clear hb); (try clear hb2); (try clear hk); (try clear hi); have hczA : (w24.alloc (.cells #[.int .u8 84, .int .u8 73, .int .u8 76, .int .u8 84] 5 (4, 5))).cell? ⟨gb164, 0, none⟩ = some (.slice A0_0 l0_0.length c0_0) := (blk_cell (blk_alloc BK164.out (.cells #[.int .u8 84, .int .u8 73, .int .u8 76, .int .u8 84] 5 (4, 5))) 0).trans rfl) | ((with_reducible refine gate_callee (f := 23) rfl ?_); refine goesL_ (some 12) rfl rfl Tryd.func23 (by kernel_rfl) rfl #[.slice (some ⟨w24.heap.size, 0, none⟩) 4 4, .slice A0_0 l0_0.length c0_0, .func (.func 24) #[] #[]] rfl (by (try simp only [List.map_toArray, List.map_cons, List.map_nil]); first | done | rfl | (simp only [List.length_drop, List.length_take]; rfl)) ?_; (refine (row_glo_full w24.heap.size [84, 73, 76, 84] A0_0 c0_0 l0_0 w _ (by repeat (first | (with_reducible first | exact HB.out | apply below_alloc | apply pw_below_drewN | apply below_drew1) | exact HB.out)) (C_preM w24 [84, 73, 76, 84] [] 5 (4, 5) (by simp) _ rfl) (by decide) G23.out.2.1 G23.out.2.2.1 HR0_0.out G23.out.2.2.2.1 G23.out.2.2.2.2.1 G23.out.2.2.2.2.2).mono ?_); rintro e w29 ⟨v170, rfl, ho0, hb, hkp⟩; rw [G23.out.1] at ho0; refine ⟨_, rfl, ?_⟩; have n0_ := Aside0.mk (blk_kept (blk_alloc BK164.out _) hkp (fun hs_ => hs_.elim)); have n1_ := Aside0.mk (Kd.R_mono (ok' := fun k_ => True) ho0 (fun k_ hk_ => trivial)); have n2_ := Aside0.mk (hb); clear BK164; clear HB; have BK164 := n0_; have HO171 := n1_; have HB := n2_; clear n0_ n1_ n2_; (try clear hb); (try clear hkp); (try clear ho0); have hcz30_0 : w29.cell? ⟨gb164, 0, none⟩ = some (.slice A0_0 l0_0.length c0_0) := (blk_cell BK164.out 0).trans rfl; have hcz30_1 : w29.cell? ⟨gb164, 1, none⟩ = some (.slice A0_1 l0_1.length c0_1) := (blk_cell BK164.out 1).trans rfl; have hfz30_0 := blk_frozen BK164.out 0; have hfz30_1 := blk_frozen BK164.out 1; obtain ⟨Ao31, co31, eo31⟩ := Kd.R_slice HO171.out; subst eo31) | ((with_reducible refine gate_callee (f := 27) rfl ?_); refine goesL_ (some 16) rfl rfl Tryd.func27 (by kernel_rfl) rfl #[.slice Ao31 t169.length co31, .slice A0_1 l0_1.length c0_1, .func (.func 28) #[] #[]] rfl (by (try simp only [List.map_toArray, List.map_cons, List.map_nil]); first | done | rfl | (simp only [List.length_drop, List.length_take]; rfl)) ?_; (with_reducible refine (api_Fn_27.calls (fun k_ => some k_ = (.slice Ao31 t169.length co31 : Value).ownBlock) (.slice Ao31 t169.length co31) t169 _ _ l0_1 28 t172 w _ ?side1 ?side2 ?side3 ?side4 A5.out).mono ?_); (case side1 => repeat (first | (with_reducible first | exact HB.out | apply below_alloc | apply pw_below_drewN | apply below_drew1 | refine below_set ?_ GE164.out) | exact HB.out)); (case side2 => exact Kd.R_tight rfl HO171.out); (case side3 => exact Came3.mk HR0_1.out (by repeat (first | (with_reducible first | exact HB.out | apply below_alloc | apply pw_below_drewN | apply below_drew1 | refine below_set ?_ GE164.out) | exact HB.out)) (fun k_ hs_ => (fun e_ => Kd.R_base HO171.out k_ e_.symm) hs_)); (case side4 => exact HC0_1.out); rintro e w32 ⟨v173, rfl, ho0, hb, hkp⟩; refine ⟨_, rfl, ?_⟩; have n0_ := Aside0.mk (blk_kept (by (with_reducible repeat (first | refine blk_drewN ?_ _ | refine blk_drew ?_ | refine blk_alloc ?_ _)); exact BK164.out) hkp (fun hs_ => (fun e_ => (Kd.R_ne HO171.out BK164.out (by decide)) e_) hs_)); have n1_ := Aside0.mk (Kd.R_mono (ok' := fun k_ => True) ho0 (fun k_ hk_ => trivial)); have n2_ := Aside0.mk (hb); clear BK164; clear HB; clear HO171; have BK164 := n0_; have HO174 := n1_; have HB := n2_; clear n0_ n1_ n2_; (try clear hb); (try clear hkp); (try clear ho0); obtain ⟨Ao33, co33, eo33⟩ := Kd.R_slice HO174.out; subst eo33) | ((with_reducible refine gate_callee (f := 15) rfl ?_); refine goesL_ (some 18) rfl rfl Tryd.func15 (by kernel_rfl) rfl #[.slice Ao33 t172.length co33] rfl (by (try simp only [List.map_toArray, List.map_cons, List.map_nil]); first | done | rfl | (simp only [List.length_drop, List.length_take]; rfl)) ?_; (with_reducible refine (wire_Frame.calls _ _ t172 t175 _ ?side1 ?side2 A6.out (HWX.out.below (by repeat (first | (with_reducible first | exact HB.out | apply below_alloc | apply pw_below_drewN | apply below_drew1 | refine below_set ?_ GE164.out) | exact HB.out)))).mono ?_); (case side1 => repeat (first | exact (Kd.R_reads' HO174.out).2.2 | (with_reducible refine Kd.C_alloc ?_ _) | (with_reducible refine Kd.C_drewN ?_ _) | (with_reducible refine Kd.C_drew ?_))); (case side2 => exact (Kd.R_reads' HO174.out).2.1); rintro e w34 ⟨v176, rfl, ho0, hb⟩; refine ⟨_, rfl, ?_⟩; have n0_ := Aside0.mk (Kd.R_elder' (by (with_reducible repeat (first | apply Kd.R_alloc | apply Kd.R_drewN | apply Kd.R_drew)); exact HO174.out) (Kd.R_base ho0) hb); have n1_ := Aside0.mk (Kd.R_lower (Kd.R_new' ho0 (Kd.R_lt (by (with_reducible repeat (first | apply Kd.R_alloc | apply Kd.R_drewN | apply Kd.R_drew)); exact HO174.out))) (below_size (by repeat (first | (with_reducible first | exact HB.out | apply below_alloc | apply pw_below_drewN | apply below_drew1 | refine below_set ?_ GE164.out) | exact HB.out)))); have n2_ := Aside0.mk (blk_below (g := gb164) (o := .cells #[.slice A0_0 l0_0.length c0_0, .slice A0_1 l0_1.length c0_1] 25 (0, 0)) (by (with_reducible repeat (first | refine blk_drewN ?_ _ | refine blk_drew ?_ | refine blk_alloc ?_ _)); exact BK164.out) hb); have n3_ := Aside0.mk (below_step (by repeat (first | (with_reducible first | exact HB.out | apply below_alloc | apply pw_below_drewN | apply below_drew1 | refine below_set ?_ GE164.out) | exact HB.out)) hb); clear HO174; clear BK164; clear HB; have HO174 := n0_; have HO177 := n1_; have BK164 := n2_; have HB := n3_; clear n0_ n1_ n2_ n3_; (try clear hb); (try clear hb2); (try clear hk); (try clear hi); (try clear ho0); obtain ⟨Ao35, co35, eo35⟩ := Kd.R_slice HO177.out; subst eo35))
      go_ret2
      exact ⟨_, by first | rfl | (simp [errW_none, errW_some] <;> rfl) | (simp [*, errW_none, errW_some] <;> rfl), by (with_reducible repeat (first | apply Kd.R_alloc | apply Kd.R_drewN | apply Kd.R_drew)); exact Kd.R_mono HO177.out (fun _ hk => trivial), by repeat (first | (with_reducible first | exact HB.out | apply below_alloc | apply pw_below_drewN | apply below_drew1 | refine below_set ?_ GE164.out) | exact HB.out)⟩
  · replace c3 := Bool.eq_false_iff.mpr c3
    subst c3
    have H1 : (some (([] : List Int), 150)) = some (r1, r2) := by rw [if_neg (show ¬ (false = true) by decide)] at H; exact H
    clear H
    have H := H1
    clear H1
    simp only [Option.some.injEq, Prod.mk.injEq] at H
    obtain ⟨rfl, rfl⟩ := H
    try have G23 := Aside0.mk (glob23_cond (Ny166.out ▸ A4.out))
    have hcm := fun W => conv_mark W #[.int .u8 84, .int .u8 73, .int .u8 76, .int .u8 84] 4
    go_enter Tryd.func11, Tryd.ntmps11
    go_wp2_with (first | ((with_reducible refine gate_dst (N := 1) rfl ?_); refine box_event ?hg (N := 1) ?hd (cs := #[.slice A0_0 l0_0.length c0_0, .slice A0_1 l0_1.length c0_1]) (t := 25) ?hr ?_; (case hd => rfl); (case hg => rfl); (case hr => first | (go_simp; done) | (go_simp; rfl)); intro gb164 hg w36 hbox hb; have n0_ := Aside0.mk (below_step (by repeat (first | (with_reducible first | exact HB.out | apply below_alloc | apply pw_below_drewN | apply below_drew1) | exact HB.out)) hb); have n1_ := Aside0.mk (hbox); have n2_ := Aside0.mk ((by rw [hg]; exact (below_size (by repeat (first | (with_reducible first | exact HB.out | apply below_alloc | apply pw_below_drewN | apply below_drew1) | exact HB.out))) : w.heap.size ≤ gb164)); have n3_ := Aside0.mk ((by rw [hg]; exact (below_size (by repeat (first | (with_reducible first | exact HB.out | apply below_alloc | apply pw_below_drewN | apply below_drew1) | exact HB.out))) : w.heap.size ≤ gb164)); clear HB; have HB := n0_; have BK164 := n1_; have GW164 := n2_; have GE164 := n3_; clear n0_ n1_ n2_ n3_; clear hb hbox hg; have hcz37_0 : w36.cell? ⟨gb164, 0, none⟩ = some (.slice A0_0 l0_0.length c0_0) := (blk_cell BK164.out 0).trans rfl; have hcz37_1 : w36.cell? ⟨gb164, 1, none⟩ = some (.slice A0_1 l0_1.length c0_1) := (blk_cell BK164.out 1).trans rfl; have hfz37_0 := blk_frozen BK164.out 0; have hfz37_1 := blk_frozen BK164.out 1) | ((with_reducible refine gate_callee (f := 22) rfl ?_); refine goesL_ (some 6) rfl rfl Tryd.func22 (by kernel_rfl) rfl #[.agg #[.slice A0_0 l0_0.length c0_0, .slice A0_1 l0_1.length c0_1]] rfl (by (try simp only [List.map_toArray, List.map_cons, List.map_nil]); first | done | rfl | (simp only [List.length_drop, List.length_take]; rfl)) ?_; (with_reducible refine (image_ok.calls _ _ l0_0 _ _ l0_1 false _ ?side1 ?side2 ?side3 ?side4 A2.out).mono ?_); (case side1 => repeat (first | exact (Kd.C_below HR0_0.out HB.out) | (with_reducible refine Kd.C_alloc ?_ _) | (with_reducible refine Kd.C_drewN ?_ _) | (with_reducible refine Kd.C_drew ?_))); (case side2 => exact HC0_0.out); (case side3 => repeat (first | exact (Kd.C_below HR0_1.out HB.out) | (with_reducible refine Kd.C_alloc ?_ _) | (with_reducible refine Kd.C_drewN ?_ _) | (with_reducible refine Kd.C_drew ?_))); (case side4 => exact HC0_1.out); rintro e w38 ⟨rfl, hb⟩; refine ⟨_, rfl, ?_⟩; have n0_ := Aside0.mk (blk_below (g := gb164) (o := .cells #[.slice A0_0 l0_0.length c0_0, .slice A0_1 l0_1.length c0_1] 25 (0, 0)) (by (with_reducible repeat (first | refine blk_drewN ?_ _ | refine blk_drew ?_ | refine blk_alloc ?_ _)); exact BK164.out) hb); have n1_ := Aside0.mk (below_step (by repeat (first | (with_reducible first | exact HB.out | apply below_alloc | apply pw_below_drewN | apply below_drew1 | refine below_set ?_ GE164.out) | exact HB.out)) hb); clear BK164; clear HB; have BK164 := n0_; have HB := n1_; clear n0_ n1_; (try clear hb); (try clear hb2); (try clear hk); (try clear hi)))
    go_ret2
    exact ⟨_, by first | rfl | (simp [errW_none, errW_some] <;> rfl) | (simp [*, errW_none, errW_some] <;> rfl), by first | exact Kd.R_nil _ _ _ _ _ | exact Kd.N_nil _ _ _ _ _ | exact Kd.V_nil _ _ _ _ _ | exact Kd.Q_nil _ _ _ _ _ | exact Kd.S_nil _ _ _ _ _, by repeat (first | (with_reducible first | exact HB.out | apply below_alloc | apply pw_below_drewN | apply below_drew1 | refine below_set ?_ GE164.out) | exact HB.out)⟩
def image_Right.f (l0_0 : List (S48)) (l0_1 : List (S54)) : Option (Int) := (image_Encode.f l0_0 l0_1).bind fun bt179 => (some bt179.2)
set_option maxHeartbeats 8000000 in
set_option maxRecDepth 100000 in
theorem image_Right.calls (A0_0 : Option Addr) (c0_0 : Nat) (l0_0 : List (S48)) (A0_1 : Option Addr) (c0_1 : Nat) (l0_1 : List (S54)) (r : Int) (w : World) (hr0_0 : Kd.C k48 w A0_0 l0_0.length l0_0) (hc0_0 : l0_0.length ≤ c0_0) (hr0_1 : Kd.C k54 w A0_1 l0_1.length l0_1) (hc0_1 : l0_1.length ≤ c0_1) (h : image_Right.f l0_0 l0_1 = some r) (hW : Tab w) :
    Calls Tryd.prog 10 #[.agg #[.slice A0_0 l0_0.length c0_0, .slice A0_1 l0_1.length c0_1]] w fun e w' => e = .returned (.int .i64 r) ∧ Below w.heap.size w w' := by
  have hu25 := Tryd.underlying25
  have HR0_0 := Aside0.mk hr0_0
  have HC0_0 := Aside0.mk hc0_0
  clear hr0_0 hc0_0
  have HR0_1 := Aside0.mk hr0_1
  have HC0_1 := Aside0.mk hc0_1
  clear hr0_1 hc0_1
  have HB := Aside0.mk (Below.refl w.heap.size w)
  have HWX := Aside0.mk hW
  clear hW
  have H : ((image_Encode.f l0_0 l0_1).bind fun bt179 => (some bt179.2)) = some r := h
  clear h
  replace H := Option.bind_eq_some_iff.mp H
  obtain ⟨⟨t179, t182⟩, A20, H⟩ := H
  replace H : (some t182) = some r := H
  have A2 := Aside0.mk A20
  clear A20
  obtain rfl := Option.some.inj H
  go_enter Tryd.func10, Tryd.ntmps10
  go_wp2_with (first | ((with_reducible refine gate_dst (N := 1) rfl ?_); refine box_event ?hg (N := 1) ?hd (cs := #[.slice A0_0 l0_0.length c0_0, .slice A0_1 l0_1.length c0_1]) (t := 25) ?hr ?_; (case hd => rfl); (case hg => rfl); (case hr => first | (go_simp; done) | (go_simp; rfl)); intro gb178 hg w3 hbox hb; have n0_ := Aside0.mk (below_step (by repeat (first | (with_reducible first | exact HB.out | apply below_alloc | apply pw_below_drewN | apply below_drew1) | exact HB.out)) hb); have n1_ := Aside0.mk (hbox); have n2_ := Aside0.mk ((by rw [hg]; exact (below_size (by repeat (first | (with_reducible first | exact HB.out | apply below_alloc | apply pw_below_drewN | apply below_drew1) | exact HB.out))) : w.heap.size ≤ gb178)); have n3_ := Aside0.mk ((by rw [hg]; exact (below_size (by repeat (first | (with_reducible first | exact HB.out | apply below_alloc | apply pw_below_drewN | apply below_drew1) | exact HB.out))) : w.heap.size ≤ gb178)); clear HB; have HB := n0_; have BK178 := n1_; have GW178 := n2_; have GE178 := n3_; clear n0_ n1_ n2_ n3_; clear hb hbox hg; have hcz4_0 : w3.cell? ⟨gb178, 0, none⟩ = some (.slice A0_0 l0_0.length c0_0) := (blk_cell BK178.out 0).trans rfl; have hcz4_1 : w3.cell? ⟨gb178, 1, none⟩ = some (.slice A0_1 l0_1.length c0_1) := (blk_cell BK178.out 1).trans rfl; have hfz4_0 := blk_frozen BK178.out 0; have hfz4_1 := blk_frozen BK178.out 1) | ((with_reducible refine gate_callee (f := 11) rfl ?_); refine goesL_ (some 7) rfl rfl Tryd.func11 (by kernel_rfl) rfl #[.agg #[.slice A0_0 l0_0.length c0_0, .slice A0_1 l0_1.length c0_1]] rfl (by (try simp only [List.map_toArray, List.map_cons, List.map_nil]); first | done | rfl | (simp only [List.length_drop, List.length_take]; rfl)) ?_; (with_reducible refine (image_Encode.calls _ _ l0_0 _ _ l0_1 t179 t182 _ ?side1 ?side2 ?side3 ?side4 A2.out (HWX.out.below (by repeat (first | (with_reducible first | exact HB.out | apply below_alloc | apply pw_below_drewN | apply below_drew1 | refine below_set ?_ GE178.out) | exact HB.out)))).mono ?_); (case side1 => repeat (first | exact (Kd.C_below HR0_0.out HB.out) | (with_reducible refine Kd.C_alloc ?_ _) | (with_reducible refine Kd.C_drewN ?_ _) | (with_reducible refine Kd.C_drew ?_))); (case side2 => exact HC0_0.out); (case side3 => repeat (first | exact (Kd.C_below HR0_1.out HB.out) | (with_reducible refine Kd.C_alloc ?_ _) | (with_reducible refine Kd.C_drewN ?_ _) | (with_reducible refine Kd.C_drew ?_))); (case side4 => exact HC0_1.out); rintro e w5 ⟨v180, rfl, ho0, hb⟩; refine ⟨_, rfl, ?_⟩; have n0_ := Aside0.mk (Kd.R_lower ho0 (below_size (by repeat (first | (with_reducible first | exact HB.out | apply below_alloc | apply pw_below_drewN | apply below_drew1 | refine below_set ?_ GE178.out) | exact HB.out)))); have n1_ := Aside0.mk (blk_below (g := gb178) (o := .cells #[.slice A0_0 l0_0.length c0_0, .slice A0_1 l0_1.length c0_1] 25 (0, 0)) (by (with_reducible repeat (first | refine blk_drewN ?_ _ | refine blk_drew ?_ | refine blk_alloc ?_ _)); exact BK178.out) hb); have n2_ := Aside0.mk (below_step (by repeat (first | (with_reducible first | exact HB.out | apply below_alloc | apply pw_below_drewN | apply below_drew1 | refine below_set ?_ GE178.out) | exact HB.out)) hb); clear BK178; clear HB; have HO181 := n0_; have BK178 := n1_; have HB := n2_; clear n0_ n1_ n2_; (try clear hb); (try clear hb2); (try clear hk); (try clear hi); (try clear ho0)))
  go_ret
  exact ⟨by first | rfl | (simp [errW_none, errW_some] <;> rfl) | (simp [*, errW_none, errW_some] <;> rfl), by repeat (first | (with_reducible first | exact HB.out | apply below_alloc | apply pw_below_drewN | apply below_drew1 | refine below_set ?_ GE178.out) | exact HB.out)⟩
end Go.Proofs.YteidgpaakoeefaaDoor.PIm
namespace Go.Proofs.YteidgpaakoeefaaDoor
open Go.RowKit Go.Proofs.YteidgpaakoeefaaDoorW.PrintWords Go.Proofs.YteidgpaakoeefaaDoorW.PrintLast Go.Proofs.YteidgpaakoeefaaDoorW.PrintMore
set_option linter.unusedVariables false
set_option linter.unusedSimpArgs false
open PIm
theorem ok_f (gs : List S48) (fs : List S54) (hg : gs.length ≤ 140737488355318) (hf : fs.length ≤ 140737488355318) (hfin : ∀ f ∈ fs, fnIn f) : image_ok.f gs fs = some (okF gs fs) := by
  have e1 : api_Glob_52.f gs 53 = some (gs.any fun x => !globB x) := by unfold api_Glob_52.f; rw [if_pos hg]
  have e2 : api_Fn_55.f fs 56 = some (fs.any fun x => !fnB x) := by unfold api_Fn_55.f; rw [if_pos ⟨hf, hfin⟩]
  unfold image_ok.f okF
  rw [e1, e2, Option.bind_some, Option.bind_some]
  generalize (gs.any fun x => !globB x) = b1
  generalize (fs.any fun x => !fnB x) = b2
  by_cases h1 : gs.length ≤ 64
  · by_cases h2 : fs.length ≤ 64
    · rw [if_pos (show (gs.length : Int) ≤ 64 by omega), if_pos (show (fs.length : Int) ≤ 64 by omega), decide_eq_true h1, decide_eq_true h2]
      cases b1 <;> cases b2 <;> rfl
    · rw [if_pos (show (gs.length : Int) ≤ 64 by omega), if_neg (show ¬ (fs.length : Int) ≤ 64 by omega), decide_eq_true h1, decide_eq_false h2]; rfl
  · rw [if_neg (show ¬ (gs.length : Int) ≤ 64 by omega), decide_eq_false h1]; rfl
theorem enc_f (gs : List S48) (fs : List S54) (hg : gs.length ≤ 140737488355318) (hf : fs.length ≤ 140737488355318) (hfin : ∀ f ∈ fs, fnIn f)
    (hr : okF gs fs = true → (∀ x ∈ gs, rngG x) ∧ (∀ f ∈ fs, rngF f) ∧ (bodyF gs fs).length ≤ 140737488355318) : image_Encode.f gs fs = some (encF gs fs) := by
  unfold image_Encode.f encF
  rw [ok_f gs fs hg hf hfin, Option.bind_some]
  cases hok : okF gs fs with
  | false => rw [if_neg (by decide), if_neg (by decide)]
  | true =>
    obtain ⟨h1, h2, h3⟩ := hr hok
    have hb : (bodyF gs fs).length = ([84, 73, 76, 84] ++ rowG gs ++ rowF fs : List Int).length := rfl
    rw [hb, List.length_append] at h3
    have e1 : api_Glob_23.f [84, 73, 76, 84] gs 24 = some ([84, 73, 76, 84] ++ rowG gs) := by
      unfold api_Glob_23.f
      rw [if_pos ⟨by rw [List.append_assoc]; exact (by omega : ([84, 73, 76, 84] ++ rowG gs : List Int).length < 140737488355328), hg, h1⟩]
    have e2 : api_Fn_27.f ([84, 73, 76, 84] ++ rowG gs) fs 28 = some (bodyF gs fs) := by
      unfold api_Fn_27.f
      rw [if_pos ⟨by rw [List.append_assoc]; show (([84, 73, 76, 84] ++ rowG gs) ++ rowF fs : List Int).length < _; rw [List.length_append]; omega, hf, h2⟩]
      rfl
    have e3 : wire_Frame.f (bodyF gs fs) = some (frameF (bodyF gs fs)) := by
      unfold wire_Frame.f
      rw [if_pos (by rw [hb, List.length_append]; exact h3)]
    rw [if_pos rfl, e1, Option.bind_some, e2, Option.bind_some, e3, Option.bind_some, if_pos rfl]
    by_cases h : 1048576 < (frameF (bodyF gs fs)).length
    · rw [if_pos (show ((frameF (bodyF gs fs)).length : Int) > 1048576 by omega), if_pos h]
    · rw [if_neg (show ¬ ((frameF (bodyF gs fs)).length : Int) > 1048576 by omega), if_neg h]
end Go.Proofs.YteidgpaakoeefaaDoor
namespace Go.Proofs.YteidgpaakoeefaaDoor
open Go.RowKit Go.Proofs.YteidgpaakoeefaaDoorW.PrintWords Go.Proofs.YteidgpaakoeefaaDoorW.PrintLast Go.Proofs.YteidgpaakoeefaaDoorW.PrintMore
set_option linter.unusedVariables false
set_option linter.unusedSimpArgs false
open PIm
def rdAll (b : List Int) : Option ((List S48 × List S54) × Int) := (rdRows (rdG b) 64 b 4).bind fun g => (rdRows (rdF b) 64 b g.2).bind fun f => some ((g.1, f.1), f.2)
def badI : List S48 × List S54 × Int := ([], [], 150)
def decF (l : List Int) : List S48 × List S54 × Int :=
  if 1048576 < l.length then ([], [], 2)
  else if (opF l).2 = false ∨ (opF l).1.length < 4 ∨ (opF l).1.take 4 ≠ [84, 73, 76, 84] then badI
  else match rdAll (opF l).1 with
    | none => badI
    | some (r, j) => if j = ((opF l).1.length : Int) ∧ okF r.1 r.2 = true then (r.1, r.2, 0) else badI
theorem opF_sub (l : List Int) : ∀ x ∈ (opF l).1, x ∈ l := by
  unfold opF
  intro x hx
  split at hx
  · cases hx
  · split at hx
    · exact List.mem_of_mem_take hx
    · cases hx
theorem opF_len (l : List Int) : (opF l).1.length ≤ l.length := by
  unfold opF
  split
  · exact Nat.zero_le _
  · split
    · simp only [List.length_take]; omega
    · exact Nat.zero_le _
theorem rdF_in {l : List Int} {i j : Int} {x : S54} (hb : ∀ x ∈ l, 0 ≤ x ∧ x < 256) (h : rdF l i = some (x, j)) : fnIn x := by
  unfold rdF at h
  rcases h1 : rdT l i with _ | ⟨a, i1⟩
  · rw [h1] at h; cases h
  rw [h1, Option.bind_some] at h
  rcases h2 : rdRows (rdN l) 8 l i1 with _ | ⟨b, i2⟩
  · rw [h2] at h; cases h
  rw [h2, Option.bind_some] at h
  rcases h3 : rdN l i2 with _ | ⟨n, i3⟩
  · rw [h3] at h; cases h
  rw [h3, Option.bind_some] at h
  rcases h4 : rdRows (rdN l) 32 l i3 with _ | ⟨m, i4⟩
  · rw [h4] at h; cases h
  rw [h4, Option.bind_some] at h
  rcases h5 : rdRows (rdC l) 32768 l i4 with _ | ⟨d, i5⟩
  · rw [h5] at h; cases h
  rw [h5, Option.bind_some] at h
  injection h with h; injection h with h _
  rw [← h]
  have e2 := rdRows_len hb h2
  have e4 := rdRows_len hb h4
  have e5 := rdRows_len hb h5
  have e1 : a.size ≤ 65536 := by
    have hr := tk_range l i 9 (by decide) (by decide) hb
    unfold rdT rtF at h1
    generalize tk l i 9 = t at h1 hr
    obtain ⟨z, p, e⟩ := t
    simp only [] at h1 hr
    by_cases q1 : e ≠ 0
    · rw [if_pos q1, if_neg q1] at h1; cases h1
    rw [if_neg q1] at h1
    by_cases q2 : 65536 < z
    · rw [if_pos q2, if_neg (by decide)] at h1; cases h1
    rw [if_neg q2] at h1
    by_cases q3 : (l.length : Int) - p < z
    · rw [if_pos q3, if_neg (by decide)] at h1; cases h1
    rw [if_neg q3, if_pos rfl] at h1
    injection h1 with h1; injection h1 with h1 _
    have h6 : strOfNums ((l.take (p + z).toNat).drop p.toNat) = a := h1
    rw [← h6, strOfNums_size]
    simp only [List.length_drop, List.length_take]
    omega
  exact ⟨by show a.size ≤ _; omega, by show b.length ≤ _; omega, by show (b ++ m).length ≤ _; rw [List.length_append]; omega, by show d.length ≤ _; omega⟩
theorem rdRow_all {α : Type} {one : Int → Option (α × Int)} {P : α → Prop} (ho : ∀ i x j, one i = some (x, j) → P x) : ∀ (n : Nat) (i : Int) (r : List α) (j : Int), rdRow one n i = some (r, j) → ∀ x ∈ r, P x
  | 0, i, r, j, h => by unfold rdRow at h; injection h with h; injection h with h _; rw [← h]; intro x hx; cases hx
  | n + 1, i, r, j, h => by
    unfold rdRow at h
    rcases h1 : one i with _ | ⟨a, i1⟩
    · rw [h1] at h; cases h
    rw [h1, Option.bind_some] at h
    rcases h2 : rdRow one n i1 with _ | ⟨b, i2⟩
    · rw [h2] at h; cases h
    rw [h2, Option.bind_some] at h
    injection h with h; injection h with h _
    rw [← h]
    intro x hx
    rcases List.mem_cons.1 hx with rfl | hx
    · exact ho _ _ _ h1
    · exact rdRow_all ho n i1 b i2 h2 x hx
theorem rdRows_all {α : Type} {one : Int → Option (α × Int)} {P : α → Prop} (ho : ∀ i x j, one i = some (x, j) → P x) {most : Int} {l : List Int} {i : Int} {r : List α} {j : Int} (h : rdRows one most l i = some (r, j)) : ∀ x ∈ r, P x := by
  unfold rdRows at h
  rcases h1 : rdN l i with _ | ⟨a, i1⟩
  · rw [h1] at h; cases h
  rw [h1, Option.bind_some] at h
  split at h
  · cases h
  · exact rdRow_all ho _ _ _ _ h
theorem tilt_list : (strOfNums [84, 73, 76, 84]).toList = [84, 73, 76, 84] := by kernel_rfl
theorem dec_results (tmps : Array Value) (px pe : Nat) (a b : Value) (y : Int) (W : World) (hp : tmps.getD 2 undef = .pointer (some ⟨px, 0, none⟩)) (hq : tmps.getD 3 undef = .pointer (some ⟨pe, 0, none⟩))
    (hx : W.heap[px]? = some (.cells #[a, b] 25 (0, 0))) (he : W.heap[pe]? = some (.cells #[.int .i64 y] 28 (0, 0))) :
    (results Tryd.f17 tmps).run Tryd.prog W = .ok (.tuple #[.agg #[a, b], .int .i64 y]) W := by
  have hc : W.cell? ⟨pe, 0, none⟩ = some (.int .i64 y) := (blk_cell he 0).trans rfl
  have h1 := run_loadVar_row (P := Tryd.prog) W px 25 25 #[a, b] (0, 0) _ hx Tryd.underlying25 rfl (by kernel_rfl)
  have h2 : (loadVar 28 ⟨pe, 0, none⟩).run Tryd.prog W = .ok (.int .i64 y) W := by
    simp [go_sem, hc]
  have hp' : tmps[2]?.getD undef = .pointer (some ⟨px, 0, none⟩) := by simpa using hp
  have hq' : tmps[3]?.getD undef = .pointer (some ⟨pe, 0, none⟩) := by simpa using hq
  unfold results
  rw [Tryd.results17]
  simp [hp', hq', asAddr, h1, h2]
theorem dec_leave {fn : Func} {tmps : Array Value} {R : Ending → World → Prop} {w : World} {v : Value} (hr : (results fn tmps).run Tryd.prog w = .ok v w) (hR : R (.returned v) w) : Leaves Tryd.prog fn tmps R [] .returning w := by
  unfold Leaves
  exact ⟨v, hr, hR⟩
theorem dec_post {fn : Func} {a : Act} {R : Ending → World → Prop} {w : World} {v : Value} (hd : a.defers = []) (hr : (results fn a.tmps).run Tryd.prog w = .ok v w) (hR : R (.returned v) w) : bodyPostD Tryd.prog fn R .ret a w := by
  show Leaves Tryd.prog fn a.tmps R a.defers .returning w
  rw [hd]
  exact dec_leave hr hR
set_option maxHeartbeats 8000000 in
set_option maxRecDepth 100000 in
theorem Decode_calls (A0 : Option Addr) (c0 : Nat) (l : List Int) (w : World) (hr0 : Kd.C (Kd.int .u8) w A0 l.length l) (hc0 : l.length ≤ c0) (hl : l.length ≤ 140737488355318) (hbt : ∀ x ∈ l, 0 ≤ x ∧ x < 256) (hT : Tab w) :
    Calls Tryd.prog 17 #[.slice A0 l.length c0] w
      fun e w' => ∃ v0 v1, e = .returned (.tuple #[.agg #[v0, v1], .int .i64 (decF l).2.2]) ∧ Kd.R k48 48 w' w.heap.size (fun _ => True) v0 (decF l).1 ∧ Kd.S k54 54 w' w.heap.size (fun _ => True) v1 (decF l).2.1 ∧ Below w.heap.size w w' := by
  have HB := Aside0.mk (Below.refl w.heap.size w)
  obtain ⟨R, hR⟩ : ∃ R, R = decF l := ⟨_, rfl⟩
  rw [← hR]
  obtain ⟨rest, is, hop⟩ : ∃ r b, opF l = (r, b) := ⟨_, _, rfl⟩
  have hrs : ∀ x ∈ rest, 0 ≤ x ∧ x < 256 := fun x hx => hbt x (opF_sub l x (by rw [hop]; exact hx))
  have hrl : rest.length ≤ l.length := by have := opF_len l; rw [hop] at this; exact this
  have hopen : wire_Open.f l = some (rest, is) := by unfold wire_Open.f; rw [if_pos hl, hop]
  unfold decF at hR
  rw [hop] at hR
  have HRR := Aside0.mk hR; have HR0 := Aside0.mk hr0; have HC0 := Aside0.mk hc0; have HL := Aside0.mk hl; have HRS := Aside0.mk hrs; have HRL := Aside0.mk hrl; have HT := Aside0.mk hT; have HOP := Aside0.mk hopen
  have hmf : ∀ (fn : Fn) (first cap : Array Value) (w : World), (Instr.makeFunc fn first cap).run Tryd.prog w = .ok (.func fn first cap) w := fun _ _ _ _ => rfl
  clear hR hr0 hc0 hl hbt hT hop hrs hrl hopen
  by_cases hbig : 1048576 < l.length
  · have d1 : decide ((1048576 : Int) < (l.length : Int)) = true := decide_eq_true (by omega)
    have HR2 : Aside0 (R = ([], [], 2)) := ⟨HRR.out.trans (if_pos hbig)⟩
    clear hbig HRR
    go_enter_defers Tryd.func17, Tryd.ntmps17
    go_wp2_with (first | ((with_reducible refine gate_dst (N := 2) rfl ?_); refine box_event ?hg (N := 2) ?hd (cs := #[.slice none 0 0, .slice none 0 0]) (t := 25) ?hr ?_; (case hd => rfl); (case hg => rfl); (case hr => first | (go_simp; done) | (go_simp; rfl)); intro px hg_ W1 hbox_ hb_; have GEpx := Aside0.mk ((by rw [hg_]; exact (below_size HB.out)) : w.heap.size ≤ px); clear hg_; have n_ := Aside0.mk (below_step HB.out hb_); clear HB; have HB := n_; clear n_; have BKpx := Aside0.mk hbox_; clear hbox_ hb_; have hcpx_0 : W1.cell? ⟨px, 0, none⟩ = some (.slice none 0 0) := (blk_cell BKpx.out 0).trans rfl; have hfpx_0 := blk_frozen BKpx.out 0; have hcpx_1 : W1.cell? ⟨px, 1, none⟩ = some (.slice none 0 0) := (blk_cell BKpx.out 1).trans rfl; have hfpx_1 := blk_frozen BKpx.out 1) | ((with_reducible refine gate_dst (N := 3) rfl ?_); refine box_event ?hg (N := 3) ?hd (cs := #[.int .i64 0]) (t := 28) ?hr ?_; (case hd => rfl); (case hg => rfl); (case hr => first | (go_simp; done) | (go_simp; rfl)); intro pe hg_ W2 hbox_ hb_; have GEpe := Aside0.mk ((by rw [hg_]; exact (below_size HB.out)) : w.heap.size ≤ pe); have NBpx_pe : px ≠ pe := (by rw [hg_]; exact Nat.ne_of_lt (blk_lt BKpx.out)); have NBpe_px : pe ≠ px := Ne.symm NBpx_pe; clear hg_; have n_ := Aside0.mk (blk_below BKpx.out hb_); clear BKpx; have BKpx := n_; clear n_; clear hcpx_0 hfpx_0; clear hcpx_1 hfpx_1; have n_ := Aside0.mk (below_step HB.out hb_); clear HB; have HB := n_; clear n_; have BKpe := Aside0.mk hbox_; clear hbox_ hb_; have hcpx_0 : W2.cell? ⟨px, 0, none⟩ = some (.slice none 0 0) := (blk_cell BKpx.out 0).trans rfl; have hfpx_0 := blk_frozen BKpx.out 0; have hcpx_1 : W2.cell? ⟨px, 1, none⟩ = some (.slice none 0 0) := (blk_cell BKpx.out 1).trans rfl; have hfpx_1 := blk_frozen BKpx.out 1; have hcpe_0 : W2.cell? ⟨pe, 0, none⟩ = some (.int .i64 0) := (blk_cell BKpe.out 0).trans rfl; have hfpe_0 := blk_frozen BKpe.out 0))
    have n_ : Aside0 (((W2.setCell ⟨px, 0, none⟩ (.slice none 0 0)).setCell ⟨px, 1, none⟩ (.slice none 0 0)).heap[px]? = some (.cells #[.slice none 0 0, .slice none 0 0] 25 (0, 0))) := ⟨by refine blk_put (cs := #[.slice none 0 0, .slice none 0 0]) ?_ 1 _ rfl; refine blk_put (cs := #[.slice none 0 0, .slice none 0 0]) ?_ 0 _ rfl; exact BKpx.out⟩
    have m_ : Aside0 (((W2.setCell ⟨px, 0, none⟩ (.slice none 0 0)).setCell ⟨px, 1, none⟩ (.slice none 0 0)).heap[pe]? = some (.cells #[.int .i64 0] 28 (0, 0))) := ⟨(blk_far (blk_far BKpe.out NBpe_px _) NBpe_px _)⟩
    clear BKpe; have BKpe := m_; clear m_
    have b_ : Aside0 (Below w.heap.size w ((W2.setCell ⟨px, 0, none⟩ (.slice none 0 0)).setCell ⟨px, 1, none⟩ (.slice none 0 0))) := ⟨(below_set (below_set HB.out GEpx.out) GEpx.out)⟩
    clear BKpx HB; have BKpx := n_; have HB := b_; clear n_ b_
    clear hcpx_0 hfpx_0
    clear hcpx_1 hfpx_1
    clear hcpe_0 hfpe_0
    generalize ((W2.setCell ⟨px, 0, none⟩ (.slice none 0 0)).setCell ⟨px, 1, none⟩ (.slice none 0 0)) = W3 at *
    have hcpx_0 : W3.cell? ⟨px, 0, none⟩ = some (.slice none 0 0) := (blk_cell BKpx.out 0).trans rfl
    have hfpx_0 := blk_frozen BKpx.out 0
    have hcpx_1 : W3.cell? ⟨px, 1, none⟩ = some (.slice none 0 0) := (blk_cell BKpx.out 1).trans rfl
    have hfpx_1 := blk_frozen BKpx.out 1
    have hcpe_0 : W3.cell? ⟨pe, 0, none⟩ = some (.int .i64 0) := (blk_cell BKpe.out 0).trans rfl
    have hfpe_0 := blk_frozen BKpe.out 0
    have n_ : Aside0 ((W3.setCell ⟨pe, 0, none⟩ (.int .i64 2)).heap[pe]? = some (.cells #[.int .i64 2] 28 (0, 0))) := ⟨by refine blk_put (cs := #[.int .i64 0]) ?_ 0 _ rfl; exact BKpe.out⟩
    have m_ : Aside0 ((W3.setCell ⟨pe, 0, none⟩ (.int .i64 2)).heap[px]? = some (.cells #[.slice none 0 0, .slice none 0 0] 25 (0, 0))) := ⟨(blk_far BKpx.out NBpx_pe _)⟩
    clear BKpx; have BKpx := m_; clear m_
    have b_ : Aside0 (Below w.heap.size w (W3.setCell ⟨pe, 0, none⟩ (.int .i64 2))) := ⟨(below_set HB.out GEpe.out)⟩
    clear BKpe HB; have BKpe := n_; have HB := b_; clear n_ b_
    clear hcpx_0 hfpx_0
    clear hcpx_1 hfpx_1
    clear hcpe_0 hfpe_0
    generalize (W3.setCell ⟨pe, 0, none⟩ (.int .i64 2)) = W4 at *
    have hcpx_0 : W4.cell? ⟨px, 0, none⟩ = some (.slice none 0 0) := (blk_cell BKpx.out 0).trans rfl
    have hfpx_0 := blk_frozen BKpx.out 0
    have hcpx_1 : W4.cell? ⟨px, 1, none⟩ = some (.slice none 0 0) := (blk_cell BKpx.out 1).trans rfl
    have hfpx_1 := blk_frozen BKpx.out 1
    have hcpe_0 : W4.cell? ⟨pe, 0, none⟩ = some (.int .i64 2) := (blk_cell BKpe.out 0).trans rfl
    have hfpe_0 := blk_frozen BKpe.out 0
    refine dec_post rfl (dec_results _ px pe _ _ _ _ rfl rfl BKpx.out BKpe.out) ?_
    exact ⟨.slice none 0 0, .slice none 0 0, by rw [HR2.out] <;> rfl, by rw [HR2.out]; exact Kd.R_nil _ _ _ _ _, by rw [HR2.out]; exact Kd.S_nil _ _ _ _ _, HB.out⟩
  have d1 : decide ((1048576 : Int) < (l.length : Int)) = false := decide_eq_false (by omega)
  have HR2 := Aside0.mk (HRR.out.trans (if_neg hbig)); have HBG := Aside0.mk hbig
  clear hbig HRR
  go_enter_defers Tryd.func17, Tryd.ntmps17
  go_wp2_with (first | ((with_reducible refine gate_dst (N := 2) rfl ?_); refine box_event ?hg (N := 2) ?hd (cs := #[.slice none 0 0, .slice none 0 0]) (t := 25) ?hr ?_; (case hd => rfl); (case hg => rfl); (case hr => first | (go_simp; done) | (go_simp; rfl)); intro px hg_ W1 hbox_ hb_; have GEpx := Aside0.mk ((by rw [hg_]; exact (below_size HB.out)) : w.heap.size ≤ px); clear hg_; have n_ := Aside0.mk (below_step HB.out hb_); clear HB; have HB := n_; clear n_; have BKpx := Aside0.mk hbox_; clear hbox_ hb_; have hcpx_0 : W1.cell? ⟨px, 0, none⟩ = some (.slice none 0 0) := (blk_cell BKpx.out 0).trans rfl; have hfpx_0 := blk_frozen BKpx.out 0; have hcpx_1 : W1.cell? ⟨px, 1, none⟩ = some (.slice none 0 0) := (blk_cell BKpx.out 1).trans rfl; have hfpx_1 := blk_frozen BKpx.out 1) | ((with_reducible refine gate_dst (N := 3) rfl ?_); refine box_event ?hg (N := 3) ?hd (cs := #[.int .i64 0]) (t := 28) ?hr ?_; (case hd => rfl); (case hg => rfl); (case hr => first | (go_simp; done) | (go_simp; rfl)); intro pe hg_ W2 hbox_ hb_; have GEpe := Aside0.mk ((by rw [hg_]; exact (below_size HB.out)) : w.heap.size ≤ pe); have NBpx_pe : px ≠ pe := (by rw [hg_]; exact Nat.ne_of_lt (blk_lt BKpx.out)); have NBpe_px : pe ≠ px := Ne.symm NBpx_pe; clear hg_; have n_ := Aside0.mk (blk_below BKpx.out hb_); clear BKpx; have BKpx := n_; clear n_; clear hcpx_0 hfpx_0; clear hcpx_1 hfpx_1; have n_ := Aside0.mk (below_step HB.out hb_); clear HB; have HB := n_; clear n_; have BKpe := Aside0.mk hbox_; clear hbox_ hb_; have hcpx_0 : W2.cell? ⟨px, 0, none⟩ = some (.slice none 0 0) := (blk_cell BKpx.out 0).trans rfl; have hfpx_0 := blk_frozen BKpx.out 0; have hcpx_1 : W2.cell? ⟨px, 1, none⟩ = some (.slice none 0 0) := (blk_cell BKpx.out 1).trans rfl; have hfpx_1 := blk_frozen BKpx.out 1; have hcpe_0 : W2.cell? ⟨pe, 0, none⟩ = some (.int .i64 0) := (blk_cell BKpe.out 0).trans rfl; have hfpe_0 := blk_frozen BKpe.out 0))
  ((with_reducible refine (wire_Open.calls A0 c0 l rest is _ (Kd.C_below HR0.out HB.out) HC0.out HOP.out (HT.out.below HB.out)).mono ?_); rintro e_ W3 ⟨v0, rfl, ho_, hb_⟩)
  have n_ := Aside0.mk (blk_below BKpx.out hb_); clear BKpx; have BKpx := n_; clear n_
  clear hcpx_0 hfpx_0
  clear hcpx_1 hfpx_1
  have n_ := Aside0.mk (blk_below BKpe.out hb_); clear BKpe; have BKpe := n_; clear n_
  clear hcpe_0 hfpe_0
  have n_ := Aside0.mk (below_step HB.out hb_); clear HB; have HB := n_; clear n_
  clear hb_
  have hcpx_0 : W3.cell? ⟨px, 0, none⟩ = some (.slice none 0 0) := (blk_cell BKpx.out 0).trans rfl
  have hfpx_0 := blk_frozen BKpx.out 0
  have hcpx_1 : W3.cell? ⟨px, 1, none⟩ = some (.slice none 0 0) := (blk_cell BKpx.out 1).trans rfl
  have hfpx_1 := blk_frozen BKpx.out 1
  have hcpe_0 : W3.cell? ⟨pe, 0, none⟩ = some (.int .i64 0) := (blk_cell BKpe.out 0).trans rfl
  have hfpe_0 := blk_frozen BKpe.out 0
  obtain ⟨Ar, cr, rfl, hcr_, hC_⟩ := Kd.R_reads ho_
  have HCR := Aside0.mk hcr_; have HO := Aside0.mk ho_; have HCC := Aside0.mk hC_
  clear ho_ hcr_ hC_
  cases is with
  | false =>
    have HR3 : Aside0 (R = badI) := ⟨HR2.out.trans (if_pos (.inl rfl))⟩
    clear HR2; have HR2 := HR3; clear HR3
    go_wp2
    have n_ : Aside0 (((W3.setCell ⟨px, 0, none⟩ (.slice none 0 0)).setCell ⟨px, 1, none⟩ (.slice none 0 0)).heap[px]? = some (.cells #[.slice none 0 0, .slice none 0 0] 25 (0, 0))) := ⟨by refine blk_put (cs := #[.slice none 0 0, .slice none 0 0]) ?_ 1 _ rfl; refine blk_put (cs := #[.slice none 0 0, .slice none 0 0]) ?_ 0 _ rfl; exact BKpx.out⟩
    have m_ : Aside0 (((W3.setCell ⟨px, 0, none⟩ (.slice none 0 0)).setCell ⟨px, 1, none⟩ (.slice none 0 0)).heap[pe]? = some (.cells #[.int .i64 0] 28 (0, 0))) := ⟨(blk_far (blk_far BKpe.out NBpe_px _) NBpe_px _)⟩
    clear BKpe; have BKpe := m_; clear m_
    have b_ : Aside0 (Below w.heap.size w ((W3.setCell ⟨px, 0, none⟩ (.slice none 0 0)).setCell ⟨px, 1, none⟩ (.slice none 0 0))) := ⟨(below_set (below_set HB.out GEpx.out) GEpx.out)⟩
    clear BKpx HB; have BKpx := n_; have HB := b_; clear n_ b_
    clear hcpx_0 hfpx_0
    clear hcpx_1 hfpx_1
    clear hcpe_0 hfpe_0
    generalize ((W3.setCell ⟨px, 0, none⟩ (.slice none 0 0)).setCell ⟨px, 1, none⟩ (.slice none 0 0)) = W4 at *
    have hcpx_0 : W4.cell? ⟨px, 0, none⟩ = some (.slice none 0 0) := (blk_cell BKpx.out 0).trans rfl
    have hfpx_0 := blk_frozen BKpx.out 0
    have hcpx_1 : W4.cell? ⟨px, 1, none⟩ = some (.slice none 0 0) := (blk_cell BKpx.out 1).trans rfl
    have hfpx_1 := blk_frozen BKpx.out 1
    have hcpe_0 : W4.cell? ⟨pe, 0, none⟩ = some (.int .i64 0) := (blk_cell BKpe.out 0).trans rfl
    have hfpe_0 := blk_frozen BKpe.out 0
    have n_ : Aside0 ((W4.setCell ⟨pe, 0, none⟩ (.int .i64 150)).heap[pe]? = some (.cells #[.int .i64 150] 28 (0, 0))) := ⟨by refine blk_put (cs := #[.int .i64 0]) ?_ 0 _ rfl; exact BKpe.out⟩
    have m_ : Aside0 ((W4.setCell ⟨pe, 0, none⟩ (.int .i64 150)).heap[px]? = some (.cells #[.slice none 0 0, .slice none 0 0] 25 (0, 0))) := ⟨(blk_far BKpx.out NBpx_pe _)⟩
    clear BKpx; have BKpx := m_; clear m_
    have b_ : Aside0 (Below w.heap.size w (W4.setCell ⟨pe, 0, none⟩ (.int .i64 150))) := ⟨(below_set HB.out GEpe.out)⟩
    clear BKpe HB; have BKpe := n_; have HB := b_; clear n_ b_
    clear hcpx_0 hfpx_0
    clear hcpx_1 hfpx_1
    clear hcpe_0 hfpe_0
    generalize (W4.setCell ⟨pe, 0, none⟩ (.int .i64 150)) = W5 at *
    have hcpx_0 : W5.cell? ⟨px, 0, none⟩ = some (.slice none 0 0) := (blk_cell BKpx.out 0).trans rfl
    have hfpx_0 := blk_frozen BKpx.out 0
    have hcpx_1 : W5.cell? ⟨px, 1, none⟩ = some (.slice none 0 0) := (blk_cell BKpx.out 1).trans rfl
    have hfpx_1 := blk_frozen BKpx.out 1
    have hcpe_0 : W5.cell? ⟨pe, 0, none⟩ = some (.int .i64 150) := (blk_cell BKpe.out 0).trans rfl
    have hfpe_0 := blk_frozen BKpe.out 0
    refine dec_post rfl (dec_results _ px pe _ _ _ _ rfl rfl BKpx.out BKpe.out) ?_
    exact ⟨.slice none 0 0, .slice none 0 0, by rw [HR2.out] <;> rfl, by rw [HR2.out]; exact Kd.R_nil _ _ _ _ _, by rw [HR2.out]; exact Kd.S_nil _ _ _ _ _, HB.out⟩
  | true =>
    by_cases h4 : rest.length < 4
    · have d4 : decide ((rest.length : Int) < 4) = true := decide_eq_true (by omega)
      have H4 := Aside0.mk h4; clear h4
      have HR3 : Aside0 (R = badI) := ⟨HR2.out.trans (if_pos (.inr (.inl H4.out)))⟩
      clear HR2; have HR2 := HR3; clear HR3
      go_wp2
      have n_ : Aside0 (((W3.setCell ⟨px, 0, none⟩ (.slice none 0 0)).setCell ⟨px, 1, none⟩ (.slice none 0 0)).heap[px]? = some (.cells #[.slice none 0 0, .slice none 0 0] 25 (0, 0))) := ⟨by refine blk_put (cs := #[.slice none 0 0, .slice none 0 0]) ?_ 1 _ rfl; refine blk_put (cs := #[.slice none 0 0, .slice none 0 0]) ?_ 0 _ rfl; exact BKpx.out⟩
      have m_ : Aside0 (((W3.setCell ⟨px, 0, none⟩ (.slice none 0 0)).setCell ⟨px, 1, none⟩ (.slice none 0 0)).heap[pe]? = some (.cells #[.int .i64 0] 28 (0, 0))) := ⟨(blk_far (blk_far BKpe.out NBpe_px _) NBpe_px _)⟩
      clear BKpe; have BKpe := m_; clear m_
      have b_ : Aside0 (Below w.heap.size w ((W3.setCell ⟨px, 0, none⟩ (.slice none 0 0)).setCell ⟨px, 1, none⟩ (.slice none 0 0))) := ⟨(below_set (below_set HB.out GEpx.out) GEpx.out)⟩
      clear BKpx HB; have BKpx := n_; have HB := b_; clear n_ b_
      clear hcpx_0 hfpx_0
      clear hcpx_1 hfpx_1
      clear hcpe_0 hfpe_0
      generalize ((W3.setCell ⟨px, 0, none⟩ (.slice none 0 0)).setCell ⟨px, 1, none⟩ (.slice none 0 0)) = W4 at *
      have hcpx_0 : W4.cell? ⟨px, 0, none⟩ = some (.slice none 0 0) := (blk_cell BKpx.out 0).trans rfl
      have hfpx_0 := blk_frozen BKpx.out 0
      have hcpx_1 : W4.cell? ⟨px, 1, none⟩ = some (.slice none 0 0) := (blk_cell BKpx.out 1).trans rfl
      have hfpx_1 := blk_frozen BKpx.out 1
      have hcpe_0 : W4.cell? ⟨pe, 0, none⟩ = some (.int .i64 0) := (blk_cell BKpe.out 0).trans rfl
      have hfpe_0 := blk_frozen BKpe.out 0
      have n_ : Aside0 ((W4.setCell ⟨pe, 0, none⟩ (.int .i64 150)).heap[pe]? = some (.cells #[.int .i64 150] 28 (0, 0))) := ⟨by refine blk_put (cs := #[.int .i64 0]) ?_ 0 _ rfl; exact BKpe.out⟩
      have m_ : Aside0 ((W4.setCell ⟨pe, 0, none⟩ (.int .i64 150)).heap[px]? = some (.cells #[.slice none 0 0, .slice none 0 0] 25 (0, 0))) := ⟨(blk_far BKpx.out NBpx_pe _)⟩
      clear BKpx; have BKpx := m_; clear m_
      have b_ : Aside0 (Below w.heap.size w (W4.setCell ⟨pe, 0, none⟩ (.int .i64 150))) := ⟨(below_set HB.out GEpe.out)⟩
      clear BKpe HB; have BKpe := n_; have HB := b_; clear n_ b_
      clear hcpx_0 hfpx_0
      clear hcpx_1 hfpx_1
      clear hcpe_0 hfpe_0
      generalize (W4.setCell ⟨pe, 0, none⟩ (.int .i64 150)) = W5 at *
      have hcpx_0 : W5.cell? ⟨px, 0, none⟩ = some (.slice none 0 0) := (blk_cell BKpx.out 0).trans rfl
      have hfpx_0 := blk_frozen BKpx.out 0
      have hcpx_1 : W5.cell? ⟨px, 1, none⟩ = some (.slice none 0 0) := (blk_cell BKpx.out 1).trans rfl
      have hfpx_1 := blk_frozen BKpx.out 1
      have hcpe_0 : W5.cell? ⟨pe, 0, none⟩ = some (.int .i64 150) := (blk_cell BKpe.out 0).trans rfl
      have hfpe_0 := blk_frozen BKpe.out 0
      refine dec_post rfl (dec_results _ px pe _ _ _ _ rfl rfl BKpx.out BKpe.out) ?_
      exact ⟨.slice none 0 0, .slice none 0 0, by rw [HR2.out] <;> rfl, by rw [HR2.out]; exact Kd.R_nil _ _ _ _ _, by rw [HR2.out]; exact Kd.S_nil _ _ _ _ _, HB.out⟩
    have d4 : decide ((rest.length : Int) < 4) = false := decide_eq_false (by omega)
    have H4 := Aside0.mk h4
    have hcr4 : (4 : Int) ≤ (cr : Int) := by have := HCR.out; omega
    have htl : (rest.take 4).length = 4 := by rw [List.length_take]; omega
    have hC4 := Kd.C_take HCC.out (show 4 ≤ rest.length by omega)
    rw [htl] at hC4
    have hconv := Kd.C_string (P := Tryd.prog) Tryd.underlying30 Tryd.underlying5 Tryd.underlying9 (c := cr) hC4
    have HTL := Aside0.mk htl
    clear h4 htl hC4
    obtain ⟨s4, hs4⟩ : ∃ s, s = strOfNums (rest.take 4) := ⟨_, rfl⟩
    rw [← hs4] at hconv
    have HS4 := Aside0.mk hs4; clear hs4
    have hiff : s4.toList = [84, 73, 76, 84] ↔ rest.take 4 = [84, 73, 76, 84] := by
      rw [HS4.out, ← tilt_list]
      exact strList_inj (fun x hx => HRS.out x (List.mem_of_mem_take hx)) (by decide)
    by_cases hm : s4.toList = [84, 73, 76, 84]
    · have b4 : (s4.toList == [84, 73, 76, 84]) = true := by rw [hm]; rfl
      have HTK := Aside0.mk (hiff.1 hm)
      have HR3 : Aside0 (R = match rdAll rest with | none => badI | some (r, j) => if j = (rest.length : Int) ∧ okF r.1 r.2 = true then (r.1, r.2, 0) else badI) := ⟨HR2.out.trans (if_neg (fun h => h.elim (fun h => by cases h) (fun h => h.elim H4.out (fun h => h HTK.out))))⟩
      clear HR2; have HR2 := HR3; clear HR3 hm hiff
      go_wp2_with (first | ((with_reducible refine gate_dst (N := 33) rfl ?_); refine box_event ?hg (N := 33) ?hd (cs := #[.slice Ar rest.length cr, .int .i64 4]) (t := 78) ?hr ?_; (case hd => rfl); (case hg => rfl); (case hr => first | (go_simp; done) | (go_simp; rfl)); intro B hg_ W4 hbox_ hb_; have GEB := Aside0.mk ((by rw [hg_]; exact (below_size HB.out)) : w.heap.size ≤ B); have NBpx_B : px ≠ B := (by rw [hg_]; exact Nat.ne_of_lt (blk_lt BKpx.out)); have NBB_px : B ≠ px := Ne.symm NBpx_B; have NBpe_B : pe ≠ B := (by rw [hg_]; exact Nat.ne_of_lt (blk_lt BKpe.out)); have NBB_pe : B ≠ pe := Ne.symm NBpe_B; have HOB := Aside0.mk (Kd.R_mono (ok' := fun k_ => k_ ≠ B) (Kd.R_bound HO.out) (fun k_ h_ => by have := h_.2.2.1; rw [hg_]; omega)); clear hg_; have n_ := Aside0.mk (blk_below BKpx.out hb_); clear BKpx; have BKpx := n_; clear n_; clear hcpx_0 hfpx_0; clear hcpx_1 hfpx_1; have n_ := Aside0.mk (blk_below BKpe.out hb_); clear BKpe; have BKpe := n_; clear n_; clear hcpe_0 hfpe_0; have n_ := Aside0.mk (below_step HB.out hb_); clear HB; have HB := n_; clear n_; have BKB := Aside0.mk hbox_; have n_ := Aside0.mk (Kd.R_below HOB.out hb_); clear HOB; have HOB := n_; clear n_ hbox_ hb_; have hcpx_0 : W4.cell? ⟨px, 0, none⟩ = some (.slice none 0 0) := (blk_cell BKpx.out 0).trans rfl; have hfpx_0 := blk_frozen BKpx.out 0; have hcpx_1 : W4.cell? ⟨px, 1, none⟩ = some (.slice none 0 0) := (blk_cell BKpx.out 1).trans rfl; have hfpx_1 := blk_frozen BKpx.out 1; have hcpe_0 : W4.cell? ⟨pe, 0, none⟩ = some (.int .i64 0) := (blk_cell BKpe.out 0).trans rfl; have hfpe_0 := blk_frozen BKpe.out 0; have hcB_0 : W4.cell? ⟨B, 0, none⟩ = some (.slice Ar rest.length cr) := (blk_cell BKB.out 0).trans rfl; have hfB_0 := blk_frozen BKB.out 0; have hcB_1 : W4.cell? ⟨B, 1, none⟩ = some (.int .i64 4) := (blk_cell BKB.out 1).trans rfl; have hfB_1 := blk_frozen BKB.out 1))
      have HC := Aside0.mk (fun W' (hk_ : Kept W4 W' (fun k => k = B)) => Kd.C_kept_own HOB.out (fun k h e => h e) W' hk_)
      refine (rd_rows_glo B Ar cr rest 4 64 _ ⟨by decide, by decide⟩ BKB.out HC.out HCR.out HRS.out (by have := HRL.out; have := HBG.out; omega) (by decide) (by have := H4.out; omega)).mono ?_
      rintro e_ W5 ⟨hk_, h_⟩
      have hb_ := hk_.below_of HB.out GEB.out
      have n_ := Aside0.mk (blk_kept BKpx.out hk_.kept NBpx_B); clear BKpx; have BKpx := n_; clear n_
      have n_ := Aside0.mk (blk_kept BKpe.out hk_.kept NBpe_B); clear BKpe; have BKpe := n_; clear n_
      rcases hR0 : rdRows (rdG rest) 64 rest 4 with _ | ⟨x0, i1⟩
      · rw [hR0] at h_
        obtain ⟨m_, rfl⟩ := h_
        have HR3 : Aside0 (R = badI) := ⟨HR2.out.trans (by simp only [rdAll, hR0, Option.bind_none])⟩
        clear HR2 HB; have HR2 := HR3; have HB := Aside0.mk hb_; clear HR3 hk_ hb_ hR0
        clear hcpx_0 hfpx_0
        clear hcpx_1 hfpx_1
        clear hcpe_0 hfpe_0
        have hcpx_0 : W5.cell? ⟨px, 0, none⟩ = some (.slice none 0 0) := (blk_cell BKpx.out 0).trans rfl
        have hfpx_0 := blk_frozen BKpx.out 0
        have hcpx_1 : W5.cell? ⟨px, 1, none⟩ = some (.slice none 0 0) := (blk_cell BKpx.out 1).trans rfl
        have hfpx_1 := blk_frozen BKpx.out 1
        have hcpe_0 : W5.cell? ⟨pe, 0, none⟩ = some (.int .i64 0) := (blk_cell BKpe.out 0).trans rfl
        have hfpe_0 := blk_frozen BKpe.out 0
        go_wp2
        refine leaves_cons (f := 41) (args := #[.pointer (some ⟨px, 0, none⟩), .pointer (some ⟨pe, 0, none⟩)]) (by simp) (by simp [go_sem]) ?_
        refine (catch_panic px pe m_ 0 (.slice none 0 0) (.slice none 0 0) [] _ BKpx.out BKpe.out NBpx_pe).mono ?_
        rintro e_ u_ w_ ⟨rfl, rfl, rfl⟩
        show Leaves _ _ _ _ [] .returning _
        have n_ : Aside0 (((W5.setCell ⟨px, 0, none⟩ (.slice none 0 0)).setCell ⟨px, 1, none⟩ (.slice none 0 0)).heap[px]? = some (.cells #[.slice none 0 0, .slice none 0 0] 25 (0, 0))) := ⟨by refine blk_put (cs := #[.slice none 0 0, .slice none 0 0]) ?_ 1 _ rfl; refine blk_put (cs := #[.slice none 0 0, .slice none 0 0]) ?_ 0 _ rfl; exact BKpx.out⟩
        have m_ : Aside0 (((W5.setCell ⟨px, 0, none⟩ (.slice none 0 0)).setCell ⟨px, 1, none⟩ (.slice none 0 0)).heap[pe]? = some (.cells #[.int .i64 0] 28 (0, 0))) := ⟨(blk_far (blk_far BKpe.out NBpe_px _) NBpe_px _)⟩
        clear BKpe; have BKpe := m_; clear m_
        have b_ : Aside0 (Below w.heap.size w ((W5.setCell ⟨px, 0, none⟩ (.slice none 0 0)).setCell ⟨px, 1, none⟩ (.slice none 0 0))) := ⟨(below_set (below_set HB.out GEpx.out) GEpx.out)⟩
        clear BKpx HB; have BKpx := n_; have HB := b_; clear n_ b_
        clear hcpx_0 hfpx_0
        clear hcpx_1 hfpx_1
        clear hcpe_0 hfpe_0
        generalize ((W5.setCell ⟨px, 0, none⟩ (.slice none 0 0)).setCell ⟨px, 1, none⟩ (.slice none 0 0)) = W6 at *
        have hcpx_0 : W6.cell? ⟨px, 0, none⟩ = some (.slice none 0 0) := (blk_cell BKpx.out 0).trans rfl
        have hfpx_0 := blk_frozen BKpx.out 0
        have hcpx_1 : W6.cell? ⟨px, 1, none⟩ = some (.slice none 0 0) := (blk_cell BKpx.out 1).trans rfl
        have hfpx_1 := blk_frozen BKpx.out 1
        have hcpe_0 : W6.cell? ⟨pe, 0, none⟩ = some (.int .i64 0) := (blk_cell BKpe.out 0).trans rfl
        have hfpe_0 := blk_frozen BKpe.out 0
        have n_ : Aside0 ((W6.setCell ⟨pe, 0, none⟩ (.int .i64 150)).heap[pe]? = some (.cells #[.int .i64 150] 28 (0, 0))) := ⟨by refine blk_put (cs := #[.int .i64 0]) ?_ 0 _ rfl; exact BKpe.out⟩
        have m_ : Aside0 ((W6.setCell ⟨pe, 0, none⟩ (.int .i64 150)).heap[px]? = some (.cells #[.slice none 0 0, .slice none 0 0] 25 (0, 0))) := ⟨(blk_far BKpx.out NBpx_pe _)⟩
        clear BKpx; have BKpx := m_; clear m_
        have b_ : Aside0 (Below w.heap.size w (W6.setCell ⟨pe, 0, none⟩ (.int .i64 150))) := ⟨(below_set HB.out GEpe.out)⟩
        clear BKpe HB; have BKpe := n_; have HB := b_; clear n_ b_
        clear hcpx_0 hfpx_0
        clear hcpx_1 hfpx_1
        clear hcpe_0 hfpe_0
        generalize (W6.setCell ⟨pe, 0, none⟩ (.int .i64 150)) = W7 at *
        have hcpx_0 : W7.cell? ⟨px, 0, none⟩ = some (.slice none 0 0) := (blk_cell BKpx.out 0).trans rfl
        have hfpx_0 := blk_frozen BKpx.out 0
        have hcpx_1 : W7.cell? ⟨px, 1, none⟩ = some (.slice none 0 0) := (blk_cell BKpx.out 1).trans rfl
        have hfpx_1 := blk_frozen BKpx.out 1
        have hcpe_0 : W7.cell? ⟨pe, 0, none⟩ = some (.int .i64 150) := (blk_cell BKpe.out 0).trans rfl
        have hfpe_0 := blk_frozen BKpe.out 0
        refine dec_leave (dec_results _ px pe _ _ _ _ rfl rfl BKpx.out BKpe.out) ?_
        exact ⟨.slice none 0 0, .slice none 0 0, by rw [HR2.out] <;> rfl, by rw [HR2.out]; exact Kd.R_nil _ _ _ _ _, by rw [HR2.out]; exact Kd.S_nil _ _ _ _ _, HB.out⟩
      rw [hR0] at h_
      obtain ⟨⟨v0, rfl, hv0⟩, hb2_⟩ := h_
      obtain ⟨A0_, c0_, rfl⟩ := Kd.R_slice hv0
      have HV0 := Aside0.mk (Kd.R_mono (ok' := fun k_ => k_ ≠ B) (Kd.R_lower (base' := w.heap.size) hv0 (HB.out.size)) (fun k_ h_ e_ => by have h2_ : B < W4.heap.size := blk_lt BKB.out; omega))
      have n_ := Aside0.mk (Kd.R_kept HOB.out hk_.kept (fun k_ h_ => h_)); clear HOB; have HOB := n_; clear n_
      clear HC
      have HI1 := Aside0.mk (rdRows_rng HRS.out (fun i x j hi_ h => rdG_rng HRS.out h) hR0)
      have HX0 := Aside0.mk hR0; clear BKB HB hR0 hv0; have BKB := Aside0.mk hb2_; have HB := Aside0.mk hb_; clear hk_ hb_ hb2_
      clear hcpx_0 hfpx_0
      clear hcpx_1 hfpx_1
      clear hcpe_0 hfpe_0
      clear hcB_0 hfB_0
      clear hcB_1 hfB_1
      have hcpx_0 : W5.cell? ⟨px, 0, none⟩ = some (.slice none 0 0) := (blk_cell BKpx.out 0).trans rfl
      have hfpx_0 := blk_frozen BKpx.out 0
      have hcpx_1 : W5.cell? ⟨px, 1, none⟩ = some (.slice none 0 0) := (blk_cell BKpx.out 1).trans rfl
      have hfpx_1 := blk_frozen BKpx.out 1
      have hcpe_0 : W5.cell? ⟨pe, 0, none⟩ = some (.int .i64 0) := (blk_cell BKpe.out 0).trans rfl
      have hfpe_0 := blk_frozen BKpe.out 0
      have hcB_0 : W5.cell? ⟨B, 0, none⟩ = some (.slice Ar rest.length cr) := (blk_cell BKB.out 0).trans rfl
      have hfB_0 := blk_frozen BKB.out 0
      have hcB_1 : W5.cell? ⟨B, 1, none⟩ = some (.int .i64 i1) := (blk_cell BKB.out 1).trans rfl
      have hfB_1 := blk_frozen BKB.out 1
      go_wp2_with fail
      have q_ : Aside0 (Kd.R (Kd.int .u8) 5 (W5.setCell ⟨px, 0, none⟩ (.slice A0_ x0.length c0_)) _ (fun k_ => k_ ≠ B) (.slice Ar rest.length cr) rest) := ⟨(Kd.R_set HOB.out BKpx.out (by decide) 0 _)⟩; clear HOB; have HOB := q_; clear q_
      have q_ : Aside0 (Kd.R k48 48 (W5.setCell ⟨px, 0, none⟩ (.slice A0_ x0.length c0_)) w.heap.size (fun k_ => k_ ≠ B) (.slice A0_ x0.length c0_) x0) := ⟨(Kd.R_set HV0.out BKpx.out (by decide) 0 _)⟩; clear HV0; have HV0 := q_; clear q_
      have n_ : Aside0 ((W5.setCell ⟨px, 0, none⟩ (.slice A0_ x0.length c0_)).heap[px]? = some (.cells #[.slice A0_ x0.length c0_, .slice none 0 0] 25 (0, 0))) := ⟨by refine blk_put (cs := #[.slice none 0 0, .slice none 0 0]) ?_ 0 _ rfl; exact BKpx.out⟩
      have m_ : Aside0 ((W5.setCell ⟨px, 0, none⟩ (.slice A0_ x0.length c0_)).heap[pe]? = some (.cells #[.int .i64 0] 28 (0, 0))) := ⟨(blk_far BKpe.out NBpe_px _)⟩
      clear BKpe; have BKpe := m_; clear m_
      have m_ : Aside0 ((W5.setCell ⟨px, 0, none⟩ (.slice A0_ x0.length c0_)).heap[B]? = some (.cells #[.slice Ar rest.length cr, .int .i64 i1] 78 (0, 0))) := ⟨(blk_far BKB.out NBB_px _)⟩
      clear BKB; have BKB := m_; clear m_
      have b_ : Aside0 (Below w.heap.size w (W5.setCell ⟨px, 0, none⟩ (.slice A0_ x0.length c0_))) := ⟨(below_set HB.out GEpx.out)⟩
      clear BKpx HB; have BKpx := n_; have HB := b_; clear n_ b_
      clear hcpx_0 hfpx_0
      clear hcpx_1 hfpx_1
      clear hcpe_0 hfpe_0
      clear hcB_0 hfB_0
      clear hcB_1 hfB_1
      generalize (W5.setCell ⟨px, 0, none⟩ (.slice A0_ x0.length c0_)) = W6 at *
      have hcpx_0 : W6.cell? ⟨px, 0, none⟩ = some (.slice A0_ x0.length c0_) := (blk_cell BKpx.out 0).trans rfl
      have hfpx_0 := blk_frozen BKpx.out 0
      have hcpx_1 : W6.cell? ⟨px, 1, none⟩ = some (.slice none 0 0) := (blk_cell BKpx.out 1).trans rfl
      have hfpx_1 := blk_frozen BKpx.out 1
      have hcpe_0 : W6.cell? ⟨pe, 0, none⟩ = some (.int .i64 0) := (blk_cell BKpe.out 0).trans rfl
      have hfpe_0 := blk_frozen BKpe.out 0
      have hcB_0 : W6.cell? ⟨B, 0, none⟩ = some (.slice Ar rest.length cr) := (blk_cell BKB.out 0).trans rfl
      have hfB_0 := blk_frozen BKB.out 0
      have hcB_1 : W6.cell? ⟨B, 1, none⟩ = some (.int .i64 i1) := (blk_cell BKB.out 1).trans rfl
      have hfB_1 := blk_frozen BKB.out 1
      have HC := Aside0.mk (fun W' (hk_ : Kept W6 W' (fun k => k = B)) => Kd.C_kept_own HOB.out (fun k h e => h e) W' hk_)
      refine (rd_rows_fn B Ar cr rest i1 64 _ ⟨by decide, by decide⟩ BKB.out HC.out HCR.out HRS.out (by have := HRL.out; have := HBG.out; omega) HI1.out.1 HI1.out.2).mono ?_
      rintro e_ W7 ⟨hk_, h_⟩
      have hb_ := hk_.below_of HB.out GEB.out
      have n_ := Aside0.mk (blk_kept BKpx.out hk_.kept NBpx_B); clear BKpx; have BKpx := n_; clear n_
      have n_ := Aside0.mk (blk_kept BKpe.out hk_.kept NBpe_B); clear BKpe; have BKpe := n_; clear n_
      rcases hR1 : rdRows (rdF rest) 64 rest i1 with _ | ⟨x1, i2⟩
      · rw [hR1] at h_
        obtain ⟨m_, rfl⟩ := h_
        have HR3 : Aside0 (R = badI) := ⟨HR2.out.trans (by simp only [rdAll, HX0.out, hR1, Option.bind_some, Option.bind_none])⟩
        clear HR2 HB; have HR2 := HR3; have HB := Aside0.mk hb_; clear HR3 hk_ hb_ hR1
        clear hcpx_0 hfpx_0
        clear hcpx_1 hfpx_1
        clear hcpe_0 hfpe_0
        have hcpx_0 : W7.cell? ⟨px, 0, none⟩ = some (.slice A0_ x0.length c0_) := (blk_cell BKpx.out 0).trans rfl
        have hfpx_0 := blk_frozen BKpx.out 0
        have hcpx_1 : W7.cell? ⟨px, 1, none⟩ = some (.slice none 0 0) := (blk_cell BKpx.out 1).trans rfl
        have hfpx_1 := blk_frozen BKpx.out 1
        have hcpe_0 : W7.cell? ⟨pe, 0, none⟩ = some (.int .i64 0) := (blk_cell BKpe.out 0).trans rfl
        have hfpe_0 := blk_frozen BKpe.out 0
        go_wp2
        refine leaves_cons (f := 41) (args := #[.pointer (some ⟨px, 0, none⟩), .pointer (some ⟨pe, 0, none⟩)]) (by simp) (by simp [go_sem]) ?_
        refine (catch_panic px pe m_ 0 (.slice A0_ x0.length c0_) (.slice none 0 0) [] _ BKpx.out BKpe.out NBpx_pe).mono ?_
        rintro e_ u_ w_ ⟨rfl, rfl, rfl⟩
        show Leaves _ _ _ _ [] .returning _
        have n_ : Aside0 (((W7.setCell ⟨px, 0, none⟩ (.slice none 0 0)).setCell ⟨px, 1, none⟩ (.slice none 0 0)).heap[px]? = some (.cells #[.slice none 0 0, .slice none 0 0] 25 (0, 0))) := ⟨by refine blk_put (cs := #[.slice none 0 0, .slice none 0 0]) ?_ 1 _ rfl; refine blk_put (cs := #[.slice A0_ x0.length c0_, .slice none 0 0]) ?_ 0 _ rfl; exact BKpx.out⟩
        have m_ : Aside0 (((W7.setCell ⟨px, 0, none⟩ (.slice none 0 0)).setCell ⟨px, 1, none⟩ (.slice none 0 0)).heap[pe]? = some (.cells #[.int .i64 0] 28 (0, 0))) := ⟨(blk_far (blk_far BKpe.out NBpe_px _) NBpe_px _)⟩
        clear BKpe; have BKpe := m_; clear m_
        have b_ : Aside0 (Below w.heap.size w ((W7.setCell ⟨px, 0, none⟩ (.slice none 0 0)).setCell ⟨px, 1, none⟩ (.slice none 0 0))) := ⟨(below_set (below_set HB.out GEpx.out) GEpx.out)⟩
        clear BKpx HB; have BKpx := n_; have HB := b_; clear n_ b_
        clear hcpx_0 hfpx_0
        clear hcpx_1 hfpx_1
        clear hcpe_0 hfpe_0
        generalize ((W7.setCell ⟨px, 0, none⟩ (.slice none 0 0)).setCell ⟨px, 1, none⟩ (.slice none 0 0)) = W8 at *
        have hcpx_0 : W8.cell? ⟨px, 0, none⟩ = some (.slice none 0 0) := (blk_cell BKpx.out 0).trans rfl
        have hfpx_0 := blk_frozen BKpx.out 0
        have hcpx_1 : W8.cell? ⟨px, 1, none⟩ = some (.slice none 0 0) := (blk_cell BKpx.out 1).trans rfl
        have hfpx_1 := blk_frozen BKpx.out 1
        have hcpe_0 : W8.cell? ⟨pe, 0, none⟩ = some (.int .i64 0) := (blk_cell BKpe.out 0).trans rfl
        have hfpe_0 := blk_frozen BKpe.out 0
        have n_ : Aside0 ((W8.setCell ⟨pe, 0, none⟩ (.int .i64 150)).heap[pe]? = some (.cells #[.int .i64 150] 28 (0, 0))) := ⟨by refine blk_put (cs := #[.int .i64 0]) ?_ 0 _ rfl; exact BKpe.out⟩
        have m_ : Aside0 ((W8.setCell ⟨pe, 0, none⟩ (.int .i64 150)).heap[px]? = some (.cells #[.slice none 0 0, .slice none 0 0] 25 (0, 0))) := ⟨(blk_far BKpx.out NBpx_pe _)⟩
        clear BKpx; have BKpx := m_; clear m_
        have b_ : Aside0 (Below w.heap.size w (W8.setCell ⟨pe, 0, none⟩ (.int .i64 150))) := ⟨(below_set HB.out GEpe.out)⟩
        clear BKpe HB; have BKpe := n_; have HB := b_; clear n_ b_
        clear hcpx_0 hfpx_0
        clear hcpx_1 hfpx_1
        clear hcpe_0 hfpe_0
        generalize (W8.setCell ⟨pe, 0, none⟩ (.int .i64 150)) = W9 at *
        have hcpx_0 : W9.cell? ⟨px, 0, none⟩ = some (.slice none 0 0) := (blk_cell BKpx.out 0).trans rfl
        have hfpx_0 := blk_frozen BKpx.out 0
        have hcpx_1 : W9.cell? ⟨px, 1, none⟩ = some (.slice none 0 0) := (blk_cell BKpx.out 1).trans rfl
        have hfpx_1 := blk_frozen BKpx.out 1
        have hcpe_0 : W9.cell? ⟨pe, 0, none⟩ = some (.int .i64 150) := (blk_cell BKpe.out 0).trans rfl
        have hfpe_0 := blk_frozen BKpe.out 0
        refine dec_leave (dec_results _ px pe _ _ _ _ rfl rfl BKpx.out BKpe.out) ?_
        exact ⟨.slice none 0 0, .slice none 0 0, by rw [HR2.out] <;> rfl, by rw [HR2.out]; exact Kd.R_nil _ _ _ _ _, by rw [HR2.out]; exact Kd.S_nil _ _ _ _ _, HB.out⟩
      rw [hR1] at h_
      obtain ⟨⟨v1, rfl, hv1⟩, hb2_⟩ := h_
      obtain ⟨A1_, c1_, rfl⟩ := Kd.S_slice hv1
      have HV1 := Aside0.mk (Kd.S_mono (ok' := fun k_ => k_ ≠ B) (Kd.S_lower (base' := w.heap.size) hv1 (HB.out.size)) (fun k_ h_ e_ => by have h2_ : B < W6.heap.size := blk_lt BKB.out; omega))
      have n_ := Aside0.mk (Kd.R_kept HOB.out hk_.kept (fun k_ h_ => h_)); clear HOB; have HOB := n_; clear n_
      have n_ := Aside0.mk (Kd.R_kept HV0.out hk_.kept (fun k_ h_ => h_)); clear HV0; have HV0 := n_; clear n_
      clear HC
      have HI2 := Aside0.mk (rdRows_rng HRS.out (fun i x j hi_ h => rdF_rng HRS.out h) hR1)
      have HX1 := Aside0.mk hR1; clear BKB HB hR1 hv1; have BKB := Aside0.mk hb2_; have HB := Aside0.mk hb_; clear hk_ hb_ hb2_
      clear hcpx_0 hfpx_0
      clear hcpx_1 hfpx_1
      clear hcpe_0 hfpe_0
      clear hcB_0 hfB_0
      clear hcB_1 hfB_1
      have hcpx_0 : W7.cell? ⟨px, 0, none⟩ = some (.slice A0_ x0.length c0_) := (blk_cell BKpx.out 0).trans rfl
      have hfpx_0 := blk_frozen BKpx.out 0
      have hcpx_1 : W7.cell? ⟨px, 1, none⟩ = some (.slice none 0 0) := (blk_cell BKpx.out 1).trans rfl
      have hfpx_1 := blk_frozen BKpx.out 1
      have hcpe_0 : W7.cell? ⟨pe, 0, none⟩ = some (.int .i64 0) := (blk_cell BKpe.out 0).trans rfl
      have hfpe_0 := blk_frozen BKpe.out 0
      have hcB_0 : W7.cell? ⟨B, 0, none⟩ = some (.slice Ar rest.length cr) := (blk_cell BKB.out 0).trans rfl
      have hfB_0 := blk_frozen BKB.out 0
      have hcB_1 : W7.cell? ⟨B, 1, none⟩ = some (.int .i64 i2) := (blk_cell BKB.out 1).trans rfl
      have hfB_1 := blk_frozen BKB.out 1
      have HR3 : Aside0 (R = if i2 = (rest.length : Int) ∧ okF x0 x1 = true then (x0, x1, 0) else badI) := ⟨HR2.out.trans (by simp only [rdAll, HX0.out, HX1.out, Option.bind_some])⟩
      clear HR2; have HR2 := HR3; clear HR3
      obtain ⟨nr, hnr⟩ : ∃ n : Int, n = (rest.length : Int) := ⟨_, rfl⟩
      by_cases hj : i2 = (rest.length : Int)
      · have b5 : (i2 != (rest.length : Int)) = false := by simp [hj]
        have HJ := Aside0.mk hj; clear hj hnr
        go_wp2_with fail
        have q_ : Aside0 (Kd.R (Kd.int .u8) 5 (W7.setCell ⟨px, 1, none⟩ (.slice A1_ x1.length c1_)) _ (fun k_ => k_ ≠ B) (.slice Ar rest.length cr) rest) := ⟨(Kd.R_set HOB.out BKpx.out (by decide) 1 _)⟩; clear HOB; have HOB := q_; clear q_
        have q_ : Aside0 (Kd.R k48 48 (W7.setCell ⟨px, 1, none⟩ (.slice A1_ x1.length c1_)) w.heap.size (fun k_ => k_ ≠ B) (.slice A0_ x0.length c0_) x0) := ⟨(Kd.R_set HV0.out BKpx.out (by decide) 1 _)⟩; clear HV0; have HV0 := q_; clear q_
        have q_ : Aside0 (Kd.S k54 54 (W7.setCell ⟨px, 1, none⟩ (.slice A1_ x1.length c1_)) w.heap.size (fun k_ => k_ ≠ B) (.slice A1_ x1.length c1_) x1) := ⟨(Kd.S_set HV1.out BKpx.out (by decide) 1 _)⟩; clear HV1; have HV1 := q_; clear q_
        have n_ : Aside0 ((W7.setCell ⟨px, 1, none⟩ (.slice A1_ x1.length c1_)).heap[px]? = some (.cells #[.slice A0_ x0.length c0_, .slice A1_ x1.length c1_] 25 (0, 0))) := ⟨by refine blk_put (cs := #[.slice A0_ x0.length c0_, .slice none 0 0]) ?_ 1 _ rfl; exact BKpx.out⟩
        have m_ : Aside0 ((W7.setCell ⟨px, 1, none⟩ (.slice A1_ x1.length c1_)).heap[pe]? = some (.cells #[.int .i64 0] 28 (0, 0))) := ⟨(blk_far BKpe.out NBpe_px _)⟩
        clear BKpe; have BKpe := m_; clear m_
        have m_ : Aside0 ((W7.setCell ⟨px, 1, none⟩ (.slice A1_ x1.length c1_)).heap[B]? = some (.cells #[.slice Ar rest.length cr, .int .i64 i2] 78 (0, 0))) := ⟨(blk_far BKB.out NBB_px _)⟩
        clear BKB; have BKB := m_; clear m_
        have b_ : Aside0 (Below w.heap.size w (W7.setCell ⟨px, 1, none⟩ (.slice A1_ x1.length c1_))) := ⟨(below_set HB.out GEpx.out)⟩
        clear BKpx HB; have BKpx := n_; have HB := b_; clear n_ b_
        clear hcpx_0 hfpx_0
        clear hcpx_1 hfpx_1
        clear hcpe_0 hfpe_0
        clear hcB_0 hfB_0
        clear hcB_1 hfB_1
        generalize (W7.setCell ⟨px, 1, none⟩ (.slice A1_ x1.length c1_)) = W8 at *
        have hcpx_0 : W8.cell? ⟨px, 0, none⟩ = some (.slice A0_ x0.length c0_) := (blk_cell BKpx.out 0).trans rfl
        have hfpx_0 := blk_frozen BKpx.out 0
        have hcpx_1 : W8.cell? ⟨px, 1, none⟩ = some (.slice A1_ x1.length c1_) := (blk_cell BKpx.out 1).trans rfl
        have hfpx_1 := blk_frozen BKpx.out 1
        have hcpe_0 : W8.cell? ⟨pe, 0, none⟩ = some (.int .i64 0) := (blk_cell BKpe.out 0).trans rfl
        have hfpe_0 := blk_frozen BKpe.out 0
        have hcB_0 : W8.cell? ⟨B, 0, none⟩ = some (.slice Ar rest.length cr) := (blk_cell BKB.out 0).trans rfl
        have hfB_0 := blk_frozen BKB.out 0
        have hcB_1 : W8.cell? ⟨B, 1, none⟩ = some (.int .i64 i2) := (blk_cell BKB.out 1).trans rfl
        have hfB_1 := blk_frozen BKB.out 1
        have hok : image_ok.f x0 x1 = some (okF x0 x1) := ok_f x0 x1 (by have := rdRows_len HRS.out HX0.out; omega) (by have := rdRows_len HRS.out HX1.out; omega) (rdRows_all (fun i x j h => rdF_in HRS.out h) HX1.out)
        refine (image_ok.calls A0_ c0_ x0 A1_ c1_ x1 (okF x0 x1) _ (Kd.R_reads' HV0.out).2.2 (Kd.R_reads' HV0.out).2.1 (Kd.S_reads' HV1.out).2.2 (Kd.S_reads' HV1.out).2.1 hok).mono ?_
        rintro e_ W9 ⟨rfl, hb_⟩
        have n_ := Aside0.mk (Kd.R_below HV0.out hb_); clear HV0; have HV0 := n_; clear n_
        have n_ := Aside0.mk (Kd.S_below HV1.out hb_); clear HV1; have HV1 := n_; clear n_
        clear hcB_0 hfB_0 hcB_1 hfB_1 BKB HOB hok
        have n_ := Aside0.mk (blk_below BKpx.out hb_); clear BKpx; have BKpx := n_; clear n_
        clear hcpx_0 hfpx_0
        clear hcpx_1 hfpx_1
        have n_ := Aside0.mk (blk_below BKpe.out hb_); clear BKpe; have BKpe := n_; clear n_
        clear hcpe_0 hfpe_0
        have n_ := Aside0.mk (below_step HB.out hb_); clear HB; have HB := n_; clear n_
        clear hb_
        have hcpx_0 : W9.cell? ⟨px, 0, none⟩ = some (.slice A0_ x0.length c0_) := (blk_cell BKpx.out 0).trans rfl
        have hfpx_0 := blk_frozen BKpx.out 0
        have hcpx_1 : W9.cell? ⟨px, 1, none⟩ = some (.slice A1_ x1.length c1_) := (blk_cell BKpx.out 1).trans rfl
        have hfpx_1 := blk_frozen BKpx.out 1
        have hcpe_0 : W9.cell? ⟨pe, 0, none⟩ = some (.int .i64 0) := (blk_cell BKpe.out 0).trans rfl
        have hfpe_0 := blk_frozen BKpe.out 0
        by_cases hk : okF x0 x1 = true
        · have HOK := Aside0.mk hk
          rw [hk]
          clear hk
          have HR3 : Aside0 (R = (x0, x1, 0)) := ⟨HR2.out.trans (if_pos ⟨HJ.out, HOK.out⟩)⟩
          clear HR2; have HR2 := HR3; clear HR3
          go_wp2
          have q_ : Aside0 (Kd.R k48 48 ((W9.setCell ⟨px, 0, none⟩ (.slice A0_ x0.length c0_)).setCell ⟨px, 1, none⟩ (.slice A1_ x1.length c1_)) w.heap.size (fun k_ => k_ ≠ B) (.slice A0_ x0.length c0_) x0) := ⟨(Kd.R_set (Kd.R_set HV0.out BKpx.out (by decide) 0 _) (blk_put (cs := #[.slice A0_ x0.length c0_, .slice A1_ x1.length c1_]) BKpx.out 0 _ rfl) (by decide) 1 _)⟩; clear HV0; have HV0 := q_; clear q_
          have q_ : Aside0 (Kd.S k54 54 ((W9.setCell ⟨px, 0, none⟩ (.slice A0_ x0.length c0_)).setCell ⟨px, 1, none⟩ (.slice A1_ x1.length c1_)) w.heap.size (fun k_ => k_ ≠ B) (.slice A1_ x1.length c1_) x1) := ⟨(Kd.S_set (Kd.S_set HV1.out BKpx.out (by decide) 0 _) (blk_put (cs := #[.slice A0_ x0.length c0_, .slice A1_ x1.length c1_]) BKpx.out 0 _ rfl) (by decide) 1 _)⟩; clear HV1; have HV1 := q_; clear q_
          have n_ : Aside0 (((W9.setCell ⟨px, 0, none⟩ (.slice A0_ x0.length c0_)).setCell ⟨px, 1, none⟩ (.slice A1_ x1.length c1_)).heap[px]? = some (.cells #[.slice A0_ x0.length c0_, .slice A1_ x1.length c1_] 25 (0, 0))) := ⟨by refine blk_put (cs := #[.slice A0_ x0.length c0_, .slice A1_ x1.length c1_]) ?_ 1 _ rfl; refine blk_put (cs := #[.slice A0_ x0.length c0_, .slice A1_ x1.length c1_]) ?_ 0 _ rfl; exact BKpx.out⟩
          have m_ : Aside0 (((W9.setCell ⟨px, 0, none⟩ (.slice A0_ x0.length c0_)).setCell ⟨px, 1, none⟩ (.slice A1_ x1.length c1_)).heap[pe]? = some (.cells #[.int .i64 0] 28 (0, 0))) := ⟨(blk_far (blk_far BKpe.out NBpe_px _) NBpe_px _)⟩
          clear BKpe; have BKpe := m_; clear m_
          have b_ : Aside0 (Below w.heap.size w ((W9.setCell ⟨px, 0, none⟩ (.slice A0_ x0.length c0_)).setCell ⟨px, 1, none⟩ (.slice A1_ x1.length c1_))) := ⟨(below_set (below_set HB.out GEpx.out) GEpx.out)⟩
          clear BKpx HB; have BKpx := n_; have HB := b_; clear n_ b_
          clear hcpx_0 hfpx_0
          clear hcpx_1 hfpx_1
          clear hcpe_0 hfpe_0
          generalize ((W9.setCell ⟨px, 0, none⟩ (.slice A0_ x0.length c0_)).setCell ⟨px, 1, none⟩ (.slice A1_ x1.length c1_)) = W10 at *
          have hcpx_0 : W10.cell? ⟨px, 0, none⟩ = some (.slice A0_ x0.length c0_) := (blk_cell BKpx.out 0).trans rfl
          have hfpx_0 := blk_frozen BKpx.out 0
          have hcpx_1 : W10.cell? ⟨px, 1, none⟩ = some (.slice A1_ x1.length c1_) := (blk_cell BKpx.out 1).trans rfl
          have hfpx_1 := blk_frozen BKpx.out 1
          have hcpe_0 : W10.cell? ⟨pe, 0, none⟩ = some (.int .i64 0) := (blk_cell BKpe.out 0).trans rfl
          have hfpe_0 := blk_frozen BKpe.out 0
          have q_ : Aside0 (Kd.R k48 48 (W10.setCell ⟨pe, 0, none⟩ (.int .i64 0)) w.heap.size (fun k_ => k_ ≠ B) (.slice A0_ x0.length c0_) x0) := ⟨(Kd.R_set HV0.out BKpe.out (by decide) 0 _)⟩; clear HV0; have HV0 := q_; clear q_
          have q_ : Aside0 (Kd.S k54 54 (W10.setCell ⟨pe, 0, none⟩ (.int .i64 0)) w.heap.size (fun k_ => k_ ≠ B) (.slice A1_ x1.length c1_) x1) := ⟨(Kd.S_set HV1.out BKpe.out (by decide) 0 _)⟩; clear HV1; have HV1 := q_; clear q_
          have n_ : Aside0 ((W10.setCell ⟨pe, 0, none⟩ (.int .i64 0)).heap[pe]? = some (.cells #[.int .i64 0] 28 (0, 0))) := ⟨by refine blk_put (cs := #[.int .i64 0]) ?_ 0 _ rfl; exact BKpe.out⟩
          have m_ : Aside0 ((W10.setCell ⟨pe, 0, none⟩ (.int .i64 0)).heap[px]? = some (.cells #[.slice A0_ x0.length c0_, .slice A1_ x1.length c1_] 25 (0, 0))) := ⟨(blk_far BKpx.out NBpx_pe _)⟩
          clear BKpx; have BKpx := m_; clear m_
          have b_ : Aside0 (Below w.heap.size w (W10.setCell ⟨pe, 0, none⟩ (.int .i64 0))) := ⟨(below_set HB.out GEpe.out)⟩
          clear BKpe HB; have BKpe := n_; have HB := b_; clear n_ b_
          clear hcpx_0 hfpx_0
          clear hcpx_1 hfpx_1
          clear hcpe_0 hfpe_0
          generalize (W10.setCell ⟨pe, 0, none⟩ (.int .i64 0)) = W11 at *
          have hcpx_0 : W11.cell? ⟨px, 0, none⟩ = some (.slice A0_ x0.length c0_) := (blk_cell BKpx.out 0).trans rfl
          have hfpx_0 := blk_frozen BKpx.out 0
          have hcpx_1 : W11.cell? ⟨px, 1, none⟩ = some (.slice A1_ x1.length c1_) := (blk_cell BKpx.out 1).trans rfl
          have hfpx_1 := blk_frozen BKpx.out 1
          have hcpe_0 : W11.cell? ⟨pe, 0, none⟩ = some (.int .i64 0) := (blk_cell BKpe.out 0).trans rfl
          have hfpe_0 := blk_frozen BKpe.out 0
          refine leaves_cons (f := 41) (args := #[.pointer (some ⟨px, 0, none⟩), .pointer (some ⟨pe, 0, none⟩)]) (by simp) (by simp [go_sem]) ?_
          refine (catch_idle px pe _).mono ?_
          rintro e_ u_ w_ ⟨rfl, rfl, rfl⟩
          refine dec_leave (dec_results _ px pe _ _ _ _ rfl rfl BKpx.out BKpe.out) ?_
          exact ⟨.slice A0_ x0.length c0_, .slice A1_ x1.length c1_, by rw [HR2.out] <;> rfl, by rw [HR2.out]; exact Kd.R_mono HV0.out (fun _ _ => trivial), by rw [HR2.out]; exact Kd.S_mono HV1.out (fun _ _ => trivial), HB.out⟩
        · have HOK := Aside0.mk hk
          have hk2 : okF x0 x1 = false := by simpa using hk
          rw [hk2]
          clear hk hk2
          have HR3 : Aside0 (R = badI) := ⟨HR2.out.trans (if_neg (fun h => HOK.out h.2))⟩
          clear HR2; have HR2 := HR3; clear HR3
          go_wp2
          have q_ : Aside0 (Kd.R k48 48 ((W9.setCell ⟨px, 0, none⟩ (.slice none 0 0)).setCell ⟨px, 1, none⟩ (.slice none 0 0)) w.heap.size (fun k_ => k_ ≠ B) (.slice A0_ x0.length c0_) x0) := ⟨(Kd.R_set (Kd.R_set HV0.out BKpx.out (by decide) 0 _) (blk_put (cs := #[.slice A0_ x0.length c0_, .slice A1_ x1.length c1_]) BKpx.out 0 _ rfl) (by decide) 1 _)⟩; clear HV0; have HV0 := q_; clear q_
          have q_ : Aside0 (Kd.S k54 54 ((W9.setCell ⟨px, 0, none⟩ (.slice none 0 0)).setCell ⟨px, 1, none⟩ (.slice none 0 0)) w.heap.size (fun k_ => k_ ≠ B) (.slice A1_ x1.length c1_) x1) := ⟨(Kd.S_set (Kd.S_set HV1.out BKpx.out (by decide) 0 _) (blk_put (cs := #[.slice A0_ x0.length c0_, .slice A1_ x1.length c1_]) BKpx.out 0 _ rfl) (by decide) 1 _)⟩; clear HV1; have HV1 := q_; clear q_
          have n_ : Aside0 (((W9.setCell ⟨px, 0, none⟩ (.slice none 0 0)).setCell ⟨px, 1, none⟩ (.slice none 0 0)).heap[px]? = some (.cells #[.slice none 0 0, .slice none 0 0] 25 (0, 0))) := ⟨by refine blk_put (cs := #[.slice none 0 0, .slice A1_ x1.length c1_]) ?_ 1 _ rfl; refine blk_put (cs := #[.slice A0_ x0.length c0_, .slice A1_ x1.length c1_]) ?_ 0 _ rfl; exact BKpx.out⟩
          have m_ : Aside0 (((W9.setCell ⟨px, 0, none⟩ (.slice none 0 0)).setCell ⟨px, 1, none⟩ (.slice none 0 0)).heap[pe]? = some (.cells #[.int .i64 0] 28 (0, 0))) := ⟨(blk_far (blk_far BKpe.out NBpe_px _) NBpe_px _)⟩
          clear BKpe; have BKpe := m_; clear m_
          have b_ : Aside0 (Below w.heap.size w ((W9.setCell ⟨px, 0, none⟩ (.slice none 0 0)).setCell ⟨px, 1, none⟩ (.slice none 0 0))) := ⟨(below_set (below_set HB.out GEpx.out) GEpx.out)⟩
          clear BKpx HB; have BKpx := n_; have HB := b_; clear n_ b_
          clear hcpx_0 hfpx_0
          clear hcpx_1 hfpx_1
          clear hcpe_0 hfpe_0
          generalize ((W9.setCell ⟨px, 0, none⟩ (.slice none 0 0)).setCell ⟨px, 1, none⟩ (.slice none 0 0)) = W10 at *
          have hcpx_0 : W10.cell? ⟨px, 0, none⟩ = some (.slice none 0 0) := (blk_cell BKpx.out 0).trans rfl
          have hfpx_0 := blk_frozen BKpx.out 0
          have hcpx_1 : W10.cell? ⟨px, 1, none⟩ = some (.slice none 0 0) := (blk_cell BKpx.out 1).trans rfl
          have hfpx_1 := blk_frozen BKpx.out 1
          have hcpe_0 : W10.cell? ⟨pe, 0, none⟩ = some (.int .i64 0) := (blk_cell BKpe.out 0).trans rfl
          have hfpe_0 := blk_frozen BKpe.out 0
          have q_ : Aside0 (Kd.R k48 48 (W10.setCell ⟨pe, 0, none⟩ (.int .i64 150)) w.heap.size (fun k_ => k_ ≠ B) (.slice A0_ x0.length c0_) x0) := ⟨(Kd.R_set HV0.out BKpe.out (by decide) 0 _)⟩; clear HV0; have HV0 := q_; clear q_
          have q_ : Aside0 (Kd.S k54 54 (W10.setCell ⟨pe, 0, none⟩ (.int .i64 150)) w.heap.size (fun k_ => k_ ≠ B) (.slice A1_ x1.length c1_) x1) := ⟨(Kd.S_set HV1.out BKpe.out (by decide) 0 _)⟩; clear HV1; have HV1 := q_; clear q_
          have n_ : Aside0 ((W10.setCell ⟨pe, 0, none⟩ (.int .i64 150)).heap[pe]? = some (.cells #[.int .i64 150] 28 (0, 0))) := ⟨by refine blk_put (cs := #[.int .i64 0]) ?_ 0 _ rfl; exact BKpe.out⟩
          have m_ : Aside0 ((W10.setCell ⟨pe, 0, none⟩ (.int .i64 150)).heap[px]? = some (.cells #[.slice none 0 0, .slice none 0 0] 25 (0, 0))) := ⟨(blk_far BKpx.out NBpx_pe _)⟩
          clear BKpx; have BKpx := m_; clear m_
          have b_ : Aside0 (Below w.heap.size w (W10.setCell ⟨pe, 0, none⟩ (.int .i64 150))) := ⟨(below_set HB.out GEpe.out)⟩
          clear BKpe HB; have BKpe := n_; have HB := b_; clear n_ b_
          clear hcpx_0 hfpx_0
          clear hcpx_1 hfpx_1
          clear hcpe_0 hfpe_0
          generalize (W10.setCell ⟨pe, 0, none⟩ (.int .i64 150)) = W11 at *
          have hcpx_0 : W11.cell? ⟨px, 0, none⟩ = some (.slice none 0 0) := (blk_cell BKpx.out 0).trans rfl
          have hfpx_0 := blk_frozen BKpx.out 0
          have hcpx_1 : W11.cell? ⟨px, 1, none⟩ = some (.slice none 0 0) := (blk_cell BKpx.out 1).trans rfl
          have hfpx_1 := blk_frozen BKpx.out 1
          have hcpe_0 : W11.cell? ⟨pe, 0, none⟩ = some (.int .i64 150) := (blk_cell BKpe.out 0).trans rfl
          have hfpe_0 := blk_frozen BKpe.out 0
          refine leaves_cons (f := 41) (args := #[.pointer (some ⟨px, 0, none⟩), .pointer (some ⟨pe, 0, none⟩)]) (by simp) (by simp [go_sem]) ?_
          refine (catch_idle px pe _).mono ?_
          rintro e_ u_ w_ ⟨rfl, rfl, rfl⟩
          refine dec_leave (dec_results _ px pe _ _ _ _ rfl rfl BKpx.out BKpe.out) ?_
          exact ⟨.slice none 0 0, .slice none 0 0, by rw [HR2.out] <;> rfl, by rw [HR2.out]; exact Kd.R_nil _ _ _ _ _, by rw [HR2.out]; exact Kd.S_nil _ _ _ _ _, HB.out⟩
      · have b5 : (i2 != (rest.length : Int)) = true := bne_iff_ne.mpr hj
        have HJ := Aside0.mk hj; clear hj hnr
        have HR3 : Aside0 (R = badI) := ⟨HR2.out.trans (if_neg (fun h => HJ.out h.1))⟩
        clear HR2; have HR2 := HR3; clear HR3
        go_wp2
        have q_ : Aside0 (Kd.R (Kd.int .u8) 5 (W7.setCell ⟨px, 1, none⟩ (.slice A1_ x1.length c1_)) _ (fun k_ => k_ ≠ B) (.slice Ar rest.length cr) rest) := ⟨(Kd.R_set HOB.out BKpx.out (by decide) 1 _)⟩; clear HOB; have HOB := q_; clear q_
        have q_ : Aside0 (Kd.R k48 48 (W7.setCell ⟨px, 1, none⟩ (.slice A1_ x1.length c1_)) w.heap.size (fun k_ => k_ ≠ B) (.slice A0_ x0.length c0_) x0) := ⟨(Kd.R_set HV0.out BKpx.out (by decide) 1 _)⟩; clear HV0; have HV0 := q_; clear q_
        have q_ : Aside0 (Kd.S k54 54 (W7.setCell ⟨px, 1, none⟩ (.slice A1_ x1.length c1_)) w.heap.size (fun k_ => k_ ≠ B) (.slice A1_ x1.length c1_) x1) := ⟨(Kd.S_set HV1.out BKpx.out (by decide) 1 _)⟩; clear HV1; have HV1 := q_; clear q_
        have n_ : Aside0 ((W7.setCell ⟨px, 1, none⟩ (.slice A1_ x1.length c1_)).heap[px]? = some (.cells #[.slice A0_ x0.length c0_, .slice A1_ x1.length c1_] 25 (0, 0))) := ⟨by refine blk_put (cs := #[.slice A0_ x0.length c0_, .slice none 0 0]) ?_ 1 _ rfl; exact BKpx.out⟩
        have m_ : Aside0 ((W7.setCell ⟨px, 1, none⟩ (.slice A1_ x1.length c1_)).heap[pe]? = some (.cells #[.int .i64 0] 28 (0, 0))) := ⟨(blk_far BKpe.out NBpe_px _)⟩
        clear BKpe; have BKpe := m_; clear m_
        have m_ : Aside0 ((W7.setCell ⟨px, 1, none⟩ (.slice A1_ x1.length c1_)).heap[B]? = some (.cells #[.slice Ar rest.length cr, .int .i64 i2] 78 (0, 0))) := ⟨(blk_far BKB.out NBB_px _)⟩
        clear BKB; have BKB := m_; clear m_
        have b_ : Aside0 (Below w.heap.size w (W7.setCell ⟨px, 1, none⟩ (.slice A1_ x1.length c1_))) := ⟨(below_set HB.out GEpx.out)⟩
        clear BKpx HB; have BKpx := n_; have HB := b_; clear n_ b_
        clear hcpx_0 hfpx_0
        clear hcpx_1 hfpx_1
        clear hcpe_0 hfpe_0
        clear hcB_0 hfB_0
        clear hcB_1 hfB_1
        generalize (W7.setCell ⟨px, 1, none⟩ (.slice A1_ x1.length c1_)) = W8 at *
        have hcpx_0 : W8.cell? ⟨px, 0, none⟩ = some (.slice A0_ x0.length c0_) := (blk_cell BKpx.out 0).trans rfl
        have hfpx_0 := blk_frozen BKpx.out 0
        have hcpx_1 : W8.cell? ⟨px, 1, none⟩ = some (.slice A1_ x1.length c1_) := (blk_cell BKpx.out 1).trans rfl
        have hfpx_1 := blk_frozen BKpx.out 1
        have hcpe_0 : W8.cell? ⟨pe, 0, none⟩ = some (.int .i64 0) := (blk_cell BKpe.out 0).trans rfl
        have hfpe_0 := blk_frozen BKpe.out 0
        have hcB_0 : W8.cell? ⟨B, 0, none⟩ = some (.slice Ar rest.length cr) := (blk_cell BKB.out 0).trans rfl
        have hfB_0 := blk_frozen BKB.out 0
        have hcB_1 : W8.cell? ⟨B, 1, none⟩ = some (.int .i64 i2) := (blk_cell BKB.out 1).trans rfl
        have hfB_1 := blk_frozen BKB.out 1
        have n_ : Aside0 (((W8.setCell ⟨px, 0, none⟩ (.slice none 0 0)).setCell ⟨px, 1, none⟩ (.slice none 0 0)).heap[px]? = some (.cells #[.slice none 0 0, .slice none 0 0] 25 (0, 0))) := ⟨by refine blk_put (cs := #[.slice none 0 0, .slice A1_ x1.length c1_]) ?_ 1 _ rfl; refine blk_put (cs := #[.slice A0_ x0.length c0_, .slice A1_ x1.length c1_]) ?_ 0 _ rfl; exact BKpx.out⟩
        have m_ : Aside0 (((W8.setCell ⟨px, 0, none⟩ (.slice none 0 0)).setCell ⟨px, 1, none⟩ (.slice none 0 0)).heap[pe]? = some (.cells #[.int .i64 0] 28 (0, 0))) := ⟨(blk_far (blk_far BKpe.out NBpe_px _) NBpe_px _)⟩
        clear BKpe; have BKpe := m_; clear m_
        have m_ : Aside0 (((W8.setCell ⟨px, 0, none⟩ (.slice none 0 0)).setCell ⟨px, 1, none⟩ (.slice none 0 0)).heap[B]? = some (.cells #[.slice Ar rest.length cr, .int .i64 i2] 78 (0, 0))) := ⟨(blk_far (blk_far BKB.out NBB_px _) NBB_px _)⟩
        clear BKB; have BKB := m_; clear m_
        have b_ : Aside0 (Below w.heap.size w ((W8.setCell ⟨px, 0, none⟩ (.slice none 0 0)).setCell ⟨px, 1, none⟩ (.slice none 0 0))) := ⟨(below_set (below_set HB.out GEpx.out) GEpx.out)⟩
        clear BKpx HB; have BKpx := n_; have HB := b_; clear n_ b_
        clear hcpx_0 hfpx_0
        clear hcpx_1 hfpx_1
        clear hcpe_0 hfpe_0
        clear hcB_0 hfB_0
        clear hcB_1 hfB_1
        generalize ((W8.setCell ⟨px, 0, none⟩ (.slice none 0 0)).setCell ⟨px, 1, none⟩ (.slice none 0 0)) = W9 at *
        have hcpx_0 : W9.cell? ⟨px, 0, none⟩ = some (.slice none 0 0) := (blk_cell BKpx.out 0).trans rfl
        have hfpx_0 := blk_frozen BKpx.out 0
        have hcpx_1 : W9.cell? ⟨px, 1, none⟩ = some (.slice none 0 0) := (blk_cell BKpx.out 1).trans rfl
        have hfpx_1 := blk_frozen BKpx.out 1
        have hcpe_0 : W9.cell? ⟨pe, 0, none⟩ = some (.int .i64 0) := (blk_cell BKpe.out 0).trans rfl
        have hfpe_0 := blk_frozen BKpe.out 0
        have hcB_0 : W9.cell? ⟨B, 0, none⟩ = some (.slice Ar rest.length cr) := (blk_cell BKB.out 0).trans rfl
        have hfB_0 := blk_frozen BKB.out 0
        have hcB_1 : W9.cell? ⟨B, 1, none⟩ = some (.int .i64 i2) := (blk_cell BKB.out 1).trans rfl
        have hfB_1 := blk_frozen BKB.out 1
        have n_ : Aside0 ((W9.setCell ⟨pe, 0, none⟩ (.int .i64 150)).heap[pe]? = some (.cells #[.int .i64 150] 28 (0, 0))) := ⟨by refine blk_put (cs := #[.int .i64 0]) ?_ 0 _ rfl; exact BKpe.out⟩
        have m_ : Aside0 ((W9.setCell ⟨pe, 0, none⟩ (.int .i64 150)).heap[px]? = some (.cells #[.slice none 0 0, .slice none 0 0] 25 (0, 0))) := ⟨(blk_far BKpx.out NBpx_pe _)⟩
        clear BKpx; have BKpx := m_; clear m_
        have m_ : Aside0 ((W9.setCell ⟨pe, 0, none⟩ (.int .i64 150)).heap[B]? = some (.cells #[.slice Ar rest.length cr, .int .i64 i2] 78 (0, 0))) := ⟨(blk_far BKB.out NBB_pe _)⟩
        clear BKB; have BKB := m_; clear m_
        have b_ : Aside0 (Below w.heap.size w (W9.setCell ⟨pe, 0, none⟩ (.int .i64 150))) := ⟨(below_set HB.out GEpe.out)⟩
        clear BKpe HB; have BKpe := n_; have HB := b_; clear n_ b_
        clear hcpx_0 hfpx_0
        clear hcpx_1 hfpx_1
        clear hcpe_0 hfpe_0
        clear hcB_0 hfB_0
        clear hcB_1 hfB_1
        generalize (W9.setCell ⟨pe, 0, none⟩ (.int .i64 150)) = W10 at *
        have hcpx_0 : W10.cell? ⟨px, 0, none⟩ = some (.slice none 0 0) := (blk_cell BKpx.out 0).trans rfl
        have hfpx_0 := blk_frozen BKpx.out 0
        have hcpx_1 : W10.cell? ⟨px, 1, none⟩ = some (.slice none 0 0) := (blk_cell BKpx.out 1).trans rfl
        have hfpx_1 := blk_frozen BKpx.out 1
        have hcpe_0 : W10.cell? ⟨pe, 0, none⟩ = some (.int .i64 150) := (blk_cell BKpe.out 0).trans rfl
        have hfpe_0 := blk_frozen BKpe.out 0
        have hcB_0 : W10.cell? ⟨B, 0, none⟩ = some (.slice Ar rest.length cr) := (blk_cell BKB.out 0).trans rfl
        have hfB_0 := blk_frozen BKB.out 0
        have hcB_1 : W10.cell? ⟨B, 1, none⟩ = some (.int .i64 i2) := (blk_cell BKB.out 1).trans rfl
        have hfB_1 := blk_frozen BKB.out 1
        refine leaves_cons (f := 41) (args := #[.pointer (some ⟨px, 0, none⟩), .pointer (some ⟨pe, 0, none⟩)]) (by simp) (by simp [go_sem]) ?_
        refine (catch_idle px pe _).mono ?_
        rintro e_ u_ w_ ⟨rfl, rfl, rfl⟩
        refine dec_leave (dec_results _ px pe _ _ _ _ rfl rfl BKpx.out BKpe.out) ?_
        exact ⟨.slice none 0 0, .slice none 0 0, by rw [HR2.out] <;> rfl, by rw [HR2.out]; exact Kd.R_nil _ _ _ _ _, by rw [HR2.out]; exact Kd.S_nil _ _ _ _ _, HB.out⟩
    · have b4 : (s4.toList == [84, 73, 76, 84]) = false := beq_eq_false_iff_ne.mpr hm
      have HTK := Aside0.mk (fun h => hm (hiff.2 h)); clear hm hiff
      have HR3 : Aside0 (R = badI) := ⟨HR2.out.trans (if_pos (.inr (.inr HTK.out)))⟩
      clear HR2; have HR2 := HR3; clear HR3
      go_wp2
      have n_ : Aside0 (((W3.setCell ⟨px, 0, none⟩ (.slice none 0 0)).setCell ⟨px, 1, none⟩ (.slice none 0 0)).heap[px]? = some (.cells #[.slice none 0 0, .slice none 0 0] 25 (0, 0))) := ⟨by refine blk_put (cs := #[.slice none 0 0, .slice none 0 0]) ?_ 1 _ rfl; refine blk_put (cs := #[.slice none 0 0, .slice none 0 0]) ?_ 0 _ rfl; exact BKpx.out⟩
      have m_ : Aside0 (((W3.setCell ⟨px, 0, none⟩ (.slice none 0 0)).setCell ⟨px, 1, none⟩ (.slice none 0 0)).heap[pe]? = some (.cells #[.int .i64 0] 28 (0, 0))) := ⟨(blk_far (blk_far BKpe.out NBpe_px _) NBpe_px _)⟩
      clear BKpe; have BKpe := m_; clear m_
      have b_ : Aside0 (Below w.heap.size w ((W3.setCell ⟨px, 0, none⟩ (.slice none 0 0)).setCell ⟨px, 1, none⟩ (.slice none 0 0))) := ⟨(below_set (below_set HB.out GEpx.out) GEpx.out)⟩
      clear BKpx HB; have BKpx := n_; have HB := b_; clear n_ b_
      clear hcpx_0 hfpx_0
      clear hcpx_1 hfpx_1
      clear hcpe_0 hfpe_0
      generalize ((W3.setCell ⟨px, 0, none⟩ (.slice none 0 0)).setCell ⟨px, 1, none⟩ (.slice none 0 0)) = W4 at *
      have hcpx_0 : W4.cell? ⟨px, 0, none⟩ = some (.slice none 0 0) := (blk_cell BKpx.out 0).trans rfl
      have hfpx_0 := blk_frozen BKpx.out 0
      have hcpx_1 : W4.cell? ⟨px, 1, none⟩ = some (.slice none 0 0) := (blk_cell BKpx.out 1).trans rfl
      have hfpx_1 := blk_frozen BKpx.out 1
      have hcpe_0 : W4.cell? ⟨pe, 0, none⟩ = some (.int .i64 0) := (blk_cell BKpe.out 0).trans rfl
      have hfpe_0 := blk_frozen BKpe.out 0
      have n_ : Aside0 ((W4.setCell ⟨pe, 0, none⟩ (.int .i64 150)).heap[pe]? = some (.cells #[.int .i64 150] 28 (0, 0))) := ⟨by refine blk_put (cs := #[.int .i64 0]) ?_ 0 _ rfl; exact BKpe.out⟩
      have m_ : Aside0 ((W4.setCell ⟨pe, 0, none⟩ (.int .i64 150)).heap[px]? = some (.cells #[.slice none 0 0, .slice none 0 0] 25 (0, 0))) := ⟨(blk_far BKpx.out NBpx_pe _)⟩
      clear BKpx; have BKpx := m_; clear m_
      have b_ : Aside0 (Below w.heap.size w (W4.setCell ⟨pe, 0, none⟩ (.int .i64 150))) := ⟨(below_set HB.out GEpe.out)⟩
      clear BKpe HB; have BKpe := n_; have HB := b_; clear n_ b_
      clear hcpx_0 hfpx_0
      clear hcpx_1 hfpx_1
      clear hcpe_0 hfpe_0
      generalize (W4.setCell ⟨pe, 0, none⟩ (.int .i64 150)) = W5 at *
      have hcpx_0 : W5.cell? ⟨px, 0, none⟩ = some (.slice none 0 0) := (blk_cell BKpx.out 0).trans rfl
      have hfpx_0 := blk_frozen BKpx.out 0
      have hcpx_1 : W5.cell? ⟨px, 1, none⟩ = some (.slice none 0 0) := (blk_cell BKpx.out 1).trans rfl
      have hfpx_1 := blk_frozen BKpx.out 1
      have hcpe_0 : W5.cell? ⟨pe, 0, none⟩ = some (.int .i64 150) := (blk_cell BKpe.out 0).trans rfl
      have hfpe_0 := blk_frozen BKpe.out 0
      refine dec_post rfl (dec_results _ px pe _ _ _ _ rfl rfl BKpx.out BKpe.out) ?_
      exact ⟨.slice none 0 0, .slice none 0 0, by rw [HR2.out] <;> rfl, by rw [HR2.out]; exact Kd.R_nil _ _ _ _ _, by rw [HR2.out]; exact Kd.S_nil _ _ _ _ _, HB.out⟩
end Go.Proofs.YteidgpaakoeefaaDoor
namespace Go.Proofs.YteidgpaakoeefaaDoor
open Go.RowKit Go.Proofs.YteidgpaakoeefaaDoorW.PrintWords Go.Proofs.YteidgpaakoeefaaDoorW.PrintLast Go.Proofs.YteidgpaakoeefaaDoorW.PrintMore
set_option linter.unusedVariables false
open PIm
def PIm.image_Decode.f (l0 : List Int) : Option (List S48 × List S54 × Int) := if l0.length ≤ 140737488355318 ∧ ∀ x ∈ l0, 0 ≤ x ∧ x < 256 then some (decF l0) else none
theorem PIm.image_Decode.calls (A0 : Option Addr) (c0 : Nat) (l0 : List Int) (r1 : List S48) (r2 : List S54) (r3 : Int) (w : World) (hr0 : Kd.C (Kd.int .u8) w A0 l0.length l0) (hc0 : l0.length ≤ c0) (h : PIm.image_Decode.f l0 = some (r1, r2, r3)) (hW : Tab w) :
    Calls Tryd.prog 17 #[.slice A0 l0.length c0] w fun e w' => ∃ v0_ v1_ : Value, e = .returned (.tuple #[.agg #[v0_, v1_], .int .i64 r3]) ∧ Kd.R k48 48 w' w.heap.size (fun _ => True) v0_ r1 ∧ Kd.S k54 54 w' w.heap.size (fun _ => True) v1_ r2 ∧ Below w.heap.size w w' := by
  unfold PIm.image_Decode.f at h
  split at h
  · next hc =>
    have e := Option.some.inj h
    have := Decode_calls A0 c0 l0 w hr0 hc0 hc.1 hc.2 hW
    rw [e] at this
    exact this
  · cases h
end Go.Proofs.YteidgpaakoeefaaDoor
namespace Go.Proofs.YteidgpaakoeefaaDoor.PIm
open Go.RowKit Go.Proofs.YteidgpaakoeefaaDoorW.PrintWords Go.Proofs.YteidgpaakoeefaaDoorW.PrintLast Go.Proofs.YteidgpaakoeefaaDoorW.PrintMore
attribute [local go_sem] max2_int min2_int max_two min_two max_three min_three max_four min_four   -- for this text's walks alone
set_option linter.unusedVariables false
set_option linter.unusedSimpArgs false
def tiltyardref14_row.l0 : Nat → List Int → List Int → Int → Option (Bool)
  | 0, _, _, _ => none
  | k + 1, x0, x1, x5 => if x5 < (x0.length : Int) then (if 0 ≤ x5 then (if x5 < (x1.length : Int) then (if (rd x0 x5) = (rd x1 x5) then (tiltyardref14_row.l0 k x0 x1 (wrap64 (x5 + 1))) else (some false)) else (none)) else (none)) else (some true)
def tiltyardref14_row.f (k : Nat) (l0 : List Int) (l1 : List Int) : Option (Bool) := if (l0.length : Int) = (l1.length : Int) then (tiltyardref14_row.l0 k l0 l1 0) else (some false)
set_option maxHeartbeats 8000000 in
set_option maxRecDepth 100000 in
theorem tiltyardref14_row.calls (k : Nat) (A0 : Option Addr) (c0 : Nat) (l0 : List Int) (A1 : Option Addr) (c1 : Nat) (l1 : List Int) (r : Bool) (w : World) (hr0 : Kd.C (Kd.int .i64) w A0 l0.length l0) (hc0 : l0.length ≤ c0) (hr1 : Kd.C (Kd.int .i64) w A1 l1.length l1) (hc1 : l1.length ≤ c1) (h : tiltyardref14_row.f k l0 l1 = some r) :
    Calls Tryd.prog 33 #[.slice A0 l0.length c0, .slice A1 l1.length c1] w fun e w' => e = .returned (.bool r) ∧ Drawn0 w w' := by
  have HR0 := Aside0.mk hr0
  have HC0 := Aside0.mk hc0
  clear hr0 hc0
  have HR1 := Aside0.mk hr1
  have HC1 := Aside0.mk hc1
  clear hr1 hc1
  have H : (if (l0.length : Int) = (l1.length : Int) then (tiltyardref14_row.l0 k l0 l1 0) else (some false)) = some r := h
  clear h
  by_cases c3 : (l0.length : Int) = (l1.length : Int)
  · rw [if_pos c3] at H
    have c3b0 : ((l0.length : Int) == (l1.length : Int)) = true := beq_iff_eq.mpr c3
    have c3b1 : ((l0.length : Int) != (l1.length : Int)) = false := bne_eq_false_iff_eq.mpr c3
    have c3b2 : (l0.length == l1.length) = true := by first | simpa using c3 | (simp at c3 ⊢; omega)
    clear c3
    have H' := Aside0.mk H
    clear H
    go_enter Tryd.func33, Tryd.ntmps33
    go_wp2
    repeat (go_quiet (fail); try go_wp2)
    go_loopg [5] k (fun kq v5 w' => ∃ (x5_1 : Int), v5 = .int .i64 x5_1 ∧ Aside0 (tiltyardref14_row.l0 kq l0 l1 x5_1 = some r) ∧ Aside0 (kq ≤ k) ∧ Drawn0 w w')
    case atStart => exact ⟨(0), (by first | rfl | (simp; done) | (simp [*]; done)), H', ⟨Nat.le_refl _⟩, by repeat (first | exact Drawn0.refl _ | apply Drawn0.step)⟩
    case round =>
      clear H'
      try clear c1
      try clear p2
      try clear c3
      try clear c3b0
      try clear c3b1
      try clear c3b2
      obtain ⟨x5_1, rfl, HA, HK1, ⟨m1, rfl⟩⟩ := hrel
      cases gk with
      | zero => exact absurd HA.out (by simp [tiltyardref14_row.l0])
      | succ k1 =>
        have H := HA.out
        clear HA
        simp only [tiltyardref14_row.l0] at H
        by_cases c4 : x5_1 < (l0.length : Int)
        · rw [if_pos c4] at H
          have c4b0 : decide (x5_1 < (l0.length : Int)) = true := decide_eq_true c4
          clear c4
          by_cases c5 : 0 ≤ x5_1
          · rw [if_pos c5] at H
            have c5b0 : decide (0 ≤ x5_1) = true := decide_eq_true c5
            clear c5
            by_cases c6 : x5_1 < (l1.length : Int)
            · rw [if_pos c6] at H
              have c6b0 : decide (x5_1 < (l1.length : Int)) = true := decide_eq_true c6
              clear c6
              by_cases c7 : (rd l0 x5_1) = (rd l1 x5_1)
              · rw [if_pos c7] at H
                have c7b0 : ((rd l0 x5_1) == (rd l1 x5_1)) = true := beq_iff_eq.mpr c7
                have c7b1 : ((rd l0 x5_1) != (rd l1 x5_1)) = false := bne_eq_false_iff_eq.mpr c7
                clear c7
                have H' := Aside0.mk H
                clear H
                have p183 : 0 ≤ (x5_1 : Int) := of_decide_eq_true (by first | (with_reducible assumption) | assumption)
                have q183 : x5_1 < (l0.length : Int) := of_decide_eq_true (by first | (with_reducible assumption) | assumption)
                obtain ⟨ad183, e183, hx183_0⟩ := Kd.at_int HR0.out x5_1 p183 q183
                cases e183
                replace p183 := eq_true p183
                replace q183 := eq_true q183
                have p184 : 0 ≤ (x5_1 : Int) := of_decide_eq_true (by first | (with_reducible assumption) | assumption)
                have q184 : x5_1 < (l1.length : Int) := of_decide_eq_true (by first | (with_reducible assumption) | assumption)
                obtain ⟨ad184, e184, hx184_0⟩ := Kd.at_int HR1.out x5_1 p184 q184
                cases e184
                replace p184 := eq_true p184
                replace q184 := eq_true q184
                go_wp2
                repeat (go_quiet (fail); try go_wp2)
                go_roundg k1
                case measure => have := HK1.out; omega
                case rel => exact ⟨(wrap64 (x5_1 + 1)), (by first | rfl | (simp; done) | (simp [*]; done)), H', ⟨by have := HK1.out; omega⟩, by repeat (first | exact Drawn0.refl _ | apply Drawn0.step)⟩
              · rw [if_neg c7] at H
                have c7b0 : ((rd l0 x5_1) == (rd l1 x5_1)) = false := beq_eq_false_iff_ne.mpr c7
                have c7b1 : ((rd l0 x5_1) != (rd l1 x5_1)) = true := bne_iff_ne.mpr c7
                obtain rfl := Option.some.inj H
                have p183 : 0 ≤ (x5_1 : Int) := of_decide_eq_true (by first | (with_reducible assumption) | assumption)
                have q183 : x5_1 < (l0.length : Int) := of_decide_eq_true (by first | (with_reducible assumption) | assumption)
                obtain ⟨ad183, e183, hx183_0⟩ := Kd.at_int HR0.out x5_1 p183 q183
                cases e183
                replace p183 := eq_true p183
                replace q183 := eq_true q183
                have p184 : 0 ≤ (x5_1 : Int) := of_decide_eq_true (by first | (with_reducible assumption) | assumption)
                have q184 : x5_1 < (l1.length : Int) := of_decide_eq_true (by first | (with_reducible assumption) | assumption)
                obtain ⟨ad184, e184, hx184_0⟩ := Kd.at_int HR1.out x5_1 p184 q184
                cases e184
                replace p184 := eq_true p184
                replace q184 := eq_true q184
                go_wp2
                repeat (go_quiet (fail); try go_wp2)
                go_ret
                exact ⟨by first | rfl | (simp; done) | (simp [*]; done), by repeat (first | exact Drawn0.refl _ | apply Drawn0.step)⟩
            · rw [if_neg c6] at H
              exact absurd H (by simp)
          · rw [if_neg c5] at H
            exact absurd H (by simp)
        · rw [if_neg c4] at H
          have c4b0 : decide (x5_1 < (l0.length : Int)) = false := decide_eq_false c4
          clear c4
          obtain rfl := Option.some.inj H
          go_wp2
          repeat (go_quiet (fail); try go_wp2)
          go_ret
          exact ⟨by first | rfl | (simp; done) | (simp [*]; done), by repeat (first | exact Drawn0.refl _ | apply Drawn0.step)⟩
  · rw [if_neg c3] at H
    have c3b0 : ((l0.length : Int) == (l1.length : Int)) = false := beq_eq_false_iff_ne.mpr c3
    have c3b1 : ((l0.length : Int) != (l1.length : Int)) = true := bne_iff_ne.mpr c3
    have c3b2 : (l0.length == l1.length) = false := by first | simpa using c3 | (simp at c3 ⊢; omega)
    obtain rfl := Option.some.inj H
    go_enter Tryd.func33, Tryd.ntmps33
    go_wp2
    repeat (go_quiet (fail); try go_wp2)
    go_ret
    exact ⟨by first | rfl | (simp; done) | (simp [*]; done), by repeat (first | exact Drawn0.refl _ | apply Drawn0.step)⟩
end Go.Proofs.YteidgpaakoeefaaDoor.PIm
namespace Go.Proofs.YteidgpaakoeefaaDoor
open Go.RowKit Go.Proofs.YteidgpaakoeefaaDoorW.PrintWords Go.Proofs.YteidgpaakoeefaaDoorW.PrintLast Go.Proofs.YteidgpaakoeefaaDoorW.PrintMore
set_option linter.unusedVariables false
set_option linter.unusedSimpArgs false
open PIm
theorem venc_length (z : Nat) : (venc z).length = vl z := rfl
def Bytes (l : List Int) : Prop := ∀ x ∈ l, 0 ≤ x ∧ x < 256
structure Codec {α : Type} (put : α → List Int) (one : List Int → Int → Option (α × Int)) (ok : α → Prop) : Prop where
  there : ∀ (p q : List Int) (x : α), ok x → one (p ++ put x ++ q) p.length = some (x, (p.length : Int) + (put x).length)
  back : ∀ (l : List Int) (i : Int) (x : α) (j : Int), Bytes l → one l i = some (x, j) → 0 ≤ i ∧ i ≤ j ∧ j ≤ l.length ∧ (l.take j.toNat).drop i.toNat = put x ∧ ok x
theorem cut_join (l : List Int) {i j k : Int} (h0 : 0 ≤ i) (h1 : i ≤ j) (h2 : j ≤ k) (h3 : k ≤ l.length) : (l.take k.toNat).drop i.toNat = (l.take j.toNat).drop i.toNat ++ (l.take k.toNat).drop j.toNat := by
  obtain ⟨i, rfl⟩ : ∃ n : Nat, i = n := ⟨i.toNat, by omega⟩
  obtain ⟨j, rfl⟩ : ∃ n : Nat, j = n := ⟨j.toNat, by omega⟩
  obtain ⟨k, rfl⟩ : ∃ n : Nat, k = n := ⟨k.toNat, by omega⟩
  simp only [Int.toNat_natCast]
  have e : l.take k = l.take j ++ (l.take k).drop j := by
    conv => lhs; rw [← List.take_append_drop j (l.take k)]
    rw [List.take_take, Nat.min_eq_left (by omega)]
  conv => lhs; rw [e]
  rw [List.drop_append_of_le_length (by rw [List.length_take]; omega)]
theorem cut_self (l : List Int) (i : Int) : (l.take i.toNat).drop i.toNat = [] := by
  rw [List.drop_eq_nil_iff, List.length_take]; omega
theorem Codec.seq {α β : Type} {p1 : α → List Int} {r1 : List Int → Int → Option (α × Int)} {o1 : α → Prop} {p2 : β → List Int} {r2 : List Int → Int → Option (β × Int)} {o2 : β → Prop} (h1 : Codec p1 r1 o1) (h2 : Codec p2 r2 o2) :
    Codec (fun t : α × β => p1 t.1 ++ p2 t.2) (fun l i => (r1 l i).bind fun a => (r2 l a.2).bind fun b => some ((a.1, b.1), b.2)) (fun t => o1 t.1 ∧ o2 t.2) where
  there p q x hx := by
    have e1 : r1 (p ++ (p1 x.1 ++ p2 x.2) ++ q) p.length = some (x.1, (p.length : Int) + (p1 x.1).length) := by
      have := h1.there p (p2 x.2 ++ q) x.1 hx.1
      simpa [List.append_assoc] using this
    have e2 : r2 (p ++ (p1 x.1 ++ p2 x.2) ++ q) ((p.length : Int) + (p1 x.1).length) = some (x.2, (p.length : Int) + (p1 x.1).length + (p2 x.2).length) := by
      have := h2.there (p ++ p1 x.1) q x.2 hx.2
      rw [List.length_append] at this
      simpa [List.append_assoc] using this
    simp only [e1, e2, Option.bind_some]
    exact congrArg some (Prod.ext rfl (by simp only [List.length_append]; push_cast; omega))
  back l i x j hb h := by
    rcases e1 : r1 l i with _ | ⟨a, i1⟩
    · rw [e1] at h; cases h
    rw [e1, Option.bind_some] at h
    rcases e2 : r2 l i1 with _ | ⟨b, i2⟩
    · rw [e2] at h; cases h
    rw [e2, Option.bind_some] at h
    injection h with h; injection h with h h'
    subst h; subst h'
    obtain ⟨a1, a2, a3, a4, a5⟩ := h1.back l i a i1 hb e1
    obtain ⟨b1, b2, b3, b4, b5⟩ := h2.back l i1 b i2 hb e2
    exact ⟨a1, Int.le_trans a2 b2, b3, by rw [cut_join l a1 a2 b2 b3, a4, b4], a5, b5⟩
theorem Codec.congr {α : Type} {p p' : α → List Int} {r r' : List Int → Int → Option (α × Int)} {o o' : α → Prop} (h : Codec p r o) (hp : ∀ x, p' x = p x) (hr : ∀ l i, r' l i = r l i) (ho : ∀ x, o' x ↔ o x) : Codec p' r' o' := by
  obtain rfl : p' = p := funext hp
  obtain rfl : r' = r := funext fun l => funext fun i => hr l i
  obtain rfl : o' = o := funext fun x => propext (ho x)
  exact h
theorem Codec.iso {α β : Type} {p : β → List Int} {r : List Int → Int → Option (β × Int)} {o : β → Prop} (h : Codec p r o) (f : β → α) (g : α → β) (hgf : ∀ t, o t → g (f t) = t) :
    Codec (fun x => p (g x)) (fun l i => (r l i).map fun b => (f b.1, b.2)) (fun x => o (g x) ∧ f (g x) = x) where
  there a b x hx := by
    simp only [h.there a b (g x) hx.1, Option.map_some, hx.2]
  back l i x j hb e := by
    rcases e1 : r l i with _ | ⟨a, i1⟩
    · rw [e1] at e; cases e
    rw [e1, Option.map_some] at e
    injection e with e; injection e with e e'
    subst e; subst e'
    obtain ⟨a1, a2, a3, a4, a5⟩ := h.back l i a i1 hb e1
    have := hgf a a5
    exact ⟨a1, a2, a3, by simp only [this]; exact a4, by simp only [this]; exact ⟨a5, trivial⟩⟩
def okN (x : Int) : Prop := 0 ≤ x ∧ x ≤ 9223372036854775807
theorem natB_eq {n : Int} (h : 0 ≤ n) : natB n = venc n.toNat := by unfold natB numF; rw [if_neg (by omega)]; simp
theorem codecN : Codec natB rdN okN where
  there p q x hx := by
    unfold rdN
    rw [natB_eq hx.1, tk_venc p q x.toNat 9 (by decide) (by have := vl9 (z := x.toNat) (by have := hx.2; omega); omega) (by have := hx.2; omega), if_pos rfl, venc_length]
    simp only [Int.toNat_of_nonneg hx.1]
  back l i x j hb h := by
    have hr := tk_range l i 9 (by decide) (by decide) hb
    rw [show ((128 ^ (9 : Int).toNat : Nat) : Int) = 9223372036854775808 by decide] at hr
    unfold rdN at h
    split at h
    · next e =>
      injection h with h; injection h with h h'
      subst h; subst h'
      obtain ⟨b1, b2, b3, b4⟩ := tk_back l i 9 hb e
      exact ⟨b1, b2, b3, by rw [natB_eq hr.1]; exact b4, hr.1, by have := hr.2.1; omega⟩
    · cases h
theorem codecW : Codec wholeB rdW rng where
  there p q x hx := by
    unfold rdW wholeB
    have hz : 0 ≤ zz x ∧ zz x < 18446744073709551616 := by unfold zz; have := hx.1; have := hx.2; split <;> omega
    rw [tk_venc p q (zz x).toNat 10 (by decide) (by have := vl10 (z := (zz x).toNat) (by omega); omega) (by omega), if_pos rfl, venc_length]
    simp only [Int.toNat_of_nonneg hz.1, uz_zz]
  back l i x j hb h := by
    have hr := tk_range l i 10 (by decide) (by decide) hb
    unfold rdW at h
    split at h
    · next e =>
      injection h with h; injection h with h h'
      subst h; subst h'
      obtain ⟨b1, b2, b3, b4⟩ := tk_back l i 10 hb e
      refine ⟨b1, b2, b3, ?_, ?_⟩
      · unfold wholeB
        rw [zz_uz _ hr.1]; exact b4
      · have h1 := hr.1; have h2 := hr.2.2.1
        generalize (tk l i 10).1 = z at h1 h2
        unfold uz
        exact ⟨by split <;> omega, by split <;> omega⟩
    · cases h
theorem codecT : Codec textB rdT (fun s => s.size ≤ 65536) where
  there p q x hx := by
    unfold rdT
    have := rt_back p q x (by omega)
    rw [show p ++ textB x ++ q = p ++ venc x.size ++ bytesOf x ++ q by unfold textB; simp [List.append_assoc], this, if_pos rfl]
    unfold textB
    exact congrArg some (Prod.ext rfl (by simp only [List.length_append, venc_length, bytesOf_length]; push_cast; omega))
  back l i x j hb h := by
    have hr := tk_range l i 9 (by decide) (by decide) hb
    unfold rdT rtF at h
    by_cases h1 : (tk l i 9).2.2 ≠ 0
    · rw [if_pos h1, if_neg h1] at h; cases h
    rw [if_neg h1] at h
    by_cases h2 : 65536 < (tk l i 9).1
    · rw [if_pos h2, if_neg (by decide)] at h; cases h
    rw [if_neg h2] at h
    by_cases h3 : (l.length : Int) - (tk l i 9).2.1 < (tk l i 9).1
    · rw [if_pos h3, if_neg (by decide)] at h; cases h
    rw [if_neg h3, if_pos rfl] at h
    injection h with h; injection h with h h'
    obtain ⟨b1, b2, b3, b4⟩ := tk_back l i 9 hb (Decidable.not_not.1 h1)
    generalize tk l i 9 = t at h h' hr b1 b2 b3 b4 h2 h3
    obtain ⟨z, p, e⟩ := t
    simp only [] at h h' hr b1 b2 b3 b4 h2 h3
    subst h; subst h'
    have hlen : ((l.take (p + z).toNat).drop p.toNat).length = z.toNat := by
      rw [List.length_drop, List.length_take]; omega
    refine ⟨b1, by omega, by omega, ?_, by rw [strOfNums_size, hlen]; omega⟩
    rw [cut_join l b1 b2 (show p ≤ p + z by omega) (by omega), b4]
    unfold textB
    rw [strOfNums_size, hlen, bytesOf_str _ (fun x hx => hb x (List.mem_of_mem_take (List.mem_of_mem_drop hx)))]
theorem rdRow_there {α : Type} {put : α → List Int} {one : List Int → Int → Option (α × Int)} {ok : α → Prop} (h : Codec put one ok) (q : List Int) : ∀ (r : List α) (p : List Int), (∀ x ∈ r, ok x) →
    rdRow (one (p ++ r.flatMap put ++ q)) r.length p.length = some (r, (p.length : Int) + (r.flatMap put).length)
  | [], p, _ => by simp [rdRow]
  | x :: r, p, hr => by
    have e1 : one (p ++ (x :: r).flatMap put ++ q) p.length = some (x, (p.length : Int) + (put x).length) := by
      have := h.there p (r.flatMap put ++ q) x (hr x (by simp))
      simpa [List.flatMap_cons, List.append_assoc] using this
    have e2 := rdRow_there h q r (p ++ put x) (fun y hy => hr y (by simp [hy]))
    rw [show p ++ put x ++ r.flatMap put ++ q = p ++ (x :: r).flatMap put ++ q by simp [List.flatMap_cons, List.append_assoc], List.length_append] at e2
    rw [List.length_cons, rdRow, e1, Option.bind_some]
    rw [show ((p.length + (put x).length : Nat) : Int) = (p.length : Int) + (put x).length by push_cast; rfl] at e2
    simp only [e2, Option.bind_some]
    exact congrArg some (Prod.ext rfl (by simp only [List.flatMap_cons, List.length_append]; push_cast; omega))
theorem rdRow_back {α : Type} {put : α → List Int} {one : List Int → Int → Option (α × Int)} {ok : α → Prop} (h : Codec put one ok) (l : List Int) (hb : Bytes l) : ∀ (n : Nat) (i : Int) (r : List α) (j : Int), 0 ≤ i → i ≤ l.length → rdRow (one l) n i = some (r, j) →
    i ≤ j ∧ j ≤ l.length ∧ (l.take j.toNat).drop i.toNat = r.flatMap put ∧ (∀ x ∈ r, ok x) ∧ r.length = n
  | 0, i, r, j, h0, h1, e => by
    rw [rdRow] at e
    injection e with e; injection e with e e'
    subst e; subst e'
    exact ⟨Int.le_refl _, h1, by rw [cut_self]; rfl, (fun x hx => by cases hx), rfl⟩
  | n + 1, i, r, j, h0, h1, e => by
    rw [rdRow] at e
    rcases e1 : one l i with _ | ⟨a, i1⟩
    · rw [e1] at e; cases e
    rw [e1, Option.bind_some] at e
    rcases e2 : rdRow (one l) n i1 with _ | ⟨b, i2⟩
    · rw [e2] at e; cases e
    rw [e2, Option.bind_some] at e
    injection e with e; injection e with e e'
    subst e; subst e'
    obtain ⟨a1, a2, a3, a4, a5⟩ := h.back l i a i1 hb e1
    obtain ⟨b1, b2, b3, b4, b5⟩ := rdRow_back h l hb n i1 b i2 (by omega) a3 e2
    refine ⟨by omega, b2, ?_, ?_, by simp [b5]⟩
    · rw [cut_join l h0 a2 b1 b2, a4, b3]; rfl
    · intro x hx
      rcases List.mem_cons.1 hx with rfl | hx
      · exact a5
      · exact b4 x hx
theorem codecR {α : Type} {put : α → List Int} {one : List Int → Int → Option (α × Int)} {ok : α → Prop} (h : Codec put one ok) (most : Int) (hm : most ≤ 9223372036854775807) :
    Codec (fun r : List α => natB r.length ++ r.flatMap put) (fun l i => rdRows (one l) most l i) (fun r => (r.length : Int) ≤ most ∧ ∀ x ∈ r, ok x) where
  there p q r hr := by
    have e1 : rdN (p ++ (natB r.length ++ r.flatMap put) ++ q) p.length = some ((r.length : Int), (p.length : Int) + (natB r.length).length) := by
      have := codecN.there p (r.flatMap put ++ q) (r.length : Int) ⟨by omega, by have := hr.1; omega⟩
      simpa [List.append_assoc] using this
    have e2 := rdRow_there h q r (p ++ natB r.length) hr.2
    rw [show p ++ natB r.length ++ r.flatMap put ++ q = p ++ (natB r.length ++ r.flatMap put) ++ q by simp [List.append_assoc], List.length_append] at e2
    rw [show ((p.length + (natB r.length).length : Nat) : Int) = (p.length : Int) + (natB r.length).length by push_cast; rfl] at e2
    unfold rdRows
    rw [e1, Option.bind_some]
    simp only [Int.toNat_natCast]
    rw [if_neg (by have := hr.1; omega), e2]
    exact congrArg some (Prod.ext rfl (by simp only [List.length_append]; push_cast; omega))
  back l i r j hb e := by
    unfold rdRows at e
    rcases e1 : rdN l i with _ | ⟨a, i1⟩
    · rw [e1] at e; cases e
    rw [e1, Option.bind_some] at e
    simp only [] at e
    split at e
    · cases e
    · next hma =>
      obtain ⟨a1, a2, a3, a4, a5⟩ := codecN.back l i a i1 hb e1
      obtain ⟨b1, b2, b3, b4, b5⟩ := rdRow_back h l hb a.toNat i1 r j (by omega) a3 e
      have hn : (r.length : Int) = a := by have := a5.1; omega
      exact ⟨a1, by omega, b2, by rw [cut_join l a1 a2 b1 b2, a4, b3, hn], by omega, b4⟩
theorem codecG : Codec putG rdG (fun x => okN x.f0 ∧ okN x.f1 ∧ rng x.f2) := by
  have h := (codecN.seq (codecN.seq codecW)).iso (fun t => (⟨t.1, t.2.1, t.2.2⟩ : S48)) (fun x => (x.f0, x.f1, x.f2)) (fun _ _ => rfl)
  refine h.congr (fun x => rfl) (fun l i => ?_) (fun x => ⟨fun hx => ⟨hx, rfl⟩, fun hx => hx.1⟩)
  unfold rdG
  cases rdN l i with
  | none => rfl
  | some a =>
    simp only [Option.bind_some]
    cases rdN l a.2 with
    | none => rfl
    | some b =>
      simp only [Option.bind_some]
      cases rdW l b.2 <;> rfl
theorem codecC : Codec putC rdC (fun x => okN x.f0 ∧ rng x.f1 ∧ okN x.f2) := by
  have h := (codecN.seq (codecW.seq codecN)).iso (fun t => (⟨t.1, t.2.1, t.2.2⟩ : S50)) (fun x => (x.f0, x.f1, x.f2)) (fun _ _ => rfl)
  refine h.congr (fun x => rfl) (fun l i => ?_) (fun x => ⟨fun hx => ⟨hx, rfl⟩, fun hx => hx.1⟩)
  unfold rdC
  cases rdN l i with
  | none => rfl
  | some a =>
    simp only [Option.bind_some]
    cases rdW l a.2 with
    | none => rfl
    | some b =>
      simp only [Option.bind_some]
      cases rdN l b.2 <;> rfl
def okW (f : S54) : Prop := f.f0.size ≤ 65536 ∧ ((f.f1.length : Int) ≤ 8 ∧ ∀ x ∈ f.f1, okN x) ∧ okN f.f2 ∧ (((f.f3.drop f.f1.length).length : Int) ≤ 32 ∧ ∀ x ∈ f.f3.drop f.f1.length, okN x) ∧ ((f.f4.length : Int) ≤ 32768 ∧ ∀ x ∈ f.f4, okN x.f0 ∧ rng x.f1 ∧ okN x.f2)
theorem codecF : Codec putF rdF (fun f => okW f ∧ f.f3 = f.f1 ++ f.f3.drop f.f1.length) := by
  have h := (codecT.seq ((codecR codecN 8 (by decide)).seq (codecN.seq ((codecR codecN 32 (by decide)).seq (codecR codecC 32768 (by decide)))))).iso
    (fun t => (⟨t.1, t.2.1, t.2.2.1, t.2.1 ++ t.2.2.2.1, t.2.2.2.2⟩ : S54)) (fun x => (x.f0, x.f1, x.f2, x.f3.drop x.f1.length, x.f4)) (fun t _ => by simp)
  refine h.congr (fun x => rfl) (fun l i => ?_) (fun x => ⟨fun hx => ⟨hx.1, by rw [← hx.2]⟩, fun hx => ⟨hx.1, (congrArg S54.f3 hx.2).symm⟩⟩)
  unfold rdF
  cases rdT l i with
  | none => rfl
  | some a =>
    simp only [Option.bind_some]
    cases rdRows (rdN l) 8 l a.2 with
    | none => rfl
    | some b =>
      simp only [Option.bind_some]
      cases rdN l b.2 with
      | none => rfl
      | some n =>
        simp only [Option.bind_some]
        cases rdRows (rdN l) 32 l n.2 with
        | none => rfl
        | some m =>
          simp only [Option.bind_some]
          cases rdRows (rdC l) 32768 l m.2 <;> rfl
def rdBoth (l : List Int) (i : Int) : Option ((List S48 × List S54) × Int) := (rdRows (rdG l) 64 l i).bind fun g => (rdRows (rdF l) 64 l g.2).bind fun f => some ((g.1, f.1), f.2)
def okA (t : List S48 × List S54) : Prop := ((t.1.length : Int) ≤ 64 ∧ ∀ x ∈ t.1, okN x.f0 ∧ okN x.f1 ∧ rng x.f2) ∧ ((t.2.length : Int) ≤ 64 ∧ ∀ f ∈ t.2, okW f ∧ f.f3 = f.f1 ++ f.f3.drop f.f1.length)
theorem codecA : Codec (fun t : List S48 × List S54 => rowG t.1 ++ rowF t.2) rdBoth okA := (codecR codecG 64 (by decide)).seq (codecR codecF 64 (by decide))
theorem rdAll_both (l : List Int) : rdAll l = rdBoth l 4 := rfl
end Go.Proofs.YteidgpaakoeefaaDoor
namespace Go.Proofs.YteidgpaakoeefaaDoor
open Go.RowKit Go.Proofs.YteidgpaakoeefaaDoorW.PrintWords Go.Proofs.YteidgpaakoeefaaDoorW.PrintLast Go.Proofs.YteidgpaakoeefaaDoorW.PrintMore
set_option linter.unusedVariables false
set_option linter.unusedSimpArgs false
theorem hi_bit (a : Nat) (h : a < 2147483648) : 2147483648 ≤ a ^^^ 3988292384 := by
  have h1 : (a ^^^ 3988292384) / 2147483648 = a / 2147483648 ^^^ 3988292384 / 2147483648 := Nat.xor_div_two_pow (n := 31)
  rw [show a / 2147483648 = 0 by omega] at h1
  have h2 : (0 : Nat) ^^^ 3988292384 / 2147483648 = 1 := by decide
  omega
theorem xor_cancel {a b c : Nat} (h : a ^^^ c = b ^^^ c) : a = b := by
  have := congrArg (· ^^^ c) h
  simpa [Nat.xor_assoc] using this
theorem xor_cancel_left {a b c : Nat} (h : c ^^^ a = c ^^^ b) : a = b := by
  rw [Nat.xor_comm c a, Nat.xor_comm c b] at h
  exact xor_cancel h
theorem bN_inj {s t : Nat} (hs : s < 4294967296) (ht : t < 4294967296) (h : bN s = bN t) : s = t := by
  unfold bN at h
  by_cases a : s % 2 = 1 <;> by_cases b : t % 2 = 1
  · rw [if_pos a, if_pos b] at h
    have := xor_cancel h
    omega
  · rw [if_pos a, if_neg b] at h
    have := hi_bit (s / 2) (by omega)
    omega
  · rw [if_neg a, if_pos b] at h
    have := hi_bit (t / 2) (by omega)
    omega
  · rw [if_neg a, if_neg b] at h
    omega
theorem nstepN_inj {s t : Nat} (hs : s < 4294967296) (ht : t < 4294967296) (h : nstepN s = nstepN t) : s = t := by
  rw [← bN_four, ← bN_four] at h
  have a1 := bN_lt _ hs; have a2 := bN_lt _ a1; have a3 := bN_lt _ a2
  have b1 := bN_lt _ ht; have b2 := bN_lt _ b1; have b3 := bN_lt _ b2
  exact bN_inj hs ht (bN_inj a1 b1 (bN_inj a2 b2 (bN_inj a3 b3 h)))
theorem T8_lt (s : Nat) (h : s < 4294967296) : T8 s < 4294967296 := nstepN_lt _ (nstepN_lt _ h)
theorem T8_inj {s t : Nat} (hs : s < 4294967296) (ht : t < 4294967296) (h : T8 s = T8 t) : s = t := nstepN_inj hs ht (nstepN_inj (nstepN_lt _ hs) (nstepN_lt _ ht) h)
theorem T8_high (c y : Nat) : T8 (256 * c ^^^ y) = c ^^^ T8 y := by
  unfold T8
  rw [show 256 * c = 16 * (16 * c) by omega, nstepN_high, nstepN_high]
def word (a b c d : Nat) : Nat := a ^^^ 256 * (b ^^^ 256 * (c ^^^ 256 * d))
theorem four_steps (s a b c d : Nat) : sstepN (sstepN (sstepN (sstepN s a) b) c) d = T8 (T8 (T8 (T8 (s ^^^ word a b c d)))) := by
  unfold sstepN word
  have e1 : s ^^^ (a ^^^ 256 * (b ^^^ 256 * (c ^^^ 256 * d))) = 256 * (b ^^^ 256 * (c ^^^ 256 * d)) ^^^ (s ^^^ a) := by
    rw [← Nat.xor_assoc, Nat.xor_comm]
  rw [e1, T8_high]
  have e2 : (b ^^^ 256 * (c ^^^ 256 * d)) ^^^ T8 (s ^^^ a) = 256 * (c ^^^ 256 * d) ^^^ (T8 (s ^^^ a) ^^^ b) := by
    rw [Nat.xor_comm b, Nat.xor_assoc, Nat.xor_comm b]
  rw [e2, T8_high]
  have e3 : (c ^^^ 256 * d) ^^^ T8 (T8 (s ^^^ a) ^^^ b) = 256 * d ^^^ (T8 (T8 (s ^^^ a) ^^^ b) ^^^ c) := by
    rw [Nat.xor_comm c, Nat.xor_assoc, Nat.xor_comm c]
  rw [e3, T8_high, Nat.xor_comm d]
theorem xor_byte {a b x y : Nat} (ha : a < 256) (hb : b < 256) (h : a ^^^ 256 * x = b ^^^ 256 * y) : a = b ∧ x = y := by
  have m := congrArg (· % 256) h
  have q := congrArg (· / 256) h
  simp only [xmod256, xdiv256] at m q
  rw [show 256 * x % 256 = 0 by omega, show 256 * y % 256 = 0 by omega, Nat.xor_zero, Nat.xor_zero] at m
  rw [show a / 256 = 0 by omega, show b / 256 = 0 by omega, show 256 * x / 256 = x by omega, show 256 * y / 256 = y by omega, Nat.zero_xor, Nat.zero_xor] at q
  exact ⟨by omega, q⟩
theorem word_lt {a b c d : Nat} (ha : a < 256) (hb : b < 256) (hc : c < 256) (hd : d < 256) : word a b c d < 4294967296 := by
  have h1 : c ^^^ 256 * d < 65536 := Nat.xor_lt_two_pow (n := 16) (by omega) (by omega)
  have h2 : b ^^^ 256 * (c ^^^ 256 * d) < 16777216 := Nat.xor_lt_two_pow (n := 24) (by omega) (by omega)
  exact Nat.xor_lt_two_pow (n := 32) (by omega) (by omega)
theorem four_inj {s a b c d a' b' c' d' : Nat} (hs : s < 4294967296) (ha : a < 256) (hb : b < 256) (hc : c < 256) (hd : d < 256) (ha' : a' < 256) (hb' : b' < 256) (hc' : c' < 256) (hd' : d' < 256)
    (h : sstepN (sstepN (sstepN (sstepN s a) b) c) d = sstepN (sstepN (sstepN (sstepN s a') b') c') d') : a = a' ∧ b = b' ∧ c = c' ∧ d = d' := by
  rw [four_steps, four_steps] at h
  have w1 := word_lt ha hb hc hd; have w2 := word_lt ha' hb' hc' hd'
  have x1 : s ^^^ word a b c d < 4294967296 := Nat.xor_lt_two_pow (n := 32) (by omega) (by omega)
  have x2 : s ^^^ word a' b' c' d' < 4294967296 := Nat.xor_lt_two_pow (n := 32) (by omega) (by omega)
  have t1 := T8_lt _ x1; have t2 := T8_lt _ t1; have t3 := T8_lt _ t2
  have u1 := T8_lt _ x2; have u2 := T8_lt _ u1; have u3 := T8_lt _ u2
  have h4 := xor_cancel_left (T8_inj x1 x2 (T8_inj t1 u1 (T8_inj t2 u2 (T8_inj t3 u3 h))))
  obtain ⟨r1, h5⟩ := xor_byte ha ha' h4
  obtain ⟨r2, h6⟩ := xor_byte hb hb' h5
  obtain ⟨r3, h7⟩ := xor_byte hc hc' h6
  exact ⟨r1, r2, r3, h7⟩
theorem sstep_inj {s t c : Int} (hs : 0 ≤ s ∧ s < 4294967296) (ht : 0 ≤ t ∧ t < 4294967296) (hc : 0 ≤ c ∧ c < 256) (h : sstep s c = sstep t c) : s = t := by
  obtain ⟨s, rfl⟩ : ∃ n : Nat, s = (n : Int) := ⟨s.toNat, by omega⟩
  obtain ⟨t, rfl⟩ : ∃ n : Nat, t = (n : Int) := ⟨t.toNat, by omega⟩
  obtain ⟨c, rfl⟩ : ∃ n : Nat, c = (n : Int) := ⟨c.toNat, by omega⟩
  have hs' : s < 4294967296 := by omega
  have ht' : t < 4294967296 := by omega
  have hc' : c < 4294967296 := by omega
  rw [sstep_cast s c hs' hc', sstep_cast t c ht' hc'] at h
  have h2 : sstepN s c = sstepN t c := by omega
  have x1 : s ^^^ c < 4294967296 := Nat.xor_lt_two_pow (n := 32) hs' hc'
  have x2 : t ^^^ c < 4294967296 := Nat.xor_lt_two_pow (n := 32) ht' hc'
  have := xor_cancel (T8_inj x1 x2 h2)
  omega
theorem foldl_inj : ∀ (R : List Int) (s t : Int), (∀ x ∈ R, 0 ≤ x ∧ x < 256) → (0 ≤ s ∧ s < 4294967296) → (0 ≤ t ∧ t < 4294967296) → R.foldl sstep s = R.foldl sstep t → s = t
  | [], s, t, _, _, _, h => h
  | c :: R, s, t, hR, hs, ht, h =>
    sstep_inj hs ht (hR c (by simp)) (foldl_inj R _ _ (fun x hx => hR x (by simp [hx])) (sstep_range s c) (sstep_range t c) h)
theorem four_fold {s a b c d a' b' c' d' : Int} (hs : 0 ≤ s ∧ s < 4294967296) (ha : 0 ≤ a ∧ a < 256) (hb : 0 ≤ b ∧ b < 256) (hc : 0 ≤ c ∧ c < 256) (hd : 0 ≤ d ∧ d < 256)
    (ha' : 0 ≤ a' ∧ a' < 256) (hb' : 0 ≤ b' ∧ b' < 256) (hc' : 0 ≤ c' ∧ c' < 256) (hd' : 0 ≤ d' ∧ d' < 256)
    (h : sstep (sstep (sstep (sstep s a) b) c) d = sstep (sstep (sstep (sstep s a') b') c') d') : a = a' ∧ b = b' ∧ c = c' ∧ d = d' := by
  obtain ⟨s, rfl⟩ : ∃ n : Nat, s = (n : Int) := ⟨s.toNat, by omega⟩
  obtain ⟨a, rfl⟩ : ∃ n : Nat, a = (n : Int) := ⟨a.toNat, by omega⟩
  obtain ⟨b, rfl⟩ : ∃ n : Nat, b = (n : Int) := ⟨b.toNat, by omega⟩
  obtain ⟨c, rfl⟩ : ∃ n : Nat, c = (n : Int) := ⟨c.toNat, by omega⟩
  obtain ⟨d, rfl⟩ : ∃ n : Nat, d = (n : Int) := ⟨d.toNat, by omega⟩
  obtain ⟨a', rfl⟩ : ∃ n : Nat, a' = (n : Int) := ⟨a'.toNat, by omega⟩
  obtain ⟨b', rfl⟩ : ∃ n : Nat, b' = (n : Int) := ⟨b'.toNat, by omega⟩
  obtain ⟨c', rfl⟩ : ∃ n : Nat, c' = (n : Int) := ⟨c'.toNat, by omega⟩
  obtain ⟨d', rfl⟩ : ∃ n : Nat, d' = (n : Int) := ⟨d'.toNat, by omega⟩
  have hsn : s < 4294967296 := by omega
  have l1 := sstepN_lt s a hsn (by omega); have l2 := sstepN_lt _ b l1 (by omega); have l3 := sstepN_lt _ c l2 (by omega)
  have m1 := sstepN_lt s a' hsn (by omega); have m2 := sstepN_lt _ b' m1 (by omega); have m3 := sstepN_lt _ c' m2 (by omega)
  rw [sstep_cast s a hsn (by omega), sstep_cast _ b l1 (by omega), sstep_cast _ c l2 (by omega), sstep_cast _ d l3 (by omega),
    sstep_cast s a' hsn (by omega), sstep_cast _ b' m1 (by omega), sstep_cast _ c' m2 (by omega), sstep_cast _ d' m3 (by omega)] at h
  have h2 := four_inj hsn (by omega) (by omega) (by omega) (by omega) (by omega) (by omega) (by omega) (by omega) (show sstepN (sstepN (sstepN (sstepN s a) b) c) d = sstepN (sstepN (sstepN (sstepN s a') b') c') d' by omega)
  omega
theorem sum_inj {pre suf : List Int} {a b c d a' b' c' d' : Int} (hp : ∀ x ∈ pre, 0 ≤ x ∧ x < 256) (hsf : ∀ x ∈ suf, 0 ≤ x ∧ x < 256)
    (ha : 0 ≤ a ∧ a < 256) (hb : 0 ≤ b ∧ b < 256) (hc : 0 ≤ c ∧ c < 256) (hd : 0 ≤ d ∧ d < 256)
    (ha' : 0 ≤ a' ∧ a' < 256) (hb' : 0 ≤ b' ∧ b' < 256) (hc' : 0 ≤ c' ∧ c' < 256) (hd' : 0 ≤ d' ∧ d' < 256)
    (h : sumF (pre ++ (a :: b :: c :: d :: suf)) = sumF (pre ++ (a' :: b' :: c' :: d' :: suf))) : a = a' ∧ b = b' ∧ c = c' ∧ d = d' := by
  unfold sumF at h
  have h2 : (pre ++ (a :: b :: c :: d :: suf)).foldl sstep 4294967295 = (pre ++ (a' :: b' :: c' :: d' :: suf)).foldl sstep 4294967295 := by omega
  rw [List.foldl_append, List.foldl_append] at h2
  simp only [List.foldl_cons] at h2
  have hs := fold_range pre 4294967295 (by decide) (by decide)
  exact four_fold hs ha hb hc hd ha' hb' hc' hd' (foldl_inj suf _ _ hsf (sstep_range _ _) (sstep_range _ _) h2)
theorem opF_frame (l : List Int) : opF (frameF l) = (l, true) := by
  have hl := frameF_len l
  have ht : (frameF l).take ((frameF l).length - 4) = l := by
    rw [hl, show l.length + 4 - 4 = l.length by omega]
    unfold frameF
    exact List.take_left' rfl
  unfold opF
  rw [if_neg (by omega), ht, if_pos rfl]
theorem opF_turned {l pre suf : List Int} {a b c d a' b' c' d' : Int} (hf : frameF l = pre ++ (a :: b :: c :: d :: suf)) (hl : ∀ x ∈ l, 0 ≤ x ∧ x < 256)
    (ha' : 0 ≤ a' ∧ a' < 256) (hb' : 0 ≤ b' ∧ b' < 256) (hc' : 0 ≤ c' ∧ c' < 256) (hd' : 0 ≤ d' ∧ d' < 256) :
    (opF (pre ++ (a' :: b' :: c' :: d' :: suf))).2 = decide (a = a' ∧ b = b' ∧ c = c' ∧ d = d') := by
  have hr := frameF_range l hl
  rw [hf] at hr
  have hp : ∀ x ∈ pre, 0 ≤ x ∧ x < 256 := fun x hx => hr x (List.mem_append_left _ hx)
  have hq : ∀ x ∈ a :: b :: c :: d :: suf, 0 ≤ x ∧ x < 256 := fun x hx => hr x (List.mem_append_right _ hx)
  by_cases he : a = a' ∧ b = b' ∧ c = c' ∧ d = d'
  · obtain ⟨rfl, rfl, rfl, rfl⟩ := he
    rw [← hf, opF_frame]
    simp
  · rw [decide_eq_false he]
    unfold opF
    split
    · rfl
    · split
      · rename_i hx
        have hs := sum_frame ((pre ++ (a' :: b' :: c' :: d' :: suf)).take ((pre ++ (a' :: b' :: c' :: d' :: suf)).length - 4))
        rw [hx, ← sum_frame l, hf] at hs
        exact absurd (sum_inj hp (fun x hx => hq x (by simp [hx])) (hq a (by simp)) (hq b (by simp)) (hq c (by simp)) (hq d (by simp)) ha' hb' hc' hd' hs.symm) he
      · rfl
end Go.Proofs.YteidgpaakoeefaaDoor
namespace Go.Proofs.YteidgpaakoeefaaDoor
open Go.RowKit Go.Proofs.YteidgpaakoeefaaDoorW.PrintWords Go.Proofs.YteidgpaakoeefaaDoorW.PrintLast Go.Proofs.YteidgpaakoeefaaDoorW.PrintMore
set_option linter.unusedVariables false
set_option linter.unusedSimpArgs false
open PIm
def rngA (gs : List S48) (fs : List S54) : Prop := (∀ x ∈ gs, rng x.f0 ∧ rng x.f1 ∧ rng x.f2) ∧ ∀ f ∈ fs, rng f.f2 ∧ (∀ x ∈ f.f1, rng x) ∧ (∀ x ∈ f.f3, rng x) ∧ ∀ x ∈ f.f4, rng x.f0 ∧ rng x.f1 ∧ rng x.f2
def argA (gs : List S48) (fs : List S54) : Prop := gs.length ≤ 140737488355318 ∧ fs.length ≤ 140737488355318 ∧ (∀ f ∈ fs, fnIn f) ∧ rngA gs fs
theorem nameF_len {s : ByteArray} (h : nameF s = true) : s.size ≤ 24 := by
  unfold nameF at h
  split at h
  · cases h
  · simp only [Bool.and_eq_true, decide_eq_true_eq] at h; exact h.1
theorem globB_ok {g : S48} (h : globB g = true) : 0 ≤ g.f0 ∧ g.f0 ≤ 4 ∧ 0 ≤ g.f1 ∧ g.f1 ≤ 256 := by
  unfold globB typB at h
  simp only [Bool.and_eq_true, decide_eq_true_eq] at h
  omega
theorem typB_ok {t : Int} (h : typB t = true) : 0 ≤ t ∧ t ≤ 4 := by
  unfold typB at h
  simp only [Bool.and_eq_true, decide_eq_true_eq] at h
  omega
theorem fnB_ok {f : S54} (h : fnB f = true) : f.f0.size ≤ 24 ∧ f.f1.length ≤ 8 ∧ f.f3.length ≤ 32 ∧ f.f4.length ≤ 32768 ∧ (∀ x ∈ f.f3, 0 ≤ x ∧ x ≤ 4) ∧ (0 ≤ f.f2 ∧ f.f2 ≤ 4) ∧ f.f1.length ≤ f.f3.length ∧ f.f1 = f.f3.take f.f1.length ∧
    ∀ x ∈ f.f4, 1 ≤ x.f0 ∧ x.f0 ≤ 33 ∧ 0 ≤ x.f2 ∧ x.f2 ≤ 4 := by
  unfold fnB at h
  simp only [Bool.and_eq_true, decide_eq_true_eq, Bool.or_eq_true, Bool.not_eq_true', List.all_eq_true] at h
  obtain ⟨h0, h1, h3, h4, ht, h2, hle, heq, hi⟩ := h
  refine ⟨nameF_len h0, h1, h3, h4, fun x hx => typB_ok (ht x hx), ?_, hle, heq, fun x hx => ?_⟩
  · rcases h2 with h2 | h2
    · omega
    · exact typB_ok h2
  · have := (List.any_eq_false.1 hi) x hx
    unfold insBad at this
    simp only [Bool.or_eq_true, decide_eq_true_eq] at this
    omega
theorem okF_parts {gs : List S48} {fs : List S54} (h : okF gs fs = true) : gs.length ≤ 64 ∧ fs.length ≤ 64 ∧ (∀ x ∈ gs, globB x = true) ∧ ∀ f ∈ fs, fnB f = true := by
  unfold okF at h
  simp only [Bool.and_eq_true, decide_eq_true_eq, Bool.not_eq_true', List.any_eq_false] at h
  exact ⟨h.1, h.2.1, fun x hx => by simpa using h.2.2.1 x hx, fun f hf => by simpa using h.2.2.2 f hf⟩
theorem okF_okA {gs : List S48} {fs : List S54} (h : okF gs fs = true) (hr : rngA gs fs) : okA (gs, fs) := by
  obtain ⟨h1, h2, h3, h4⟩ := okF_parts h
  refine ⟨⟨by show (gs.length : Int) ≤ 64; omega, fun x hx => ?_⟩, ⟨by show (fs.length : Int) ≤ 64; omega, fun f hf => ?_⟩⟩
  · have a := globB_ok (h3 x hx)
    exact ⟨⟨a.1, by omega⟩, ⟨a.2.2.1, by omega⟩, (hr.1 x hx).2.2⟩
  · obtain ⟨b0, b1, b3, b4, bt, b2, ble, beq, bi⟩ := fnB_ok (h4 f hf)
    have hN : ∀ x ∈ f.f3, okN x := fun x hx => ⟨(bt x hx).1, by have := (bt x hx).2; omega⟩
    have hj : f.f3 = f.f1 ++ f.f3.drop f.f1.length := by
      conv => lhs; rw [← List.take_append_drop f.f1.length f.f3, ← beq]
    refine ⟨⟨by omega, ⟨by omega, fun x hx => hN x ?_⟩, ⟨b2.1, by have := b2.2; omega⟩, ⟨by rw [List.length_drop]; omega, fun x hx => hN x (List.mem_of_mem_drop hx)⟩, ⟨by omega, fun x hx => ?_⟩⟩, hj⟩
    · rw [beq] at hx; exact List.mem_of_mem_take hx
    · have := bi x hx
      exact ⟨⟨by omega, by omega⟩, ((hr.2 f hf).2.2.2 x hx).2.1, ⟨by omega, by omega⟩⟩
theorem flat_len {α : Type} {put : α → List Int} {c : Nat} : ∀ (l : List α), (∀ x ∈ l, (put x).length ≤ c) → (l.flatMap put).length ≤ l.length * c
  | [], _ => by simp
  | x :: l, h => by
    rw [List.flatMap_cons, List.length_append, List.length_cons, Nat.add_mul, Nat.one_mul]
    have h1 := h x (by simp)
    have h2 := flat_len l (fun y hy => h y (by simp [hy]))
    omega
theorem natB_le {n : Int} (h : okN n) : (natB n).length ≤ 1000 := (natB_len h.1 h.2).2
theorem wholeB_le {n : Int} (h : rng n) : (wholeB n).length ≤ 1000 := by
  unfold wholeB
  rw [venc_length]
  have hz : 0 ≤ zz n ∧ zz n < 18446744073709551616 := by unfold zz; have := h.1; have := h.2; split <;> omega
  have := vl10 (z := (zz n).toNat) (by omega)
  omega
set_option maxRecDepth 100000 in
theorem body_len {gs : List S48} {fs : List S54} (h : okA (gs, fs)) : (bodyF gs fs).length ≤ 140737488355318 := by
  obtain ⟨⟨h1, h2⟩, ⟨h3, h4⟩⟩ := h
  have h1' : (gs.length : Int) ≤ 64 := h1
  have h3' : (fs.length : Int) ≤ 64 := h3
  have a := flat_len (put := putG) (c := 3000) gs (fun x hx => by
    have q := h2 x hx
    have q0 := natB_le q.1; have q1 := natB_le q.2.1; have q2 := wholeB_le q.2.2
    unfold putG; simp only [List.length_append]; omega)
  have b := flat_len (put := putF) (c := 200000000) fs (fun f hf => by
    obtain ⟨⟨q0, ⟨q1, q1'⟩, q2, ⟨q3, q3'⟩, ⟨q4, q4'⟩⟩, q5⟩ := h4 f hf
    have e1 := flat_len (put := putI) (c := 1000) f.f1 (fun x hx => natB_le (q1' x hx))
    have e3 := flat_len (put := putI) (c := 1000) (f.f3.drop f.f1.length) (fun x hx => natB_le (q3' x hx))
    have e4 := flat_len (put := putC) (c := 3000) f.f4 (fun x hx => by
      have q := q4' x hx
      have w0 := natB_le q.1; have w1 := wholeB_le q.2.1; have w2 := natB_le q.2.2
      unfold putC; simp only [List.length_append]; omega)
    have n1 := natB_le (n := (f.f1.length : Int)) ⟨by omega, by omega⟩
    have n2 := natB_le q2
    have n3 := natB_le (n := ((f.f3.drop f.f1.length).length : Int)) ⟨by omega, by omega⟩
    have n4 := natB_le (n := (f.f4.length : Int)) ⟨by omega, by omega⟩
    have n0 := vl9 (z := f.f0.size) (by omega)
    unfold putF textB rowI rowC
    simp only [List.length_append, venc_length, bytesOf_length]
    have m1 : f.f1.length * 1000 ≤ 8000 := by omega
    have m3 : (f.f3.drop f.f1.length).length * 1000 ≤ 32000 := by omega
    have m4 : f.f4.length * 3000 ≤ 98304000 := by omega
    omega)
  have n1 := natB_le (n := (gs.length : Int)) ⟨by omega, by omega⟩
  have n3 := natB_le (n := (fs.length : Int)) ⟨by omega, by omega⟩
  unfold bodyF rowG rowF
  simp only [List.length_append, List.length_cons, List.length_nil]
  omega
theorem enc_args {gs : List S48} {fs : List S54} (h : argA gs fs) : image_Encode.f gs fs = some (encF gs fs) := by
  obtain ⟨h1, h2, h3, h4⟩ := h
  refine enc_f gs fs h1 h2 h3 (fun hok => ?_)
  obtain ⟨p1, p2, p3, p4⟩ := okF_parts hok
  refine ⟨h4.1, fun f hf => ?_, body_len (okF_okA hok h4)⟩
  obtain ⟨b0, b1, b3, b4, bt, b2, ble, beq, bi⟩ := fnB_ok (p4 f hf)
  obtain ⟨r2, r1, r3, r4⟩ := h4.2 f hf
  exact ⟨by omega, r1, r2, r3, r4, ble, by omega, by omega⟩
theorem body_eq (gs : List S48) (fs : List S54) : bodyF gs fs = [84, 73, 76, 84] ++ (rowG gs ++ rowF fs) := by unfold bodyF; rw [List.append_assoc]
theorem rdAll_body {gs : List S48} {fs : List S54} (h : okA (gs, fs)) (q : List Int) : rdAll (bodyF gs fs ++ q) = some ((gs, fs), ((bodyF gs fs).length : Int)) := by
  rw [rdAll_both, body_eq]
  have := codecA.there [84, 73, 76, 84] q (gs, fs) h
  rw [show (([84, 73, 76, 84] : List Int).length : Int) = 4 from rfl] at this
  rw [this]
  exact congrArg some (Prod.ext rfl (by simp only [List.length_append]; push_cast; rfl))
theorem body_take (gs : List S48) (fs : List S54) : (bodyF gs fs).take 4 = [84, 73, 76, 84] ∧ ¬ (bodyF gs fs).length < 4 := by
  rw [body_eq]
  exact ⟨rfl, by simp only [List.length_append, List.length_cons, List.length_nil]; omega⟩
theorem there {gs : List S48} {fs : List S54} (h : okF gs fs = true) (hr : rngA gs fs) (hl : ¬ 1048576 < (frameF (bodyF gs fs)).length) : decF (frameF (bodyF gs fs)) = (gs, fs, 0) := by
  unfold decF
  rw [if_neg hl, opF_frame]
  obtain ⟨t1, t2⟩ := body_take gs fs
  rw [if_neg (fun q => q.elim (fun q => by cases q) (fun q => q.elim t2 (fun q => q t1)))]
  have := rdAll_body (okF_okA h hr) []
  rw [List.append_nil] at this
  simp only [this]
  rw [if_pos ⟨trivial, h⟩]
theorem rd_body {b : List Int} (hb : Bytes b) (h4 : ¬ b.length < 4) (ht : b.take 4 = [84, 73, 76, 84]) {r : List S48 × List S54} {j : Int} (h : rdAll b = some (r, j)) : okA r ∧ b.take j.toNat = bodyF r.1 r.2 ∧ 4 ≤ j ∧ j ≤ b.length := by
  rw [rdAll_both] at h
  obtain ⟨a1, a2, a3, a4, a5⟩ := codecA.back b 4 r j hb h
  refine ⟨a5, ?_, a2, a3⟩
  have e := cut_join b (i := 0) (j := 4) (k := j) (by omega) (by omega) a2 a3
  simp only [Int.toNat_zero, List.drop_zero] at e
  rw [e, a4, body_eq]
  rw [show (4 : Int).toNat = 4 from rfl, ht]
theorem opF_bytes {l : List Int} (hb : Bytes l) : Bytes (opF l).1 := fun x hx => hb x (opF_sub l x hx)
theorem opF_true {l : List Int} (h : (opF l).2 = true) : frameF (opF l).1 = l := by
  unfold opF at h ⊢
  split at h
  · cases h
  · next h4 =>
    split at h
    · next he => rw [if_neg h4, if_pos he]; exact he
    · cases h
theorem back {l : List Int} (hb : Bytes l) {gs : List S48} {fs : List S54} (h : decF l = (gs, fs, 0)) : okF gs fs = true ∧ okA (gs, fs) ∧ l = frameF (bodyF gs fs) ∧ ¬ 1048576 < l.length := by
  unfold decF at h
  split at h
  · injection h with _ h; injection h with _ h; cases h
  next hl =>
  split at h
  · unfold badI at h; injection h with _ h; injection h with _ h; cases h
  next hc =>
  rcases hr : rdAll (opF l).1 with _ | ⟨r, j⟩
  · rw [hr] at h; simp only [badI] at h; injection h with _ h; injection h with _ h; cases h
  · rw [hr] at h
    simp only [] at h
    split at h
    · next hok =>
      injection h with h1 h; injection h with h2 h3
      have h4 : ¬ (opF l).1.length < 4 := fun q => hc (.inr (.inl q))
      have ht : (opF l).1.take 4 = [84, 73, 76, 84] := Decidable.not_not.1 (fun q => hc (.inr (.inr q)))
      have ho : (opF l).2 = true := by cases q : (opF l).2 with
        | true => rfl
        | false => exact absurd (.inl q) hc
      obtain ⟨a1, a2, a3, a4⟩ := rd_body (opF_bytes hb) h4 ht hr
      have e : (opF l).1 = bodyF r.1 r.2 := by
        rw [← a2, hok.1, Int.toNat_natCast, List.take_length]
      subst h1; subst h2
      refine ⟨hok.2, a1, ?_, hl⟩
      rw [← e]; exact (opF_true ho).symm
    · simp only [badI] at h; injection h with _ h; injection h with _ h; cases h
theorem okA_arg {gs : List S48} {fs : List S54} (h : okA (gs, fs)) : argA gs fs := by
  obtain ⟨⟨h1, h2⟩, ⟨h3, h4⟩⟩ := h
  have h1' : (gs.length : Int) ≤ 64 := h1
  have h3' : (fs.length : Int) ≤ 64 := h3
  have hN : ∀ x, okN x → rng x := fun x hx => ⟨by have := hx.1; omega, hx.2⟩
  refine ⟨by omega, by omega, fun f hf => ?_, fun x hx => ⟨hN _ (h2 x hx).1, hN _ (h2 x hx).2.1, (h2 x hx).2.2⟩, fun f hf => ?_⟩
  · obtain ⟨⟨q0, ⟨q1, q1'⟩, q2, ⟨q3, q3'⟩, ⟨q4, q4'⟩⟩, q5⟩ := h4 f hf
    refine ⟨by omega, by omega, ?_, by omega⟩
    rw [q5, List.length_append]; omega
  · obtain ⟨⟨q0, ⟨q1, q1'⟩, q2, ⟨q3, q3'⟩, ⟨q4, q4'⟩⟩, q5⟩ := h4 f hf
    refine ⟨hN _ q2, fun x hx => hN _ (q1' x hx), fun x hx => ?_, fun x hx => ⟨hN _ (q4' x hx).1, (q4' x hx).2.1, hN _ (q4' x hx).2.2⟩⟩
    rw [q5] at hx
    rcases List.mem_append.1 hx with hx | hx
    · exact hN _ (q1' x hx)
    · exact hN _ (q3' x hx)
theorem back_enc {l : List Int} (hb : Bytes l) {gs : List S48} {fs : List S54} (h : decF l = (gs, fs, 0)) : image_Encode.f gs fs = some (l, 0) := by
  obtain ⟨h1, h2, h3, h4⟩ := back hb h
  rw [enc_args (okA_arg h2)]
  unfold encF
  rw [if_pos h1, ← h3, if_neg h4]
theorem cut_bad {gs : List S48} {fs : List S54} (h : okF gs fs = true) (hr : rngA gs fs) (hB : Bytes (frameF (bodyF gs fs))) (hl : ¬ 1048576 < (frameF (bodyF gs fs)).length) {m : Nat} (hm : m < (frameF (bodyF gs fs)).length) :
    decF ((frameF (bodyF gs fs)).take m) = badI := by
  have hA := okF_okA h hr
  have hlen := frameF_len (bodyF gs fs)
  generalize hf : frameF (bodyF gs fs) = b at *
  have hb' : Bytes (b.take m) := fun x hx => hB x (List.mem_of_mem_take hx)
  unfold decF
  rw [if_neg (by rw [List.length_take]; omega)]
  split
  · rfl
  next hc =>
  rcases hrd : rdAll (opF (b.take m)).1 with _ | ⟨r, j⟩
  · rfl
  · simp only []
    split
    · next hok =>
      exfalso
      have h4 : ¬ (opF (b.take m)).1.length < 4 := fun q => hc (.inr (.inl q))
      have ht : (opF (b.take m)).1.take 4 = [84, 73, 76, 84] := Decidable.not_not.1 (fun q => hc (.inr (.inr q)))
      have ho : (opF (b.take m)).2 = true := by cases q : (opF (b.take m)).2 with
        | true => rfl
        | false => exact absurd (.inl q) hc
      obtain ⟨a1, a2, a3, a4⟩ := rd_body (opF_bytes hb') h4 ht hrd
      have e : (opF (b.take m)).1 = bodyF r.1 r.2 := by
        rw [← a2, hok.1, Int.toNat_natCast, List.take_length]
      have e2 : frameF (bodyF r.1 r.2) = b.take m := by rw [← e]; exact opF_true ho
      have l2 := frameF_len (bodyF r.1 r.2)
      rw [e2, List.length_take] at l2
      have e3 : bodyF gs fs = bodyF r.1 r.2 ++ (bodyF gs fs).drop (bodyF r.1 r.2).length := by
        have p1 : (bodyF gs fs).take (bodyF r.1 r.2).length = bodyF r.1 r.2 := by
          have q1 : b.take (bodyF r.1 r.2).length = (bodyF gs fs).take (bodyF r.1 r.2).length := by
            rw [← hf]; unfold frameF
            rw [List.take_append_of_le_length (by omega)]
          have q2 : b.take (bodyF r.1 r.2).length = bodyF r.1 r.2 := by
            have q3 : (b.take m).take (bodyF r.1 r.2).length = bodyF r.1 r.2 := by
              rw [← e2]; unfold frameF
              rw [List.take_append_of_le_length (Nat.le_refl _), List.take_length]
            rw [List.take_take, Nat.min_eq_left (by omega)] at q3
            exact q3
          rw [← q1, q2]
        conv => lhs; rw [← List.take_append_drop (bodyF r.1 r.2).length (bodyF gs fs), p1]
      have r1 := rdAll_body hA []
      rw [List.append_nil] at r1
      have r2 := rdAll_body (gs := r.1) (fs := r.2) a1 ((bodyF gs fs).drop (bodyF r.1 r.2).length)
      rw [← e3, r1] at r2
      injection r2 with r2; injection r2 with _ r2
      omega
    · rfl
end Go.Proofs.YteidgpaakoeefaaDoor
namespace Go.Proofs.YteidgpaakoeefaaDoor.PIm
open Go.RowKit Go.Proofs.YteidgpaakoeefaaDoorW.PrintWords Go.Proofs.YteidgpaakoeefaaDoorW.PrintLast Go.Proofs.YteidgpaakoeefaaDoorW.PrintMore
attribute [local go_sem] max2_int min2_int max_two min_two max_three min_three max_four min_four   -- for this text's walks alone
set_option linter.unusedVariables false
set_option linter.unusedSimpArgs false
theorem eqA48 (d : Nat) (w : World) (x0 y0 : Int) (x1 y1 : Int) (x2 y2 : Int) :
    (Op.equalIn (d + 2) 48 (.agg #[.int .i64 x0, .int .i64 x1, .int .i64 x2]) (.agg #[.int .i64 y0, .int .i64 y1, .int .i64 y2])).run Tryd.prog w = .ok (x0 == y0 && (x1 == y1 && (x2 == y2))) w := by
  refine eqA_of Tryd.underlying48 (by kernel_rfl) ?_
  refine eqf_cons (by rfl) (by go_simp; rfl) (by go_simp; rfl) (by go_simp) ?_
  refine eqf_cons (by rfl) (by go_simp; rfl) (by go_simp; rfl) (by go_simp) ?_
  exact eqf_last (by rfl) (by go_simp; rfl) (by go_simp; rfl) (by go_simp)
end Go.Proofs.YteidgpaakoeefaaDoor.PIm
namespace Go.Proofs.YteidgpaakoeefaaDoor.PIm
open Go.RowKit Go.Proofs.YteidgpaakoeefaaDoorW.PrintWords Go.Proofs.YteidgpaakoeefaaDoorW.PrintLast Go.Proofs.YteidgpaakoeefaaDoorW.PrintMore
attribute [local go_sem] max2_int min2_int max_two min_two max_three min_three max_four min_four   -- for this text's walks alone
set_option linter.unusedVariables false
set_option linter.unusedSimpArgs false
theorem eqA50 (d : Nat) (w : World) (x0 y0 : Int) (x1 y1 : Int) (x2 y2 : Int) :
    (Op.equalIn (d + 2) 50 (.agg #[.int .i64 x0, .int .i64 x1, .int .i64 x2]) (.agg #[.int .i64 y0, .int .i64 y1, .int .i64 y2])).run Tryd.prog w = .ok (x0 == y0 && (x1 == y1 && (x2 == y2))) w := by
  refine eqA_of Tryd.underlying50 (by kernel_rfl) ?_
  refine eqf_cons (by rfl) (by go_simp; rfl) (by go_simp; rfl) (by go_simp) ?_
  refine eqf_cons (by rfl) (by go_simp; rfl) (by go_simp; rfl) (by go_simp) ?_
  exact eqf_last (by rfl) (by go_simp; rfl) (by go_simp; rfl) (by go_simp)
end Go.Proofs.YteidgpaakoeefaaDoor.PIm
