/- Taken together by a program of mine: what the proof names, out of the texts of this seat (its words as the print wrote them), part 6. -/
import Derived.Test.YteidgpaakoeefaaDoorR5
import Derived.Deep.RegionLaw
import Derived.Deep.DeepCutAuto
import Derived.Deep.CutBlock
import Derived.Deep.CutRange
import Derived.Deep.Cut
import Derived.SizedLaws
import Derived.Deep.Slices
import Derived.WalkKit
import Derived.ProofKit
import Derived.OpenShut
import Derived.ShutString
import Derived.ChangeOld
import Derived.SizedLaws
import Derived.ChangeSlices
namespace Go.Proofs.YteidgpaakoeefaaDoor.PIm
open Go.RowKit Go.Proofs.YteidgpaakoeefaaDoorW.PrintWords Go.Proofs.YteidgpaakoeefaaDoorW.PrintLast Go.Proofs.YteidgpaakoeefaaDoorW.PrintMore
attribute [local go_sem] max2_int min2_int max_two min_two max_three min_three max_four min_four   -- for this text's walks alone
set_option linter.unusedVariables false
set_option linter.unusedSimpArgs false
def tiltyardref08_in.l0 : Nat → List ByteArray → ByteArray → Int → Option (Bool)
  | 0, _, _, _ => none
  | k + 1, x0, x1, x5 => if x5 < (x0.length : Int) then (if 0 ≤ x5 then (if (rdOf ByteArray.empty x0 x5).toList = x1.toList then (some true) else (tiltyardref08_in.l0 k x0 x1 (wrap64 (x5 + 1)))) else (none)) else (some false)
def tiltyardref08_in.f (k : Nat) (l0 : List ByteArray) (a1 : ByteArray) : Option (Bool) := tiltyardref08_in.l0 k l0 a1 0
set_option maxHeartbeats 8000000 in
set_option maxRecDepth 100000 in
theorem tiltyardref08_in.calls (k : Nat) (A0 : Option Addr) (c0 : Nat) (l0 : List ByteArray) (a1 : ByteArray) (r : Bool) (w : World) (hr0 : Kd.C Kd.string w A0 l0.length l0) (hc0 : l0.length ≤ c0) (h : tiltyardref08_in.f k l0 a1 = some r) :
    Calls Tryd.prog 110 #[.slice A0 l0.length c0, .string a1] w fun e w' => e = .returned (.bool r) ∧ Drawn0 w w' := by
  have HR0 := Aside0.mk hr0
  have HC0 := Aside0.mk hc0
  clear hr0 hc0
  have H : (tiltyardref08_in.l0 k l0 a1 0) = some r := h
  clear h
  have H' := Aside0.mk H
  clear H
  go_enter Tryd.func110, Tryd.ntmps110
  go_wp2
  go_loopg [5] k (fun kq v5 w' => ∃ (x5_1 : Int), v5 = .int .i64 x5_1 ∧ Aside0 (tiltyardref08_in.l0 kq l0 a1 x5_1 = some r) ∧ Aside0 (kq ≤ k) ∧ Drawn0 w w')
  case atStart => exact ⟨(0), (by first | rfl | (simp; done) | (simp [*]; done)), H', ⟨Nat.le_refl _⟩, by repeat (first | exact Drawn0.refl _ | apply Drawn0.step)⟩
  case round =>
    clear H'
    try clear c1
    try clear p2
    obtain ⟨x5_1, rfl, HA, HK1, ⟨m1, rfl⟩⟩ := hrel
    cases gk with
    | zero => exact absurd HA.out (by simp [tiltyardref08_in.l0])
    | succ k1 =>
      have H := HA.out
      clear HA
      simp only [tiltyardref08_in.l0] at H
      by_cases c3 : x5_1 < (l0.length : Int)
      · rw [if_pos c3] at H
        have c3b0 : decide (x5_1 < (l0.length : Int)) = true := decide_eq_true c3
        clear c3
        by_cases c4 : 0 ≤ x5_1
        · rw [if_pos c4] at H
          have c4b0 : decide (0 ≤ x5_1) = true := decide_eq_true c4
          clear c4
          by_cases c5 : (rdOf ByteArray.empty l0 x5_1).toList = a1.toList
          · rw [if_pos c5] at H
            have c5b0 : ((rdOf ByteArray.empty l0 x5_1).toList == a1.toList) = true := beq_iff_eq.mpr c5
            have c5b1 : ((rdOf ByteArray.empty l0 x5_1).toList != a1.toList) = false := bne_eq_false_iff_eq.mpr c5
            clear c5
            obtain rfl := Option.some.inj H
            have p276 : 0 ≤ (x5_1 : Int) := of_decide_eq_true (by first | (with_reducible assumption) | assumption)
            have q276 : x5_1 < (l0.length : Int) := of_decide_eq_true (by first | (with_reducible assumption) | assumption)
            obtain ⟨ad276, e276, hx276_0⟩ := Kd.at_string HR0.out x5_1 p276 q276
            cases e276
            replace p276 := eq_true p276
            replace q276 := eq_true q276
            go_wp2
            go_ret
            exact ⟨by first | rfl | (simp; done) | (simp [*]; done), by repeat (first | exact Drawn0.refl _ | apply Drawn0.step)⟩
          · rw [if_neg c5] at H
            have c5b0 : ((rdOf ByteArray.empty l0 x5_1).toList == a1.toList) = false := beq_eq_false_iff_ne.mpr c5
            have c5b1 : ((rdOf ByteArray.empty l0 x5_1).toList != a1.toList) = true := bne_iff_ne.mpr c5
            have H' := Aside0.mk H
            clear H
            have p276 : 0 ≤ (x5_1 : Int) := of_decide_eq_true (by first | (with_reducible assumption) | assumption)
            have q276 : x5_1 < (l0.length : Int) := of_decide_eq_true (by first | (with_reducible assumption) | assumption)
            obtain ⟨ad276, e276, hx276_0⟩ := Kd.at_string HR0.out x5_1 p276 q276
            cases e276
            replace p276 := eq_true p276
            replace q276 := eq_true q276
            go_wp2
            go_roundg k1
            case measure => have := HK1.out; omega
            case rel => exact ⟨(wrap64 (x5_1 + 1)), (by first | rfl | (simp; done) | (simp [*]; done)), H', ⟨by have := HK1.out; omega⟩, by repeat (first | exact Drawn0.refl _ | apply Drawn0.step)⟩
        · rw [if_neg c4] at H
          exact absurd H (by simp)
      · rw [if_neg c3] at H
        have c3b0 : decide (x5_1 < (l0.length : Int)) = false := decide_eq_false c3
        clear c3
        obtain rfl := Option.some.inj H
        go_wp2
        go_ret
        exact ⟨by first | rfl | (simp; done) | (simp [*]; done), by repeat (first | exact Drawn0.refl _ | apply Drawn0.step)⟩
def tiltyardref08_Words.f  : Option (List ByteArray) := some (([(⟨#[98, 111, 111, 108]⟩ : ByteArray), (⟨#[101, 108, 115, 101]⟩ : ByteArray), (⟨#[101, 110, 116]⟩ : ByteArray), (⟨#[102, 97, 108, 115, 101]⟩ : ByteArray), (⟨#[102, 105, 120]⟩ : ByteArray), (⟨#[102, 110]⟩ : ByteArray), (⟨#[105, 102]⟩ : ByteArray), (⟨#[105, 110, 116]⟩ : ByteArray), (⟨#[108, 101, 116]⟩ : ByteArray), (⟨#[110, 117, 108, 108]⟩ : ByteArray), (⟨#[114, 101, 116, 117, 114, 110]⟩ : ByteArray), (⟨#[116, 114, 117, 101]⟩ : ByteArray), (⟨#[118, 97, 114]⟩ : ByteArray), (⟨#[119, 104, 105, 108, 101]⟩ : ByteArray)] : List ByteArray))
set_option maxHeartbeats 8000000 in
set_option maxRecDepth 100000 in
theorem tiltyardref08_Words.calls  (r : List ByteArray) (w : World) (h : tiltyardref08_Words.f  = some r) :
    Calls Tryd.prog 111 #[] w fun e w' => ∃ v0_ : Value, e = .returned (v0_) ∧ Kd.R Kd.string 9 w' w.heap.size (fun _ => True) v0_ r ∧ Below w.heap.size w w' := by
  have HB := Aside0.mk (Below.refl w.heap.size w)
  have H : (some (([(⟨#[98, 111, 111, 108]⟩ : ByteArray), (⟨#[101, 108, 115, 101]⟩ : ByteArray), (⟨#[101, 110, 116]⟩ : ByteArray), (⟨#[102, 97, 108, 115, 101]⟩ : ByteArray), (⟨#[102, 105, 120]⟩ : ByteArray), (⟨#[102, 110]⟩ : ByteArray), (⟨#[105, 102]⟩ : ByteArray), (⟨#[105, 110, 116]⟩ : ByteArray), (⟨#[108, 101, 116]⟩ : ByteArray), (⟨#[110, 117, 108, 108]⟩ : ByteArray), (⟨#[114, 101, 116, 117, 114, 110]⟩ : ByteArray), (⟨#[116, 114, 117, 101]⟩ : ByteArray), (⟨#[118, 97, 114]⟩ : ByteArray), (⟨#[119, 104, 105, 108, 101]⟩ : ByteArray)] : List ByteArray))) = some r := h
  clear h
  obtain ⟨y277, hy277⟩ : ∃ y_ : List ByteArray, y_ = (([(⟨#[98, 111, 111, 108]⟩ : ByteArray), (⟨#[101, 108, 115, 101]⟩ : ByteArray), (⟨#[101, 110, 116]⟩ : ByteArray), (⟨#[102, 97, 108, 115, 101]⟩ : ByteArray), (⟨#[102, 105, 120]⟩ : ByteArray), (⟨#[102, 110]⟩ : ByteArray), (⟨#[105, 102]⟩ : ByteArray), (⟨#[105, 110, 116]⟩ : ByteArray), (⟨#[108, 101, 116]⟩ : ByteArray), (⟨#[110, 117, 108, 108]⟩ : ByteArray), (⟨#[114, 101, 116, 117, 114, 110]⟩ : ByteArray), (⟨#[116, 114, 117, 101]⟩ : ByteArray), (⟨#[118, 97, 114]⟩ : ByteArray), (⟨#[119, 104, 105, 108, 101]⟩ : ByteArray)] : List ByteArray)) := ⟨_, rfl⟩
  replace H : (some y277) = some r := by first | (rw [hy277]; with_reducible exact H) | (have H2_ := (Option.bind_some _ _).symm.trans H; rw [hy277]; with_reducible exact H2_) | (have H2_ := (Option.bind_some _ _).symm.trans H; with_reducible exact H2_) | with_reducible exact H | (rw [hy277]; exact H) | exact H
  have Ny277 := Aside0.mk hy277
  clear hy277
  obtain rfl := Option.some.inj H
  go_enter Tryd.func111, Tryd.ntmps111
  go_wp2_with (first | ((with_reducible refine gate_dst (N := 1) rfl ?_); refine Kd.R_lit Kd.string _ 9 ?hg (N := 1) ?hd (xs := ([(⟨#[98, 111, 111, 108]⟩ : ByteArray), (⟨#[101, 108, 115, 101]⟩ : ByteArray), (⟨#[101, 110, 116]⟩ : ByteArray), (⟨#[102, 97, 108, 115, 101]⟩ : ByteArray), (⟨#[102, 105, 120]⟩ : ByteArray), (⟨#[102, 110]⟩ : ByteArray), (⟨#[105, 102]⟩ : ByteArray), (⟨#[105, 110, 116]⟩ : ByteArray), (⟨#[108, 101, 116]⟩ : ByteArray), (⟨#[110, 117, 108, 108]⟩ : ByteArray), (⟨#[114, 101, 116, 117, 114, 110]⟩ : ByteArray), (⟨#[116, 114, 117, 101]⟩ : ByteArray), (⟨#[118, 97, 114]⟩ : ByteArray), (⟨#[119, 104, 105, 108, 101]⟩ : ByteArray)] : List ByteArray)) (inner := [.string (⟨#[98, 111, 111, 108]⟩ : ByteArray), .string (⟨#[101, 108, 115, 101]⟩ : ByteArray), .string (⟨#[101, 110, 116]⟩ : ByteArray), .string (⟨#[102, 97, 108, 115, 101]⟩ : ByteArray), .string (⟨#[102, 105, 120]⟩ : ByteArray), .string (⟨#[102, 110]⟩ : ByteArray), .string (⟨#[105, 102]⟩ : ByteArray), .string (⟨#[105, 110, 116]⟩ : ByteArray), .string (⟨#[108, 101, 116]⟩ : ByteArray), .string (⟨#[110, 117, 108, 108]⟩ : ByteArray), .string (⟨#[114, 101, 116, 117, 114, 110]⟩ : ByteArray), .string (⟨#[116, 114, 117, 101]⟩ : ByteArray), .string (⟨#[118, 97, 114]⟩ : ByteArray), .string (⟨#[119, 104, 105, 108, 101]⟩ : ByteArray)]) (ok := fun _ => True) (okp := fun _ => True) ?hr ?hp (fun _ hk => hk) trivial (Below.refl _ _) (Nat.le_refl _) (by simp) ?_; (case hd => rfl); (case hg => rfl); (case hr => first | (go_simp; done) | (go_simp; rfl)); (case hp => exact (Reps.one (show Kd.M Kd.string _ _ _ (⟨#[98, 111, 111, 108]⟩ : ByteArray) [.string (⟨#[98, 111, 111, 108]⟩ : ByteArray)] from rfl) (Reps.one (show Kd.M Kd.string _ _ _ (⟨#[101, 108, 115, 101]⟩ : ByteArray) [.string (⟨#[101, 108, 115, 101]⟩ : ByteArray)] from rfl) (Reps.one (show Kd.M Kd.string _ _ _ (⟨#[101, 110, 116]⟩ : ByteArray) [.string (⟨#[101, 110, 116]⟩ : ByteArray)] from rfl) (Reps.one (show Kd.M Kd.string _ _ _ (⟨#[102, 97, 108, 115, 101]⟩ : ByteArray) [.string (⟨#[102, 97, 108, 115, 101]⟩ : ByteArray)] from rfl) (Reps.one (show Kd.M Kd.string _ _ _ (⟨#[102, 105, 120]⟩ : ByteArray) [.string (⟨#[102, 105, 120]⟩ : ByteArray)] from rfl) (Reps.one (show Kd.M Kd.string _ _ _ (⟨#[102, 110]⟩ : ByteArray) [.string (⟨#[102, 110]⟩ : ByteArray)] from rfl) (Reps.one (show Kd.M Kd.string _ _ _ (⟨#[105, 102]⟩ : ByteArray) [.string (⟨#[105, 102]⟩ : ByteArray)] from rfl) (Reps.one (show Kd.M Kd.string _ _ _ (⟨#[105, 110, 116]⟩ : ByteArray) [.string (⟨#[105, 110, 116]⟩ : ByteArray)] from rfl) (Reps.one (show Kd.M Kd.string _ _ _ (⟨#[108, 101, 116]⟩ : ByteArray) [.string (⟨#[108, 101, 116]⟩ : ByteArray)] from rfl) (Reps.one (show Kd.M Kd.string _ _ _ (⟨#[110, 117, 108, 108]⟩ : ByteArray) [.string (⟨#[110, 117, 108, 108]⟩ : ByteArray)] from rfl) (Reps.one (show Kd.M Kd.string _ _ _ (⟨#[114, 101, 116, 117, 114, 110]⟩ : ByteArray) [.string (⟨#[114, 101, 116, 117, 114, 110]⟩ : ByteArray)] from rfl) (Reps.one (show Kd.M Kd.string _ _ _ (⟨#[116, 114, 117, 101]⟩ : ByteArray) [.string (⟨#[116, 114, 117, 101]⟩ : ByteArray)] from rfl) (Reps.one (show Kd.M Kd.string _ _ _ (⟨#[118, 97, 114]⟩ : ByteArray) [.string (⟨#[118, 97, 114]⟩ : ByteArray)] from rfl) (Reps.one (show Kd.M Kd.string _ _ _ (⟨#[119, 104, 105, 108, 101]⟩ : ByteArray) [.string (⟨#[119, 104, 105, 108, 101]⟩ : ByteArray)] from rfl) (Reps.none _ _)))))))))))))))); intro v278 w1 ho2 hb hg_ hnew_; clear hg_ hnew_; (first | rw [← Ny277.out] at ho2 | (simp only [Int.reduceToNat] at ho2; rw [← Ny277.out] at ho2)); have n0_ := Aside0.mk (Kd.R_lower ho2 (below_size (by repeat (first | (with_reducible first | exact HB.out | apply below_alloc | apply pw_below_drewN | apply below_drew1) | exact HB.out)))); have n1_ := Aside0.mk (below_step (by repeat (first | (with_reducible first | exact HB.out | apply below_alloc | apply pw_below_drewN | apply below_drew1) | exact HB.out)) hb); clear HB; have HO279 := n0_; have HB := n1_; clear n0_ n1_; clear hb ho2))
  go_ret
  exact ⟨_, by first | rfl | (simp [errW_none, errW_some] <;> rfl) | (simp [*, errW_none, errW_some] <;> rfl), by (with_reducible repeat (first | apply Kd.R_alloc | apply Kd.R_drewN | apply Kd.R_drew)); exact HO279.out, by repeat (first | (with_reducible first | exact HB.out | apply below_alloc | apply pw_below_drewN | apply below_drew1) | exact HB.out)⟩
def tiltyardref08_Word.f (k : Nat) (a0 : ByteArray) : Option (Bool) := (tiltyardref08_Words.f).bind fun t280 => ((tiltyardref08_in.f k t280 a0).bind fun t283 => (some t283))
set_option maxHeartbeats 8000000 in
set_option maxRecDepth 100000 in
theorem tiltyardref08_Word.calls (k : Nat) (a0 : ByteArray) (r : Bool) (w : World) (h : tiltyardref08_Word.f k a0 = some r) :
    Calls Tryd.prog 105 #[.string a0] w fun e w' => e = .returned (.bool r) ∧ Below w.heap.size w w' := by
  have HB := Aside0.mk (Below.refl w.heap.size w)
  have H : ((tiltyardref08_Words.f).bind fun t280 => ((tiltyardref08_in.f k t280 a0).bind fun t283 => (some t283))) = some r := h
  clear h
  replace H := Option.bind_eq_some_iff.mp H
  obtain ⟨t280, A20, H⟩ := H
  replace H : ((tiltyardref08_in.f k t280 a0).bind fun t283 => (some t283)) = some r := H
  have A2 := Aside0.mk A20
  clear A20
  replace H := Option.bind_eq_some_iff.mp H
  obtain ⟨t283, A30, H⟩ := H
  replace H : (some t283) = some r := H
  have A3 := Aside0.mk A30
  clear A30
  obtain rfl := Option.some.inj H
  go_enter Tryd.func105, Tryd.ntmps105
  go_wp2_with (first | ((with_reducible refine gate_callee (f := 111) rfl ?_); refine goesL_ (some 3) rfl rfl Tryd.func111 (by kernel_rfl) rfl #[] rfl (by (try simp only [List.map_toArray, List.map_cons, List.map_nil]); first | done | rfl | (simp only [List.length_drop, List.length_take]; rfl)) ?_; (with_reducible refine (tiltyardref08_Words.calls  t280 _ A2.out).mono ?_); rintro e w4 ⟨v281, rfl, ho0, hb⟩; refine ⟨_, rfl, ?_⟩; have n0_ := Aside0.mk (Kd.R_lower ho0 (below_size (by repeat (first | (with_reducible first | exact HB.out | apply below_alloc | apply pw_below_drewN | apply below_drew1) | exact HB.out)))); have n1_ := Aside0.mk (below_step (by repeat (first | (with_reducible first | exact HB.out | apply below_alloc | apply pw_below_drewN | apply below_drew1) | exact HB.out)) hb); clear HB; have HO282 := n0_; have HB := n1_; clear n0_ n1_; (try clear hb); (try clear hb2); (try clear hk); (try clear hi); (try clear ho0); obtain ⟨Ao5, co5, eo5⟩ := Kd.R_slice HO282.out; subst eo5) | ((with_reducible refine gate_callee (f := 110) rfl ?_); refine goesL_ (some 5) rfl rfl Tryd.func110 (by kernel_rfl) rfl #[.slice Ao5 t280.length co5, .string a0] rfl (by (try simp only [List.map_toArray, List.map_cons, List.map_nil]); first | done | rfl | (simp only [List.length_drop, List.length_take]; rfl)) ?_; (with_reducible refine (tiltyardref08_in.calls k _ _ t280 a0 t283 _ ?side1 ?side2 A3.out).mono ?_); (case side1 => repeat (first | exact (Kd.R_reads' HO282.out).2.2 | (with_reducible refine Kd.C_alloc ?_ _) | (with_reducible refine Kd.C_drewN ?_ _) | (with_reducible refine Kd.C_drew ?_))); (case side2 => exact (Kd.R_reads' HO282.out).2.1); rintro e w' ⟨rfl, ⟨nd, rfl⟩⟩; refine ⟨_, rfl, ?_⟩))
  go_ret
  exact ⟨by first | rfl | (simp [errW_none, errW_some] <;> rfl) | (simp [*, errW_none, errW_some] <;> rfl), by repeat (first | (with_reducible first | exact HB.out | apply below_alloc | apply pw_below_drewN | apply below_drew1) | exact HB.out)⟩
def tiltyardref08_letter.f (a0 : Int) : Option (Bool) := if a0 ≥ 97 then (if a0 ≤ 122 then (some true) else (some (a0 == 95))) else (some (a0 == 95))
set_option maxHeartbeats 8000000 in
set_option maxRecDepth 100000 in
theorem tiltyardref08_letter.calls (a0 : Int) (r : Bool) (w : World) (h : tiltyardref08_letter.f a0 = some r) :
    Calls Tryd.prog 112 #[.int .u8 a0] w fun e w' => e = .returned (.bool r) ∧ Drawn0 w w' := by
  have H : (if a0 ≥ 97 then (if a0 ≤ 122 then (some true) else (some (a0 == 95))) else (some (a0 == 95))) = some r := h
  clear h
  by_cases c2 : a0 ≥ 97
  · rw [if_pos c2] at H
    have c2b0 : decide (97 ≤ a0) = true := decide_eq_true c2
    clear c2
    by_cases c3 : a0 ≤ 122
    · rw [if_pos c3] at H
      have c3b0 : decide (a0 ≤ 122) = true := decide_eq_true c3
      clear c3
      obtain rfl := Option.some.inj H
      go_enter Tryd.func112, Tryd.ntmps112
      go_wp2
      go_ret
      exact ⟨by first | rfl | (simp; done) | (simp [*]; done), by repeat (first | exact Drawn0.refl _ | apply Drawn0.step)⟩
    · rw [if_neg c3] at H
      have c3b0 : decide (a0 ≤ 122) = false := decide_eq_false c3
      clear c3
      obtain rfl := Option.some.inj H
      go_enter Tryd.func112, Tryd.ntmps112
      go_wp2
      go_ret
      exact ⟨by first | rfl | (simp; done) | (simp [*]; done), by repeat (first | exact Drawn0.refl _ | apply Drawn0.step)⟩
  · rw [if_neg c2] at H
    have c2b0 : decide (97 ≤ a0) = false := decide_eq_false c2
    clear c2
    obtain rfl := Option.some.inj H
    go_enter Tryd.func112, Tryd.ntmps112
    go_wp2
    go_ret
    exact ⟨by first | rfl | (simp; done) | (simp [*]; done), by repeat (first | exact Drawn0.refl _ | apply Drawn0.step)⟩
def tiltyardref08_digit.f (a0 : Int) : Option (Bool) := if a0 ≥ 48 then (some (decide (a0 ≤ 57))) else (some false)
set_option maxHeartbeats 8000000 in
set_option maxRecDepth 100000 in
theorem tiltyardref08_digit.calls (a0 : Int) (r : Bool) (w : World) (h : tiltyardref08_digit.f a0 = some r) :
    Calls Tryd.prog 113 #[.int .u8 a0] w fun e w' => e = .returned (.bool r) ∧ Drawn0 w w' := by
  have H : (if a0 ≥ 48 then (some (decide (a0 ≤ 57))) else (some false)) = some r := h
  clear h
  by_cases c2 : a0 ≥ 48
  · rw [if_pos c2] at H
    have c2b0 : decide (48 ≤ a0) = true := decide_eq_true c2
    clear c2
    obtain rfl := Option.some.inj H
    go_enter Tryd.func113, Tryd.ntmps113
    go_wp2
    go_ret
    exact ⟨by first | rfl | (simp; done) | (simp [*]; done), by repeat (first | exact Drawn0.refl _ | apply Drawn0.step)⟩
  · rw [if_neg c2] at H
    have c2b0 : decide (48 ≤ a0) = false := decide_eq_false c2
    clear c2
    obtain rfl := Option.some.inj H
    go_enter Tryd.func113, Tryd.ntmps113
    go_wp2
    go_ret
    exact ⟨by first | rfl | (simp; done) | (simp [*]; done), by repeat (first | exact Drawn0.refl _ | apply Drawn0.step)⟩
def tiltyardref08_letters.l0 : Nat → ByteArray → Int → Int → Option (Int)
  | 0, _, _, _ => none
  | k + 1, x0, x1, x5 => if (wrap64 (x1 + x5)) < (x0.size : Int) then (if 0 ≤ (wrap64 (x1 + x5)) then ((tiltyardref08_letter.f (bt x0 (wrap64 (x1 + x5)))).bind fun t284 => ((tiltyardref08_digit.f (bt x0 (wrap64 (x1 + x5)))).bind fun t285 => (if t284 = true then (if x5 = 0 then (tiltyardref08_letters.l0 k x0 x1 (wrap64 (x5 + 1))) else (tiltyardref08_letters.l0 k x0 x1 (wrap64 (x5 + 1)))) else (if t285 = true then (if x5 = 0 then (some x5) else (tiltyardref08_letters.l0 k x0 x1 (wrap64 (x5 + 1)))) else (some x5))))) else (none)) else (some x5)
def tiltyardref08_letters.f (k : Nat) (a0 : ByteArray) (a1 : Int) : Option (Int) := tiltyardref08_letters.l0 k a0 a1 0
set_option maxHeartbeats 8000000 in
set_option maxRecDepth 100000 in
theorem tiltyardref08_letters.calls (k : Nat) (a0 : ByteArray) (a1 : Int) (r : Int) (w : World) (h : tiltyardref08_letters.f k a0 a1 = some r) :
    Calls Tryd.prog 106 #[.string a0, .int .i64 a1] w fun e w' => e = .returned (.int .i64 r) ∧ Drawn0 w w' := by
  have H : (tiltyardref08_letters.l0 k a0 a1 0) = some r := h
  clear h
  have H' := Aside0.mk H
  clear H
  go_enter Tryd.func106, Tryd.ntmps106
  go_wp2
  go_loopg [5] k (fun kq v5 w' => ∃ (x5_1 : Int), v5 = .int .i64 x5_1 ∧ Aside0 (tiltyardref08_letters.l0 kq a0 a1 x5_1 = some r) ∧ Aside0 (kq ≤ k) ∧ Drawn0 w w')
  case atStart => exact ⟨(0), (by first | rfl | (simp; done) | (simp [*]; done)), H', ⟨Nat.le_refl _⟩, by repeat (first | exact Drawn0.refl _ | apply Drawn0.step)⟩
  case round =>
    clear H'
    try clear c1
    try clear p2
    obtain ⟨x5_1, rfl, HA, HK1, ⟨m1, rfl⟩⟩ := hrel
    cases gk with
    | zero => exact absurd HA.out (by simp [tiltyardref08_letters.l0])
    | succ k1 =>
      have H := HA.out
      clear HA
      simp only [tiltyardref08_letters.l0] at H
      by_cases c3 : (wrap64 (a1 + x5_1)) < (a0.size : Int)
      · rw [if_pos c3] at H
        have c3b0 : decide ((wrap64 (a1 + x5_1)) < (a0.size : Int)) = true := decide_eq_true c3
        clear c3
        obtain ⟨ji4, hji4⟩ : ∃ j_ : Int, (wrap64 (a1 + x5_1)) = j_ := ⟨_, rfl⟩
        replace H : (if 0 ≤ (ji4) then ((tiltyardref08_letter.f (bt a0 (ji4))).bind fun t284 => ((tiltyardref08_digit.f (bt a0 (ji4))).bind fun t285 => (if t284 = true then (if x5_1 = 0 then (tiltyardref08_letters.l0 k1 a0 a1 (wrap64 (x5_1 + 1))) else (tiltyardref08_letters.l0 k1 a0 a1 (wrap64 (x5_1 + 1)))) else (if t285 = true then (if x5_1 = 0 then (some x5_1) else (tiltyardref08_letters.l0 k1 a0 a1 (wrap64 (x5_1 + 1)))) else (some x5_1))))) else (none)) = some r := by first | (rw [hji4] at H; exact H) | (simp only [hji4] at H ⊢; exact H)
        (try rw [hji4] at c3b0)
        have hji4w : (IntKind.i64.wrap (a1 + x5_1)) = ji4 := (i64_w _).trans hji4
        by_cases c5 : 0 ≤ (ji4)
        · rw [if_pos c5] at H
          have c5b0 : decide (0 ≤ (ji4)) = true := decide_eq_true c5
          clear c5
          replace H := Option.bind_eq_some_iff.mp H
          obtain ⟨t284, A70, H⟩ := H
          replace H : ((tiltyardref08_digit.f (bt a0 (ji4))).bind fun t285 => (if t284 = true then (if x5_1 = 0 then (tiltyardref08_letters.l0 k1 a0 a1 (wrap64 (x5_1 + 1))) else (tiltyardref08_letters.l0 k1 a0 a1 (wrap64 (x5_1 + 1)))) else (if t285 = true then (if x5_1 = 0 then (some x5_1) else (tiltyardref08_letters.l0 k1 a0 a1 (wrap64 (x5_1 + 1)))) else (some x5_1)))) = some r := H
          have A7 := Aside0.mk A70
          clear A70
          replace H := Option.bind_eq_some_iff.mp H
          obtain ⟨t285, A90, H⟩ := H
          replace H : (if t284 = true then (if x5_1 = 0 then (tiltyardref08_letters.l0 k1 a0 a1 (wrap64 (x5_1 + 1))) else (tiltyardref08_letters.l0 k1 a0 a1 (wrap64 (x5_1 + 1)))) else (if t285 = true then (if x5_1 = 0 then (some x5_1) else (tiltyardref08_letters.l0 k1 a0 a1 (wrap64 (x5_1 + 1)))) else (some x5_1))) = some r := H
          have A9 := Aside0.mk A90
          clear A90
          by_cases c10 : t284 = true
          · subst c10
            have H1 : (if x5_1 = 0 then (tiltyardref08_letters.l0 k1 a0 a1 (wrap64 (x5_1 + 1))) else (tiltyardref08_letters.l0 k1 a0 a1 (wrap64 (x5_1 + 1)))) = some r := by rw [if_pos rfl] at H; exact H
            clear H
            have H := H1
            clear H1
            by_cases c11 : x5_1 = 0
            · rw [if_pos c11] at H
              have c11b0 : (x5_1 == 0) = true := beq_iff_eq.mpr c11
              have c11b1 : (x5_1 != 0) = false := bne_eq_false_iff_eq.mpr c11
              clear c11
              have H' := Aside0.mk H
              clear H
              have p6 : 0 ≤ ((ji4) : Int) := of_decide_eq_true (by first | (with_reducible assumption) | assumption)
              have q6 : (ji4) < (a0.size : Int) := of_decide_eq_true (by first | (with_reducible assumption) | assumption)
              have hx6 := bt_at a0 (ji4)
              replace p6 := eq_true p6
              replace q6 := eq_true q6
              go_wp2_with (first | ((with_reducible refine gate_callee (f := 112) rfl ?_); refine goesL_ (some 19) rfl rfl Tryd.func112 (by kernel_rfl) rfl #[.int .u8 (bt a0 (ji4))] rfl (by (try simp only [List.map_toArray, List.map_cons, List.map_nil]); first | done | (simp only [hji4]; rfl) | rfl | (simp only [List.length_drop, List.length_take]; rfl)) ?_; (with_reducible refine (tiltyardref08_letter.calls (bt a0 (ji4)) true _ A7.out).mono ?_); rintro e w' ⟨rfl, ⟨nd, rfl⟩⟩; refine ⟨_, rfl, ?_⟩; have p8 : 0 ≤ ((ji4) : Int) := of_decide_eq_true (by first | (with_reducible assumption) | assumption); have q8 : (ji4) < (a0.size : Int) := of_decide_eq_true (by first | (with_reducible assumption) | assumption); have hx8 := bt_at a0 (ji4); replace p8 := eq_true p8; replace q8 := eq_true q8) | ((with_reducible refine gate_callee (f := 113) rfl ?_); refine goesL_ (some 25) rfl rfl Tryd.func113 (by kernel_rfl) rfl #[.int .u8 (bt a0 (ji4))] rfl (by (try simp only [List.map_toArray, List.map_cons, List.map_nil]); first | done | (simp only [hji4]; rfl) | rfl | (simp only [List.length_drop, List.length_take]; rfl)) ?_; (with_reducible refine (tiltyardref08_digit.calls (bt a0 (ji4)) t285 _ A9.out).mono ?_); rintro e w' ⟨rfl, ⟨nd, rfl⟩⟩; refine ⟨_, rfl, ?_⟩))
              go_roundg k1
              case measure => have := HK1.out; omega
              case rel => exact ⟨(wrap64 (x5_1 + 1)), (by first | rfl | (simp; done) | (simp [*]; done)), H', ⟨by have := HK1.out; omega⟩, by repeat (first | exact Drawn0.refl _ | apply Drawn0.step)⟩
            · rw [if_neg c11] at H
              have c11b0 : (x5_1 == 0) = false := beq_eq_false_iff_ne.mpr c11
              have c11b1 : (x5_1 != 0) = true := bne_iff_ne.mpr c11
              have H' := Aside0.mk H
              clear H
              have p6 : 0 ≤ ((ji4) : Int) := of_decide_eq_true (by first | (with_reducible assumption) | assumption)
              have q6 : (ji4) < (a0.size : Int) := of_decide_eq_true (by first | (with_reducible assumption) | assumption)
              have hx6 := bt_at a0 (ji4)
              replace p6 := eq_true p6
              replace q6 := eq_true q6
              go_wp2_with (first | ((with_reducible refine gate_callee (f := 112) rfl ?_); refine goesL_ (some 19) rfl rfl Tryd.func112 (by kernel_rfl) rfl #[.int .u8 (bt a0 (ji4))] rfl (by (try simp only [List.map_toArray, List.map_cons, List.map_nil]); first | done | (simp only [hji4]; rfl) | rfl | (simp only [List.length_drop, List.length_take]; rfl)) ?_; (with_reducible refine (tiltyardref08_letter.calls (bt a0 (ji4)) true _ A7.out).mono ?_); rintro e w' ⟨rfl, ⟨nd, rfl⟩⟩; refine ⟨_, rfl, ?_⟩; have p8 : 0 ≤ ((ji4) : Int) := of_decide_eq_true (by first | (with_reducible assumption) | assumption); have q8 : (ji4) < (a0.size : Int) := of_decide_eq_true (by first | (with_reducible assumption) | assumption); have hx8 := bt_at a0 (ji4); replace p8 := eq_true p8; replace q8 := eq_true q8) | ((with_reducible refine gate_callee (f := 113) rfl ?_); refine goesL_ (some 25) rfl rfl Tryd.func113 (by kernel_rfl) rfl #[.int .u8 (bt a0 (ji4))] rfl (by (try simp only [List.map_toArray, List.map_cons, List.map_nil]); first | done | (simp only [hji4]; rfl) | rfl | (simp only [List.length_drop, List.length_take]; rfl)) ?_; (with_reducible refine (tiltyardref08_digit.calls (bt a0 (ji4)) t285 _ A9.out).mono ?_); rintro e w' ⟨rfl, ⟨nd, rfl⟩⟩; refine ⟨_, rfl, ?_⟩))
              go_roundg k1
              case measure => have := HK1.out; omega
              case rel => exact ⟨(wrap64 (x5_1 + 1)), (by first | rfl | (simp; done) | (simp [*]; done)), H', ⟨by have := HK1.out; omega⟩, by repeat (first | exact Drawn0.refl _ | apply Drawn0.step)⟩
          · replace c10 := Bool.eq_false_iff.mpr c10
            subst c10
            have H1 : (if t285 = true then (if x5_1 = 0 then (some x5_1) else (tiltyardref08_letters.l0 k1 a0 a1 (wrap64 (x5_1 + 1)))) else (some x5_1)) = some r := by rw [if_neg (show ¬ (false = true) by decide)] at H; exact H
            clear H
            have H := H1
            clear H1
            by_cases c12 : t285 = true
            · subst c12
              have H1 : (if x5_1 = 0 then (some x5_1) else (tiltyardref08_letters.l0 k1 a0 a1 (wrap64 (x5_1 + 1)))) = some r := by rw [if_pos rfl] at H; exact H
              clear H
              have H := H1
              clear H1
              by_cases c13 : x5_1 = 0
              · rw [if_pos c13] at H
                have c13b0 : (x5_1 == 0) = true := beq_iff_eq.mpr c13
                have c13b1 : (x5_1 != 0) = false := bne_eq_false_iff_eq.mpr c13
                clear c13
                obtain rfl := Option.some.inj H
                have p6 : 0 ≤ ((ji4) : Int) := of_decide_eq_true (by first | (with_reducible assumption) | assumption)
                have q6 : (ji4) < (a0.size : Int) := of_decide_eq_true (by first | (with_reducible assumption) | assumption)
                have hx6 := bt_at a0 (ji4)
                replace p6 := eq_true p6
                replace q6 := eq_true q6
                go_wp2_with (first | ((with_reducible refine gate_callee (f := 112) rfl ?_); refine goesL_ (some 19) rfl rfl Tryd.func112 (by kernel_rfl) rfl #[.int .u8 (bt a0 (ji4))] rfl (by (try simp only [List.map_toArray, List.map_cons, List.map_nil]); first | done | (simp only [hji4]; rfl) | rfl | (simp only [List.length_drop, List.length_take]; rfl)) ?_; (with_reducible refine (tiltyardref08_letter.calls (bt a0 (ji4)) false _ A7.out).mono ?_); rintro e w' ⟨rfl, ⟨nd, rfl⟩⟩; refine ⟨_, rfl, ?_⟩; have p8 : 0 ≤ ((ji4) : Int) := of_decide_eq_true (by first | (with_reducible assumption) | assumption); have q8 : (ji4) < (a0.size : Int) := of_decide_eq_true (by first | (with_reducible assumption) | assumption); have hx8 := bt_at a0 (ji4); replace p8 := eq_true p8; replace q8 := eq_true q8) | ((with_reducible refine gate_callee (f := 113) rfl ?_); refine goesL_ (some 25) rfl rfl Tryd.func113 (by kernel_rfl) rfl #[.int .u8 (bt a0 (ji4))] rfl (by (try simp only [List.map_toArray, List.map_cons, List.map_nil]); first | done | (simp only [hji4]; rfl) | rfl | (simp only [List.length_drop, List.length_take]; rfl)) ?_; (with_reducible refine (tiltyardref08_digit.calls (bt a0 (ji4)) true _ A9.out).mono ?_); rintro e w' ⟨rfl, ⟨nd, rfl⟩⟩; refine ⟨_, rfl, ?_⟩))
                go_ret
                exact ⟨by first | rfl | (simp; done) | (simp only [← hji4] <;> (first | rfl | simp)) | (simp [*]; done), by repeat (first | exact Drawn0.refl _ | apply Drawn0.step)⟩
              · rw [if_neg c13] at H
                have c13b0 : (x5_1 == 0) = false := beq_eq_false_iff_ne.mpr c13
                have c13b1 : (x5_1 != 0) = true := bne_iff_ne.mpr c13
                have H' := Aside0.mk H
                clear H
                have p6 : 0 ≤ ((ji4) : Int) := of_decide_eq_true (by first | (with_reducible assumption) | assumption)
                have q6 : (ji4) < (a0.size : Int) := of_decide_eq_true (by first | (with_reducible assumption) | assumption)
                have hx6 := bt_at a0 (ji4)
                replace p6 := eq_true p6
                replace q6 := eq_true q6
                go_wp2_with (first | ((with_reducible refine gate_callee (f := 112) rfl ?_); refine goesL_ (some 19) rfl rfl Tryd.func112 (by kernel_rfl) rfl #[.int .u8 (bt a0 (ji4))] rfl (by (try simp only [List.map_toArray, List.map_cons, List.map_nil]); first | done | (simp only [hji4]; rfl) | rfl | (simp only [List.length_drop, List.length_take]; rfl)) ?_; (with_reducible refine (tiltyardref08_letter.calls (bt a0 (ji4)) false _ A7.out).mono ?_); rintro e w' ⟨rfl, ⟨nd, rfl⟩⟩; refine ⟨_, rfl, ?_⟩; have p8 : 0 ≤ ((ji4) : Int) := of_decide_eq_true (by first | (with_reducible assumption) | assumption); have q8 : (ji4) < (a0.size : Int) := of_decide_eq_true (by first | (with_reducible assumption) | assumption); have hx8 := bt_at a0 (ji4); replace p8 := eq_true p8; replace q8 := eq_true q8) | ((with_reducible refine gate_callee (f := 113) rfl ?_); refine goesL_ (some 25) rfl rfl Tryd.func113 (by kernel_rfl) rfl #[.int .u8 (bt a0 (ji4))] rfl (by (try simp only [List.map_toArray, List.map_cons, List.map_nil]); first | done | (simp only [hji4]; rfl) | rfl | (simp only [List.length_drop, List.length_take]; rfl)) ?_; (with_reducible refine (tiltyardref08_digit.calls (bt a0 (ji4)) true _ A9.out).mono ?_); rintro e w' ⟨rfl, ⟨nd, rfl⟩⟩; refine ⟨_, rfl, ?_⟩))
                go_roundg k1
                case measure => have := HK1.out; omega
                case rel => exact ⟨(wrap64 (x5_1 + 1)), (by first | rfl | (simp; done) | (simp [*]; done)), H', ⟨by have := HK1.out; omega⟩, by repeat (first | exact Drawn0.refl _ | apply Drawn0.step)⟩
            · replace c12 := Bool.eq_false_iff.mpr c12
              subst c12
              have H1 : (some x5_1) = some r := by rw [if_neg (show ¬ (false = true) by decide)] at H; exact H
              clear H
              have H := H1
              clear H1
              obtain rfl := Option.some.inj H
              have p6 : 0 ≤ ((ji4) : Int) := of_decide_eq_true (by first | (with_reducible assumption) | assumption)
              have q6 : (ji4) < (a0.size : Int) := of_decide_eq_true (by first | (with_reducible assumption) | assumption)
              have hx6 := bt_at a0 (ji4)
              replace p6 := eq_true p6
              replace q6 := eq_true q6
              go_wp2_with (first | ((with_reducible refine gate_callee (f := 112) rfl ?_); refine goesL_ (some 19) rfl rfl Tryd.func112 (by kernel_rfl) rfl #[.int .u8 (bt a0 (ji4))] rfl (by (try simp only [List.map_toArray, List.map_cons, List.map_nil]); first | done | (simp only [hji4]; rfl) | rfl | (simp only [List.length_drop, List.length_take]; rfl)) ?_; (with_reducible refine (tiltyardref08_letter.calls (bt a0 (ji4)) false _ A7.out).mono ?_); rintro e w' ⟨rfl, ⟨nd, rfl⟩⟩; refine ⟨_, rfl, ?_⟩; have p8 : 0 ≤ ((ji4) : Int) := of_decide_eq_true (by first | (with_reducible assumption) | assumption); have q8 : (ji4) < (a0.size : Int) := of_decide_eq_true (by first | (with_reducible assumption) | assumption); have hx8 := bt_at a0 (ji4); replace p8 := eq_true p8; replace q8 := eq_true q8) | ((with_reducible refine gate_callee (f := 113) rfl ?_); refine goesL_ (some 25) rfl rfl Tryd.func113 (by kernel_rfl) rfl #[.int .u8 (bt a0 (ji4))] rfl (by (try simp only [List.map_toArray, List.map_cons, List.map_nil]); first | done | (simp only [hji4]; rfl) | rfl | (simp only [List.length_drop, List.length_take]; rfl)) ?_; (with_reducible refine (tiltyardref08_digit.calls (bt a0 (ji4)) false _ A9.out).mono ?_); rintro e w' ⟨rfl, ⟨nd, rfl⟩⟩; refine ⟨_, rfl, ?_⟩))
              go_ret
              exact ⟨by first | rfl | (simp; done) | (simp only [← hji4] <;> (first | rfl | simp)) | (simp [*]; done), by repeat (first | exact Drawn0.refl _ | apply Drawn0.step)⟩
        · rw [if_neg c5] at H
          exact absurd H (by simp)
      · rw [if_neg c3] at H
        have c3b0 : decide ((wrap64 (a1 + x5_1)) < (a0.size : Int)) = false := decide_eq_false c3
        clear c3
        obtain rfl := Option.some.inj H
        go_wp2
        go_ret
        exact ⟨by first | rfl | (simp; done) | (simp [*]; done), by repeat (first | exact Drawn0.refl _ | apply Drawn0.step)⟩
def tiltyardref08_Name.f (k : Nat) (a0 : ByteArray) : Option (Bool) := (tiltyardref08_Word.f k a0).bind fun t286 => ((tiltyardref08_letters.f k a0 0).bind fun t287 => (if t286 = true then (some false) else (if t287 = (a0.size : Int) then (if t287 ≥ 1 then (some (decide (t287 ≤ 24))) else (some false)) else (some false))))
set_option maxHeartbeats 8000000 in
set_option maxRecDepth 100000 in
theorem tiltyardref08_Name.calls (k : Nat) (a0 : ByteArray) (r : Bool) (w : World) (h : tiltyardref08_Name.f k a0 = some r) :
    Calls Tryd.prog 88 #[.string a0] w fun e w' => e = .returned (.bool r) ∧ Below w.heap.size w w' := by
  have HB := Aside0.mk (Below.refl w.heap.size w)
  have H : ((tiltyardref08_Word.f k a0).bind fun t286 => ((tiltyardref08_letters.f k a0 0).bind fun t287 => (if t286 = true then (some false) else (if t287 = (a0.size : Int) then (if t287 ≥ 1 then (some (decide (t287 ≤ 24))) else (some false)) else (some false))))) = some r := h
  clear h
  replace H := Option.bind_eq_some_iff.mp H
  obtain ⟨t286, A20, H⟩ := H
  replace H : ((tiltyardref08_letters.f k a0 0).bind fun t287 => (if t286 = true then (some false) else (if t287 = (a0.size : Int) then (if t287 ≥ 1 then (some (decide (t287 ≤ 24))) else (some false)) else (some false)))) = some r := H
  have A2 := Aside0.mk A20
  clear A20
  replace H := Option.bind_eq_some_iff.mp H
  obtain ⟨t287, A30, H⟩ := H
  replace H : (if t286 = true then (some false) else (if t287 = (a0.size : Int) then (if t287 ≥ 1 then (some (decide (t287 ≤ 24))) else (some false)) else (some false))) = some r := H
  have A3 := Aside0.mk A30
  clear A30
  by_cases c4 : t286 = true
  · subst c4
    have H1 : (some false) = some r := by rw [if_pos rfl] at H; exact H
    clear H
    have H := H1
    clear H1
    obtain rfl := Option.some.inj H
    go_enter Tryd.func88, Tryd.ntmps88
    go_wp2_with (first | ((with_reducible refine gate_callee (f := 105) rfl ?_); refine goesL_ (some 6) rfl rfl Tryd.func105 (by kernel_rfl) rfl #[.string a0] rfl (by (try simp only [List.map_toArray, List.map_cons, List.map_nil]); first | done | rfl | (simp only [List.length_drop, List.length_take]; rfl)) ?_; (with_reducible refine (tiltyardref08_Word.calls k a0 true _ A2.out).mono ?_); rintro e w5 ⟨rfl, hb⟩; refine ⟨_, rfl, ?_⟩; have n0_ := Aside0.mk (below_step (by repeat (first | (with_reducible first | exact HB.out | apply below_alloc | apply pw_below_drewN | apply below_drew1) | exact HB.out)) hb); clear HB; have HB := n0_; clear n0_; (try clear hb); (try clear hb2); (try clear hk); (try clear hi)) | ((with_reducible refine gate_callee (f := 106) rfl ?_); refine goesL_ (some 8) rfl rfl Tryd.func106 (by kernel_rfl) rfl #[.string a0, .int .i64 0] rfl (by (try simp only [List.map_toArray, List.map_cons, List.map_nil]); first | done | rfl | (simp only [List.length_drop, List.length_take]; rfl)) ?_; (with_reducible refine (tiltyardref08_letters.calls k a0 0 t287 _ A3.out).mono ?_); rintro e w' ⟨rfl, ⟨nd, rfl⟩⟩; refine ⟨_, rfl, ?_⟩))
    go_ret
    exact ⟨by first | rfl | (simp [errW_none, errW_some] <;> rfl) | (simp [*, errW_none, errW_some] <;> rfl), by repeat (first | (with_reducible first | exact HB.out | apply below_alloc | apply pw_below_drewN | apply below_drew1) | exact HB.out)⟩
  · replace c4 := Bool.eq_false_iff.mpr c4
    subst c4
    have H1 : (if t287 = (a0.size : Int) then (if t287 ≥ 1 then (some (decide (t287 ≤ 24))) else (some false)) else (some false)) = some r := by rw [if_neg (show ¬ (false = true) by decide)] at H; exact H
    clear H
    have H := H1
    clear H1
    by_cases c6 : t287 = (a0.size : Int)
    · rw [if_pos c6] at H
      have c6b0 : (t287 == (a0.size : Int)) = true := beq_iff_eq.mpr c6
      have c6b1 : (t287 != (a0.size : Int)) = false := bne_eq_false_iff_eq.mpr c6
      clear c6
      by_cases c7 : t287 ≥ 1
      · rw [if_pos c7] at H
        have c7b0 : decide (1 ≤ t287) = true := decide_eq_true c7
        clear c7
        obtain rfl := Option.some.inj H
        go_enter Tryd.func88, Tryd.ntmps88
        go_wp2_with (first | ((with_reducible refine gate_callee (f := 105) rfl ?_); refine goesL_ (some 6) rfl rfl Tryd.func105 (by kernel_rfl) rfl #[.string a0] rfl (by (try simp only [List.map_toArray, List.map_cons, List.map_nil]); first | done | rfl | (simp only [List.length_drop, List.length_take]; rfl)) ?_; (with_reducible refine (tiltyardref08_Word.calls k a0 false _ A2.out).mono ?_); rintro e w8 ⟨rfl, hb⟩; refine ⟨_, rfl, ?_⟩; have n0_ := Aside0.mk (below_step (by repeat (first | (with_reducible first | exact HB.out | apply below_alloc | apply pw_below_drewN | apply below_drew1) | exact HB.out)) hb); clear HB; have HB := n0_; clear n0_; (try clear hb); (try clear hb2); (try clear hk); (try clear hi)) | ((with_reducible refine gate_callee (f := 106) rfl ?_); refine goesL_ (some 8) rfl rfl Tryd.func106 (by kernel_rfl) rfl #[.string a0, .int .i64 0] rfl (by (try simp only [List.map_toArray, List.map_cons, List.map_nil]); first | done | rfl | (simp only [List.length_drop, List.length_take]; rfl)) ?_; (with_reducible refine (tiltyardref08_letters.calls k a0 0 t287 _ A3.out).mono ?_); rintro e w' ⟨rfl, ⟨nd, rfl⟩⟩; refine ⟨_, rfl, ?_⟩))
        go_ret
        exact ⟨by first | rfl | (simp [errW_none, errW_some] <;> rfl) | (simp [*, errW_none, errW_some] <;> rfl), by repeat (first | (with_reducible first | exact HB.out | apply below_alloc | apply pw_below_drewN | apply below_drew1) | exact HB.out)⟩
      · rw [if_neg c7] at H
        have c7b0 : decide (1 ≤ t287) = false := decide_eq_false c7
        clear c7
        obtain rfl := Option.some.inj H
        go_enter Tryd.func88, Tryd.ntmps88
        go_wp2_with (first | ((with_reducible refine gate_callee (f := 105) rfl ?_); refine goesL_ (some 6) rfl rfl Tryd.func105 (by kernel_rfl) rfl #[.string a0] rfl (by (try simp only [List.map_toArray, List.map_cons, List.map_nil]); first | done | rfl | (simp only [List.length_drop, List.length_take]; rfl)) ?_; (with_reducible refine (tiltyardref08_Word.calls k a0 false _ A2.out).mono ?_); rintro e w9 ⟨rfl, hb⟩; refine ⟨_, rfl, ?_⟩; have n0_ := Aside0.mk (below_step (by repeat (first | (with_reducible first | exact HB.out | apply below_alloc | apply pw_below_drewN | apply below_drew1) | exact HB.out)) hb); clear HB; have HB := n0_; clear n0_; (try clear hb); (try clear hb2); (try clear hk); (try clear hi)) | ((with_reducible refine gate_callee (f := 106) rfl ?_); refine goesL_ (some 8) rfl rfl Tryd.func106 (by kernel_rfl) rfl #[.string a0, .int .i64 0] rfl (by (try simp only [List.map_toArray, List.map_cons, List.map_nil]); first | done | rfl | (simp only [List.length_drop, List.length_take]; rfl)) ?_; (with_reducible refine (tiltyardref08_letters.calls k a0 0 t287 _ A3.out).mono ?_); rintro e w' ⟨rfl, ⟨nd, rfl⟩⟩; refine ⟨_, rfl, ?_⟩))
        go_ret
        exact ⟨by first | rfl | (simp [errW_none, errW_some] <;> rfl) | (simp [*, errW_none, errW_some] <;> rfl), by repeat (first | (with_reducible first | exact HB.out | apply below_alloc | apply pw_below_drewN | apply below_drew1) | exact HB.out)⟩
    · rw [if_neg c6] at H
      have c6b0 : (t287 == (a0.size : Int)) = false := beq_eq_false_iff_ne.mpr c6
      have c6b1 : (t287 != (a0.size : Int)) = true := bne_iff_ne.mpr c6
      obtain rfl := Option.some.inj H
      go_enter Tryd.func88, Tryd.ntmps88
      go_wp2_with (first | ((with_reducible refine gate_callee (f := 105) rfl ?_); refine goesL_ (some 6) rfl rfl Tryd.func105 (by kernel_rfl) rfl #[.string a0] rfl (by (try simp only [List.map_toArray, List.map_cons, List.map_nil]); first | done | rfl | (simp only [List.length_drop, List.length_take]; rfl)) ?_; (with_reducible refine (tiltyardref08_Word.calls k a0 false _ A2.out).mono ?_); rintro e w10 ⟨rfl, hb⟩; refine ⟨_, rfl, ?_⟩; have n0_ := Aside0.mk (below_step (by repeat (first | (with_reducible first | exact HB.out | apply below_alloc | apply pw_below_drewN | apply below_drew1) | exact HB.out)) hb); clear HB; have HB := n0_; clear n0_; (try clear hb); (try clear hb2); (try clear hk); (try clear hi)) | ((with_reducible refine gate_callee (f := 106) rfl ?_); refine goesL_ (some 8) rfl rfl Tryd.func106 (by kernel_rfl) rfl #[.string a0, .int .i64 0] rfl (by (try simp only [List.map_toArray, List.map_cons, List.map_nil]); first | done | rfl | (simp only [List.length_drop, List.length_take]; rfl)) ?_; (with_reducible refine (tiltyardref08_letters.calls k a0 0 t287 _ A3.out).mono ?_); rintro e w' ⟨rfl, ⟨nd, rfl⟩⟩; refine ⟨_, rfl, ?_⟩))
      go_ret
      exact ⟨by first | rfl | (simp [errW_none, errW_some] <;> rfl) | (simp [*, errW_none, errW_some] <;> rfl), by repeat (first | (with_reducible first | exact HB.out | apply below_alloc | apply pw_below_drewN | apply below_drew1) | exact HB.out)⟩
end Go.Proofs.YteidgpaakoeefaaDoor.PIm
namespace Go.Proofs.YteidgpaakoeefaaDoor
open Go.RowKit Go.Proofs.YteidgpaakoeefaaDoorW.PrintWords Go.Proofs.YteidgpaakoeefaaDoorW.PrintLast Go.Proofs.YteidgpaakoeefaaDoorW.PrintMore
set_option linter.unusedVariables false
set_option linter.unusedSimpArgs false
open PIm
theorem w64_small {x : Int} (h0 : -9223372036854775808 ≤ x) (h1 : x ≤ 9223372036854775807) : wrap64 x = x := by
  unfold wrap64; omega
def Ev {α : Type} (f : Nat → Option α) (v : α) : Prop := ∃ k0, ∀ k, k0 ≤ k → f k = some v
theorem Ev.step {α : Type} {f g : Nat → Option α} {v : α} (h : Ev g v) (e : ∀ k, f (k + 1) = g k) : Ev f v := by
  obtain ⟨k0, h⟩ := h
  refine ⟨k0 + 1, fun k hk => ?_⟩
  obtain ⟨k, rfl⟩ : ∃ q, k = q + 1 := ⟨k - 1, by omega⟩
  rw [e]; exact h k (by omega)
theorem Ev.val {α : Type} {f : Nat → Option α} {v : α} (e : ∀ k, f (k + 1) = some v) : Ev f v := Ev.step (g := fun _ => some v) ⟨0, fun _ _ => rfl⟩ e
theorem Ev.bind {α β : Type} {f : Nat → Option α} {g : Nat → α → Option β} {a : α} {v : β} (h : Ev f a) (h2 : Ev (fun k => g k a) v) : Ev (fun k => (f k).bind (g k)) v := by
  obtain ⟨k1, h1⟩ := h
  obtain ⟨k2, h2⟩ := h2
  refine ⟨max k1 k2, fun k hk => ?_⟩
  show (f k).bind (g k) = _
  rw [h1 k (by omega)]
  exact h2 k (by omega)
theorem Ev.const {α : Type} (v : α) : Ev (fun _ => some v) v := ⟨0, fun _ _ => rfl⟩
theorem Ev.congr {α : Type} {f g : Nat → Option α} {v : α} (h : Ev g v) (e : ∀ k, f k = g k) : Ev f v := by
  obtain ⟨k0, h⟩ := h
  exact ⟨k0, fun k hk => (e k).trans (h k hk)⟩
theorem bt_at {x : ByteArray} {i : Nat} (h : i < x.size) : Go.Proofs.YteidgpaakoeefaaDoorW.PrintWords.bt x (i : Int) = ((x[i]).toNat : Int) := by
  unfold Go.Proofs.YteidgpaakoeefaaDoorW.PrintWords.bt
  rw [dif_pos (by simpa using h)]
  rfl
theorem next64 {i : Nat} (h : i < 1000000) : wrap64 ((i : Int) + 1) = ((i + 1 : Nat) : Int) := by rw [w64_small (by omega) (by omega)]; omega
theorem in_ev (L : List ByteArray) (s : ByteArray) (hL : L.length ≤ 1000) : ∀ (m i : Nat), i + m = L.length →
    Ev (fun k => tiltyardref08_in.l0 k L s (i : Int)) (decide (s.data.toList ∈ (L.drop i).map (·.data.toList)))
  | 0, i, h => Ev.val (fun k => by rw [tiltyardref08_in.l0, if_neg (by omega), List.drop_of_length_le (by omega)]; rfl)
  | m + 1, i, h => by
    have IH := in_ev L s hL m (i + 1) (by omega)
    have hi : i < L.length := by omega
    have hr : (rdOf ByteArray.empty L (i : Int)) = L[i] := by
      unfold rdOf
      simp only [Int.toNat_natCast, List.getD_eq_getElem?_getD]
      rw [List.getElem?_eq_getElem hi]; rfl
    have hd : L.drop i = L[i] :: L.drop (i + 1) := List.drop_eq_getElem_cons hi
    rw [hd, List.map_cons]
    by_cases hq : L[i].data.toList = s.data.toList
    · refine Ev.val (fun k => ?_)
      rw [tiltyardref08_in.l0, if_pos (by omega), if_pos (by omega), hr, if_pos (by rw [Lib.toList_data, Lib.toList_data]; exact hq)]
      rw [decide_eq_true (by rw [hq]; exact List.mem_cons_self)]
    · rw [show (decide (s.data.toList ∈ L[i].data.toList :: (L.drop (i + 1)).map (·.data.toList))) = decide (s.data.toList ∈ (L.drop (i + 1)).map (·.data.toList)) by
        rw [decide_eq_decide, List.mem_cons]
        exact ⟨fun g => g.resolve_left (fun e => hq e.symm), Or.inr⟩]
      refine Ev.step IH (fun k => ?_)
      rw [tiltyardref08_in.l0, if_pos (by omega), if_pos (by omega), hr, if_neg (by rw [Lib.toList_data, Lib.toList_data]; exact hq), next64 (by omega)]
theorem word_ev (s : ByteArray) : Ev (fun k => tiltyardref08_Word.f k s) (wordL s.data.toList) := by
  unfold tiltyardref08_Word.f tiltyardref08_Words.f tiltyardref08_in.f
  simp only [Option.bind_some]
  refine Ev.bind ?_ (Ev.const _)
  exact in_ev _ s (by simp) _ 0 (by simp; rfl)
theorem rletter_f (c : UInt8) : tiltyardref08_letter.f (c.toNat : Int) = some (letC c) := by
  unfold tiltyardref08_letter.f letC
  (repeat' split) <;> (refine congrArg some ?_; rw [Bool.eq_iff_iff]; simp; omega)
theorem rdigit_f (c : UInt8) : tiltyardref08_digit.f (c.toNat : Int) = some (digC c) := by
  unfold tiltyardref08_digit.f digC
  (repeat' split) <;> (refine congrArg some ?_; rw [Bool.eq_iff_iff]; simp; omega)
def letN : List UInt8 → Nat
  | [] => 0
  | c :: r => if letC c then lenW nameC (c :: r) else 0
theorem letters_ev (s : ByteArray) (hs : s.size ≤ 9223372036854775807) (p : Nat) : ∀ (m n : Nat), p + n + m = s.size →
    Ev (fun k => tiltyardref08_letters.l0 k s (p : Int) (n : Int)) ((if n = 0 then letN (s.data.toList.drop p) else n + lenW nameC (s.data.toList.drop (p + n)) : Nat) : Int)
  | 0, n, h => by
    have hd : s.data.toList.drop (p + n) = [] := List.drop_of_length_le (by rw [← Lib.size_eq]; omega)
    have e : (if n = 0 then letN (s.data.toList.drop p) else n + lenW nameC (s.data.toList.drop (p + n))) = n := by
      split
      · next h0 => subst h0; rw [Nat.add_zero] at hd; rw [hd]; rfl
      · rw [hd]; rfl
    rw [e]
    refine Ev.val (fun k => ?_)
    have hw : wrap64 ((p : Int) + (n : Int)) = ((p + n : Nat) : Int) := by rw [w64_small (by omega) (by omega)]; omega
    rw [tiltyardref08_letters.l0, hw, if_neg (by omega)]
  | m + 1, n, h => by
    have IH := letters_ev s hs p m (n + 1) (by omega)
    rw [if_neg (by omega)] at IH
    have hlt : p + n < s.size := by omega
    have hd := drop_cons hlt
    have hw : wrap64 ((p : Int) + (n : Int)) = ((p + n : Nat) : Int) := by rw [w64_small (by omega) (by omega)]; omega
    have hw1 : wrap64 ((n : Int) + 1) = ((n + 1 : Nat) : Int) := by rw [w64_small (by omega) (by omega)]; omega
    have hun : ∀ k, tiltyardref08_letters.l0 (k + 1) s (p : Int) (n : Int) = (if letC s[p + n] = true then (if (n : Int) = 0 then tiltyardref08_letters.l0 k s (p : Int) ((n + 1 : Nat) : Int) else tiltyardref08_letters.l0 k s (p : Int) ((n + 1 : Nat) : Int)) else (if digC s[p + n] = true then (if (n : Int) = 0 then some (n : Int) else tiltyardref08_letters.l0 k s (p : Int) ((n + 1 : Nat) : Int)) else some (n : Int))) := by
      intro k
      rw [tiltyardref08_letters.l0, hw, if_pos (by omega), if_pos (by omega), bt_at hlt, rletter_f, rdigit_f, hw1]
      rfl
    have hgo : nameC s[p + n] = true → n + 1 + lenW nameC (s.data.toList.drop (p + (n + 1))) = n + lenW nameC (s.data.toList.drop (p + n)) := by
      intro g
      rw [hd, lenW, if_pos g, show p + (n + 1) = p + n + 1 by omega]; omega
    have hst : nameC s[p + n] = false → lenW nameC (s.data.toList.drop (p + n)) = 0 := by
      intro g
      rw [hd, lenW, if_neg (by rw [g]; decide)]
    cases hl : letC s[p + n] with
    | true =>
      have hn : nameC s[p + n] = true := by unfold nameC; rw [hl]; rfl
      have e : (if n = 0 then letN (s.data.toList.drop p) else n + lenW nameC (s.data.toList.drop (p + n))) = n + 1 + lenW nameC (s.data.toList.drop (p + (n + 1))) := by
        rw [hgo hn]
        split
        · next h0 =>
          subst h0
          have hd' : s.data.toList.drop p = s[p + 0] :: s.data.toList.drop (p + 0 + 1) := hd
          show letN (s.data.toList.drop p) = 0 + lenW nameC (s.data.toList.drop p)
          rw [hd']
          show (if letC s[p + 0] = true then _ else _) = _
          rw [if_pos hl]; omega
        · rfl
      rw [e]
      refine Ev.step IH (fun k => ?_)
      rw [hun, hl, if_pos rfl]
      split <;> rfl
    | false =>
      by_cases h0 : n = 0
      · subst h0
        have e : letN (s.data.toList.drop p) = 0 := by
          have hd' : s.data.toList.drop p = s[p + 0] :: s.data.toList.drop (p + 0 + 1) := hd
          rw [hd']
          show (if letC s[p + 0] = true then _ else _) = _
          rw [hl]; rfl
        rw [if_pos rfl, e]
        refine Ev.val (fun k => ?_)
        rw [hun, hl, if_neg (by decide)]
        split <;> rfl
      · rw [if_neg h0]
        cases hdg : digC s[p + n] with
        | true =>
          have hn : nameC s[p + n] = true := by unfold nameC; rw [hdg, Bool.or_true]
          rw [← hgo hn]
          refine Ev.step IH (fun k => ?_)
          rw [hun, hl, hdg, if_neg (by decide), if_pos rfl, if_neg (by omega)]
        | false =>
          have hn : nameC s[p + n] = false := by unfold nameC; rw [hdg, hl]; rfl
          rw [hst hn]
          refine Ev.val (fun k => ?_)
          rw [hun, hl, hdg, if_neg (by decide), if_neg (by decide)]
          rfl
theorem name_ev (s : ByteArray) (hs : s.size ≤ 9223372036854775807) : Ev (fun k => tiltyardref08_Name.f k s) (nameF s) := by
  have hlet := letters_ev s hs 0 s.size 0 (by omega)
  rw [if_pos rfl, List.drop_zero] at hlet
  unfold tiltyardref08_Name.f
  refine Ev.bind (f := fun k => tiltyardref08_Word.f k s) (word_ev s) (Ev.bind (f := fun k => tiltyardref08_letters.f k s 0) hlet ?_)
  refine Ev.congr (Ev.const _) (fun k => ?_)
  rcases Nat.eq_zero_or_pos s.size with h | h
  · have hd : s.data.toList = [] := by
      rw [← List.length_eq_zero_iff, ← Lib.size_eq]; exact h
    rw [nameF_nil h, hd, h]
    rfl
  · have hd := drop_cons h
    rw [List.drop_zero] at hd
    rw [nameF_cons h]
    have hN : letN s.data.toList = if letC s[0] then lenW nameC s.data.toList else 0 := by
      rw [hd]; rfl
    rw [hN]
    cases wordL s.data.toList with
    | true => simp
    | false =>
      cases letC s[0] with
      | false =>
        simp
      | true =>
        simp
        by_cases h1 : lenW nameC s.data.toList = s.size
        · rw [if_pos (by omega), h1, if_pos (by omega), decide_eq_true rfl]
          simp
          omega
        · rw [if_neg (by omega), decide_eq_false h1]
          simp
theorem d_Name (s : ByteArray) (hs : s.size ≤ 9223372036854775807) (w : World) : Calls Tryd.prog 88 #[.string s] w fun e w' => e = .returned (.bool (nameF s)) ∧ Below w.heap.size w w' := by
  obtain ⟨k0, h⟩ := name_ev s hs
  refine (tiltyardref08_Name.calls k0 s _ w (h k0 (Nat.le_refl _))).mono ?_
  rintro e w' ⟨h1, h2⟩
  exact ⟨h1, h2⟩
end Go.Proofs.YteidgpaakoeefaaDoor
namespace Go.Proofs.YteidgpaakoeefaaDoor
open Go.RowKit Go.Proofs.YteidgpaakoeefaaDoorW.PrintWords Go.Proofs.YteidgpaakoeefaaDoorW.PrintLast Go.Proofs.YteidgpaakoeefaaDoorW.PrintMore
set_option linter.unusedVariables false
set_option linter.unusedSimpArgs false
open PIm
def Pg (w : World) (P m : Nat) (b : List Int) : Prop := ∃ v, w.heap[P]? = some (.cells #[v] 69 (0, 0)) ∧ Kd.R (Kd.int .u8) 5 w m (fun k => k ≠ P) v b
theorem Pg.set {w w1 : World} {P m : Nat} {v v1 : Value} {b1 : List Int} (hp : w.heap[P]? = some (.cells #[v] 69 (0, 0))) (hv : Kd.R (Kd.int .u8) 5 w1 m (fun k => k ≠ P) v1 b1)
    (hg : w1.heap[P]? = w.heap[P]?) : Pg (w1.setCell ⟨P, 0, none⟩ v1) P m b1 := by
  have hp1 : w1.heap[P]? = some (.cells #[v] 69 (0, 0)) := hg.trans hp
  exact ⟨v1, blk_put (cs := #[v]) hp1 0 _ rfl, Kd.R_set hv hp1 (by decide) 0 _⟩
def Sd (w w' : World) (P : Nat) : Prop := ∀ g cs t f, w.heap[g]? = some (.cells cs t f) → t ≠ 5 → g ≠ P → w'.heap[g]? = some (.cells cs t f)
theorem Sd.trans {w w1 w2 : World} {P : Nat} (h : Sd w w1 P) (k : Sd w1 w2 P) : Sd w w2 P := fun g cs t f hg ht hP => k g cs t f (h g cs t f hg ht hP) ht hP
theorem Sd.refl (w : World) (P : Nat) : Sd w w P := fun _ _ _ _ h _ _ => h
theorem Sd.below {w w1 : World} (P : Nat) (h : Below w.heap.size w w1) : Sd w w1 P := fun g cs t f hg _ _ => (h.block g (blk_lt hg)).trans hg
theorem Sd.grown {w w1 : World} (P : Nat) {m : Nat} {ok : Nat → Prop} {v : Value} {b : List Int} (hv : Kd.R (Kd.int .u8) 5 w m ok v b) (hg : w.grownBy w1 v.ownBlock) : Sd w w1 P := by
  intro g cs t f h ht _
  refine (hg.block g (blk_lt h) (fun e => ?_)).trans h
  obtain ⟨_, _, _, q, hq, cells, hc⟩ := (Kd.R_bound hv).1 g e.symm
  rw [h] at hc
  have hq5 : q = 5 := (List.mem_cons.1 hq).elim id (fun h_ => by cases h_)
  cases hc
  exact ht hq5
theorem Sd.set {w w1 : World} {P : Nat} (h : Sd w w1 P) (u : Value) : Sd w (w1.setCell ⟨P, 0, none⟩ u) P := fun g cs t f hg ht hP =>
  (Below.heap_setCell w1 ⟨P, 0, none⟩ u g hP).trans (h g cs t f hg ht hP)
theorem RS.R5 {base : Nat} {w : World} {v : Value} {xs : List Int} (h : RS base w v xs) : Kd.R (Kd.int .u8) 5 w base (fun _ => True) v xs := by
  obtain ⟨sp, h⟩ := h
  exact h.R
end Go.Proofs.YteidgpaakoeefaaDoor
namespace Go.Proofs.YteidgpaakoeefaaDoor
open Go.RowKit Go.Proofs.YteidgpaakoeefaaDoorW.PrintWords Go.Proofs.YteidgpaakoeefaaDoorW.PrintLast Go.Proofs.YteidgpaakoeefaaDoorW.PrintMore
set_option linter.unusedVariables false
set_option linter.unusedSimpArgs false
open PIm
theorem ddec_results (tmps : Array Value) (g : Nat) (a b : Value) (y : Int) (W : World) (hp : tmps.getD 2 undef = .pointer (some ⟨g, 0, none⟩)) (hq : tmps.getD 3 undef = .int .i64 y)
    (hx : W.heap[g]? = some (.cells #[a, b] 25 (0, 0))) : (results Tryd.f19 tmps).run Tryd.prog W = .ok (.tuple #[.agg #[a, b], .int .i64 y]) W := by
  have h1 := run_loadVar_row (P := Tryd.prog) W g 25 25 #[a, b] (0, 0) _ hx Tryd.underlying25 rfl (by kernel_rfl)
  have hp' : tmps[2]?.getD undef = .pointer (some ⟨g, 0, none⟩) := by simpa using hp
  have hq' : tmps[3]?.getD undef = .int .i64 y := by simpa using hq
  unfold results
  rw [Tryd.results19]
  simp [hp', hq', asAddr, h1]
theorem glo_comp {l : List Int} {j x y z : Int} {s1 s2 s3 : Option Int} (e1 : s1 = pl (rdN l j)) (v1 : Vs (rdN l j) x) (e2 : s2 = pl (Option.bind s1 (rdN l))) (v2 : Vs (Option.bind s1 (rdN l)) y) (e3 : s3 = pl (Option.bind s2 (rdW l))) (v3 : Vs (Option.bind s2 (rdW l)) z) :
    s3 = pl (rdG l j) ∧ Vs (rdG l j) ⟨x, y, z⟩ := by
  subst e1; unfold rdG
  rcases h1 : rdN l j with _ | ⟨a, i1⟩
  · rw [h1] at e2 v2; subst e2; subst e3; exact ⟨rfl, fun p h => by cases h⟩
  rw [h1] at e2 v2
  have a1 : a = x := v1 _ h1
  subst a1
  rcases h2 : rdN l i1 with _ | ⟨b, i2⟩
  · simp only [pl, Option.map_some, Option.bind_some, h2] at e2 v2; subst e2; subst e3; simp only [Option.bind_some, h2, Option.bind_none]; exact ⟨rfl, fun p h => by cases h⟩
  simp only [pl, Option.map_some, Option.bind_some, h2] at e2 v2
  have a2 : b = y := v2 _ rfl
  subst a2; subst e2
  rcases h3 : rdW l i2 with _ | ⟨c, i3⟩
  · simp only [pl, Option.map_some, Option.bind_some, h3] at e3 v3; subst e3; simp only [Option.bind_some, h2, h3, Option.bind_none]; exact ⟨rfl, fun p h => by cases h⟩
  simp only [pl, Option.map_some, Option.bind_some, h3] at e3 v3
  have a3 : c = z := v3 _ rfl
  subst a3; subst e3
  simp only [Option.bind_some, h2, h3]
  exact ⟨rfl, fun p h => by cases h; rfl⟩
theorem Sr.fn {l : List Int} (hbt : ∀ x ∈ l, 0 ≤ x ∧ x < 256) {j : Int} : Sr l (pl (rdF l j)) := by
  intro i h
  rcases h1 : rdF l j with _ | ⟨a, i1⟩
  · rw [h1] at h; cases h
  · rw [h1] at h; cases h; exact rdF_rng hbt h1
theorem all_comp {l : List Int} {s2 s4 : Option Int} {gs : List S48} {fs : List S54} (e2 : s2 = pl (Option.bind (some 4) (rdRows (rdG l) 64 l))) (v2 : Vs (Option.bind (some 4) (rdRows (rdG l) 64 l)) gs)
    (e4 : s4 = pl (Option.bind s2 (rdRows (rdF l) 64 l))) (v4 : Vs (Option.bind s2 (rdRows (rdF l) 64 l)) fs) : rdAll l = s4.map fun j => ((gs, fs), j) := by
  unfold rdAll
  rw [Option.bind_some] at e2 v2
  rcases h1 : rdRows (rdG l) 64 l 4 with _ | ⟨a, i1⟩
  · rw [h1] at e2; subst e2; subst e4; rfl
  have a1 : a = gs := v2 _ h1
  subst a1
  rw [h1] at e2
  simp only [pl, Option.map_some] at e2
  subst e2
  rw [Option.bind_some] at e4 v4
  rcases h2 : rdRows (rdF l) 64 l i1 with _ | ⟨b, i2⟩
  · rw [h2] at e4; subst e4; simp only [Option.bind_some, h2, Option.bind_none]; rfl
  have a2 : b = fs := v4 _ h2
  subst a2
  rw [h2] at e4
  simp only [pl, Option.map_some] at e4
  subst e4
  simp only [Option.bind_some, h2]
  rfl
set_option maxHeartbeats 16000000 in
set_option maxRecDepth 100000 in
theorem ddec (A0 : Option Addr) (c0 : Nat) (l0 : List Int) (w : World) (hr0 : Kd.C (Kd.int .u8) w A0 l0.length l0) (hc0 : l0.length ≤ c0) (hl : l0.length ≤ 140737488355318) (hbt : ∀ x ∈ l0, 0 ≤ x ∧ x < 256) :
    Calls Tryd.prog 19 #[.slice A0 l0.length c0] w fun e w' => ∃ v0 v1, e = .returned (.tuple #[.agg #[v0, v1], .int .i64 (decF l0).2.2]) ∧ Kd.R k48 48 w' w.heap.size (fun _ => True) v0 (decF l0).1 ∧ Kd.R k54 54 w' w.heap.size (fun _ => True) v1 (decF l0).2.1 ∧ Below w.heap.size w w' := by
  obtain ⟨R, hR⟩ : ∃ R, R = decF l0 := ⟨_, rfl⟩
  rw [← hR]
  have hop1 := rOpen_callsF A0 c0 l0
  obtain ⟨l, is, hop⟩ : ∃ r b, opF l0 = (r, b) := ⟨_, _, rfl⟩
  have hrs : ∀ x ∈ l, 0 ≤ x ∧ x < 256 := fun x hx => hbt x (opF_sub l0 x (by rw [hop]; exact hx))
  have hrl : l.length ≤ l0.length := by have := opF_len l0; rw [hop] at this; exact this
  unfold decF at hR
  rw [hop] at hR hop1
  have HOP := Aside0.mk (fun W (hb : Below w.heap.size w W) => hop1 W (Kd.C_below hr0 hb) hc0 hbt hl)
  have HRR := Aside0.mk hR; have HL := Aside0.mk (Nat.le_trans hrl hl); have HBT := Aside0.mk hrs
  clear hR hr0 hc0 hl hbt hop hop1 hrs hrl
  by_cases hbig : 1048576 < l0.length
  · have d1 : decide ((l0.length : Int) > 1048576) = true := decide_eq_true (by omega)
    have HR2 : Aside0 (R = ([], [], 2)) := ⟨HRR.out.trans (if_pos hbig)⟩
    clear hbig HRR HOP
    go_enter Tryd.func19, Tryd.ntmps19
    go_wp2_with (first | ((with_reducible refine gate_dst (N := 2) rfl ?_); refine box_event ?hg (N := 2) ?hd (cs := #[.slice none 0 0, .slice none 0 0]) (t := 25) ?hr ?_; (case hd => rfl); (case hg => rfl); (case hr => first | (go_simp; done) | (go_simp; rfl)); intro g hg_ W1 hbox_ hb_; have GWg := Aside0.mk (by rw [hg_]; exact Nat.le_refl _ : w.heap.size ≤ g); have HB := Aside0.mk hb_; have BKg := Aside0.mk hbox_; clear hg_ hbox_ hb_; have hcg_0 : W1.cell? ⟨g, 0, none⟩ = some (.slice none 0 0) := (blk_cell BKg.out 0).trans rfl; have hfg_0 := blk_frozen BKg.out 0; have hcg_1 : W1.cell? ⟨g, 1, none⟩ = some (.slice none 0 0) := (blk_cell BKg.out 1).trans rfl; have hfg_1 := blk_frozen BKg.out 1))
    have n_ : Aside0 (((W1.setCell ⟨g, 0, none⟩ (.slice none 0 0)).setCell ⟨g, 1, none⟩ (.slice none 0 0)).heap[g]? = some (.cells #[.slice none 0 0, .slice none 0 0] 25 (0, 0))) := ⟨by refine blk_put (cs := #[.slice none 0 0, .slice none 0 0]) ?_ 1 _ rfl; refine blk_put (cs := #[.slice none 0 0, .slice none 0 0]) ?_ 0 _ rfl; exact BKg.out⟩
    have m_ : Aside0 (Below w.heap.size w ((W1.setCell ⟨g, 0, none⟩ (.slice none 0 0)).setCell ⟨g, 1, none⟩ (.slice none 0 0))) := ⟨Below.setCell (p := ⟨g, 1, none⟩) (Below.setCell (p := ⟨g, 0, none⟩) (HB.out) GWg.out _) GWg.out _⟩
    refine bodyPost_ret (ddec_results _ g _ _ _ _ rfl rfl n_.out) rfl ?_
    rw [HR2.out]
    exact ⟨_, _, rfl, Kd.R_nil _ _ _ _ _, Kd.R_nil _ _ _ _ _, m_.out⟩
  have d1 : decide ((l0.length : Int) > 1048576) = false := decide_eq_false (by omega)
  have HR2 := Aside0.mk (HRR.out.trans (if_neg hbig))
  clear hbig HRR
  go_enter Tryd.func19, Tryd.ntmps19
  go_wp2_with (first | ((with_reducible refine gate_dst (N := 2) rfl ?_); refine box_event ?hg (N := 2) ?hd (cs := #[.slice none 0 0, .slice none 0 0]) (t := 25) ?hr ?_; (case hd => rfl); (case hg => rfl); (case hr => first | (go_simp; done) | (go_simp; rfl)); intro g hg_ W1 hbox_ hb_; have GWg := Aside0.mk (by rw [hg_]; exact Nat.le_refl _ : w.heap.size ≤ g); have HB := Aside0.mk hb_; have BKg := Aside0.mk hbox_; clear hg_ hbox_ hb_; have hcg_0 : W1.cell? ⟨g, 0, none⟩ = some (.slice none 0 0) := (blk_cell BKg.out 0).trans rfl; have hfg_0 := blk_frozen BKg.out 0; have hcg_1 : W1.cell? ⟨g, 1, none⟩ = some (.slice none 0 0) := (blk_cell BKg.out 1).trans rfl; have hfg_1 := blk_frozen BKg.out 1))
  refine (HOP.out _ HB.out).mono ?_
  rintro e_ W2 ⟨v_, rfl, ho_, hb_⟩
  obtain ⟨A, c, rfl⟩ := Kd.R_slice ho_.R5
  have HCC := Aside0.mk (Kd.R_reads' ho_.R5).2.1; have HO := Aside0.mk ho_.R5; have HCR := Aside0.mk (Kd.R_reads' ho_.R5).2.2
  have n_ := Aside0.mk (blk_below BKg.out hb_); have m_ := Aside0.mk (below_step HB.out hb_)
  clear hcg_0 hfg_0 hcg_1 hfg_1 BKg HB hb_ ho_ HOP; have BKg := n_; have HB := m_; clear n_ m_
  have hcg_0 : W2.cell? ⟨g, 0, none⟩ = some (.slice none 0 0) := (blk_cell BKg.out 0).trans rfl; have hfg_0 := blk_frozen BKg.out 0; have hcg_1 : W2.cell? ⟨g, 1, none⟩ = some (.slice none 0 0) := (blk_cell BKg.out 1).trans rfl; have hfg_1 := blk_frozen BKg.out 1
  cases is with
  | false =>
    have HR3 : Aside0 (R = badI) := ⟨HR2.out.trans (if_pos (.inl rfl))⟩
    clear HR2; have HR2 := HR3; clear HR3
    go_wp2
    have n_ : Aside0 (((W2.setCell ⟨g, 0, none⟩ (.slice none 0 0)).setCell ⟨g, 1, none⟩ (.slice none 0 0)).heap[g]? = some (.cells #[.slice none 0 0, .slice none 0 0] 25 (0, 0))) := ⟨by refine blk_put (cs := #[.slice none 0 0, .slice none 0 0]) ?_ 1 _ rfl; refine blk_put (cs := #[.slice none 0 0, .slice none 0 0]) ?_ 0 _ rfl; exact BKg.out⟩
    have m_ : Aside0 (Below w.heap.size w ((W2.setCell ⟨g, 0, none⟩ (.slice none 0 0)).setCell ⟨g, 1, none⟩ (.slice none 0 0))) := ⟨Below.setCell (p := ⟨g, 1, none⟩) (Below.setCell (p := ⟨g, 0, none⟩) (HB.out) GWg.out _) GWg.out _⟩
    refine bodyPost_ret (ddec_results _ g _ _ _ _ rfl rfl n_.out) rfl ?_
    rw [HR2.out]
    exact ⟨_, _, rfl, Kd.R_nil _ _ _ _ _, Kd.R_nil _ _ _ _ _, m_.out⟩
  | true =>
    by_cases h4 : l.length < 4
    · have d4 : decide ((l.length : Int) < 4) = true := decide_eq_true (by omega)
      have H4 := Aside0.mk h4; clear h4
      have HR3 : Aside0 (R = badI) := ⟨HR2.out.trans (if_pos (.inr (.inl H4.out)))⟩
      clear HR2; have HR2 := HR3; clear HR3
      go_wp2
      have n_ : Aside0 (((W2.setCell ⟨g, 0, none⟩ (.slice none 0 0)).setCell ⟨g, 1, none⟩ (.slice none 0 0)).heap[g]? = some (.cells #[.slice none 0 0, .slice none 0 0] 25 (0, 0))) := ⟨by refine blk_put (cs := #[.slice none 0 0, .slice none 0 0]) ?_ 1 _ rfl; refine blk_put (cs := #[.slice none 0 0, .slice none 0 0]) ?_ 0 _ rfl; exact BKg.out⟩
      have m_ : Aside0 (Below w.heap.size w ((W2.setCell ⟨g, 0, none⟩ (.slice none 0 0)).setCell ⟨g, 1, none⟩ (.slice none 0 0))) := ⟨Below.setCell (p := ⟨g, 1, none⟩) (Below.setCell (p := ⟨g, 0, none⟩) (HB.out) GWg.out _) GWg.out _⟩
      refine bodyPost_ret (ddec_results _ g _ _ _ _ rfl rfl n_.out) rfl ?_
      rw [HR2.out]
      exact ⟨_, _, rfl, Kd.R_nil _ _ _ _ _, Kd.R_nil _ _ _ _ _, m_.out⟩
    have d4 : decide ((l.length : Int) < 4) = false := decide_eq_false (by omega)
    have H4 := Aside0.mk h4
    have hcr4 : (4 : Int) ≤ (c : Int) := by have := HCC.out; omega
    have htl : (l.take 4).length = 4 := by rw [List.length_take]; omega
    have hC4 := Kd.C_take HCR.out (show 4 ≤ l.length by omega)
    rw [htl] at hC4
    have hconv := Kd.C_string (P := Tryd.prog) Tryd.underlying30 Tryd.underlying5 Tryd.underlying9 (c := c) hC4
    have HTL := Aside0.mk htl
    clear h4 htl hC4
    obtain ⟨t4, ht4⟩ : ∃ s, s = strOfNums (l.take 4) := ⟨_, rfl⟩
    rw [← ht4] at hconv
    have HS4 := Aside0.mk ht4; clear ht4
    have hiff : t4.toList = [84, 73, 76, 84] ↔ l.take 4 = [84, 73, 76, 84] := by
      rw [HS4.out, ← tilt_list]
      exact strList_inj (fun x hx => HBT.out x (List.mem_of_mem_take hx)) (by decide)
    by_cases hm : t4.toList = [84, 73, 76, 84]
    rotate_left
    · have b4 : (t4.toList == [84, 73, 76, 84]) = false := by simpa using hm
      have HM := Aside0.mk (fun h => hm (hiff.2 h)); clear hm hiff
      have HR3 : Aside0 (R = badI) := ⟨HR2.out.trans (if_pos (.inr (.inr HM.out)))⟩
      clear HR2; have HR2 := HR3; clear HR3
      go_wp2
      have n_ : Aside0 (((W2.setCell ⟨g, 0, none⟩ (.slice none 0 0)).setCell ⟨g, 1, none⟩ (.slice none 0 0)).heap[g]? = some (.cells #[.slice none 0 0, .slice none 0 0] 25 (0, 0))) := ⟨by refine blk_put (cs := #[.slice none 0 0, .slice none 0 0]) ?_ 1 _ rfl; refine blk_put (cs := #[.slice none 0 0, .slice none 0 0]) ?_ 0 _ rfl; exact BKg.out⟩
      have m_ : Aside0 (Below w.heap.size w ((W2.setCell ⟨g, 0, none⟩ (.slice none 0 0)).setCell ⟨g, 1, none⟩ (.slice none 0 0))) := ⟨Below.setCell (p := ⟨g, 1, none⟩) (Below.setCell (p := ⟨g, 0, none⟩) (HB.out) GWg.out _) GWg.out _⟩
      refine bodyPost_ret (ddec_results _ g _ _ _ _ rfl rfl n_.out) rfl ?_
      rw [HR2.out]
      exact ⟨_, _, rfl, Kd.R_nil _ _ _ _ _, Kd.R_nil _ _ _ _ _, m_.out⟩
    have b4 : (t4.toList == [84, 73, 76, 84]) = true := by rw [hm]; rfl
    have HTK := Aside0.mk (hiff.1 hm)
    have HR3 : Aside0 (R = match rdAll l with | none => badI | some (r, j) => if j = (l.length : Int) ∧ okF r.1 r.2 = true then (r.1, r.2, 0) else badI) := ⟨HR2.out.trans (if_neg (fun h => h.elim (fun h => by cases h) (fun h => h.elim H4.out (fun h => h HTK.out))))⟩
    clear HR2; have HR2 := HR3; clear HR3 hm hiff
    go_wp2_with (first | ((with_reducible refine gate_dst (N := 39) rfl ?_); refine box_event ?hg (N := 39) ?hd (cs := #[.slice A l.length c, .int .i64 4, .bool false]) (t := 85) ?hr ?_; (case hd => rfl); (case hg => rfl); (case hr => first | (go_simp; done) | (go_simp; rfl)); intro B hg_ wb hbox_ hb_; have GWB := Aside0.mk (by rw [hg_]; exact HB.out.size : w.heap.size ≤ B); have NBg : Aside0 (g ≠ B) := ⟨by rw [hg_]; exact Nat.ne_of_lt (blk_lt BKg.out)⟩; have HOB := Aside0.mk (Kd.R_below (Kd.R_mono (ok' := fun k_ => k_ ≠ B) (Kd.R_bound HO.out) (fun k_ h_ => by have := h_.2.2.1; rw [hg_]; omega)) hb_); have n_ := Aside0.mk (blk_below BKg.out hb_); have m_ := Aside0.mk (below_step HB.out hb_); clear hcg_0 hfg_0 hcg_1 hfg_1 BKg HB hb_ hg_; have BKg := n_; have HB := m_; clear n_ m_; have HBw : Aside0 (B < wb.heap.size) := ⟨blk_lt hbox_⟩; have RB : Aside0 (Ds wb B A l.length c (some 4)) := ⟨⟨4, false, hbox_, rfl, rfl⟩⟩; clear hbox_; have HK : Aside0 (Kp wb wb (fun k => k = B)) := ⟨Kp.refl _ _⟩; have HC := Aside0.mk (fun W' (hk_ : Kept wb W' (fun k => k = B)) => Kd.C_kept_own HOB.out (fun k h e => h e) W' hk_); have HSr : Aside0 (Sr l (some 4)) := ⟨(by intro i hi; cases hi; have := H4.out; omega)⟩; clear HCR HO HOB HTK HS4 HTL; ) | ((with_reducible refine gate_dst (N := 7) rfl ?_); refine box_event ?hg (N := 7) ?hd (cs := #[.slice none 0 0, .slice none 0 0]) (t := 25) ?hr ?_; (case hd => rfl); (case hg => rfl); (case hr => first | (go_simp; done) | (go_simp; rfl)); intro xx hg_ W1 hbox_ hb_; have GExx := Aside0.mk (by rw [hg_]; exact HK.out.1 : wb.heap.size ≤ xx); have NBxx : Aside0 (xx ≠ B) := ⟨(by rw [hg_]; exact Ne.symm (Nat.ne_of_lt (Ds.lt RB.out)))⟩; have NEg_xx : Aside0 (g ≠ xx) := ⟨by rw [hg_]; exact Nat.ne_of_lt (blk_lt BKg.out)⟩; have n_ := Aside0.mk (blk_below BKg.out hb_); clear BKg; have BKg := n_; clear n_; clear hg_; have n_ := Aside0.mk (Ds.below RB.out hb_); clear RB; have RB := n_; clear n_; have n_ := Aside0.mk (Kp.below HK.out hb_); clear HK; have HK := n_; clear n_; have BKxx := Aside0.mk hbox_; clear hbox_ hb_; have hcxx_0 : W1.cell? ⟨xx, 0, none⟩ = some (.slice none 0 0) := (blk_cell BKxx.out 0).trans rfl; have hfxx_0 := blk_frozen BKxx.out 0; have hcxx_1 : W1.cell? ⟨xx, 1, none⟩ = some (.slice none 0 0) := (blk_cell BKxx.out 1).trans rfl; have hfxx_1 := blk_frozen BKxx.out 1))
    refine (dr_many B A c l (some 4) 64 _ ⟨by decide, by decide⟩ RB.out (HC.out _ HK.out.kept) HCC.out HBT.out HL.out HSr.out).mono ?_
    rintro e_ W2 ⟨x0, rfl, hn_, hk_, hd_, hv_, hz_⟩
    have HV0 := Aside0.mk hv_; have HN0 := Aside0.mk hn_; clear hv_ hz_ hn_
    obtain ⟨s1, hs1⟩ : ∃ s_, s_ = pl (rM 64 (Option.bind (some 4) (rdN l))) := ⟨_, rfl⟩
    rw [← hs1] at hd_
    have n_ : Aside0 (Sr l s1) := ⟨by rw [hs1]; exact Sr.many (Sr.nat HBT.out)⟩
    have HSs1 := Aside0.mk hs1; clear hs1 HSr; have HSr := n_; clear n_
    have n_ := Aside0.mk (blk_kept BKg.out hk_.kept NBg.out); clear BKg; have BKg := n_; clear n_
    have n_ := Aside0.mk (blk_kept BKxx.out hk_.kept NBxx.out); clear BKxx; have BKxx := n_; clear n_
    clear hcxx_0 hfxx_0
    clear hcxx_1 hfxx_1
    have n_ := Aside0.mk (HK.out.then_ hk_ (fun _ h => .inl h)); clear HK RB; have HK := n_; have RB := Aside0.mk hd_; clear n_ hk_ hd_
    have HRW : Aside0 (RowSt (rdG l) x0.toNat (Option.bind (some 4) (rdRows (rdG l) 64 l)) s1 []) := ⟨by rw [rows_link HV0.out, ← HSs1.out]; exact RowSt.start⟩
    obtain ⟨RG, hRG⟩ : ∃ R, R = Option.bind (some 4) (rdRows (rdG l) 64 l) := ⟨_, rfl⟩
    rw [← hRG] at HRW
    have HRG := Aside0.mk hRG; clear hRG
    go_upto_block 0 with (fail)
    go_cut [] (fun wx => ∃ (gs : List S48) (Ag : Option Addr) (cg : Nat) (sg : Option Int), Aside0 (sg = pl RG) ∧ Aside0 (Vs RG gs) ∧ Aside0 (Sr l sg) ∧ Aside0 (Kd.R k48 48 wx wb.heap.size (fun k_ => wb.heap.size ≤ k_) (.slice Ag gs.length cg) gs) ∧ Aside0 (Ds wx B A l.length c sg) ∧ Aside0 (Kp wb wx (fun k_ => k_ = B)) ∧ Aside0 (wx.heap[g]? = some (.cells #[.slice none 0 0, .slice none 0 0] 25 (0, 0))) ∧ Aside0 (wx.heap[xx]? = some (.cells #[.slice Ag gs.length cg, .slice none 0 0] 25 (0, 0))))
    case first =>
      go_wp2_with fail
      go_loopw [9] (fun vi wr => ∃ (k : Nat) (done : List S48) (Ar : Option Addr) (cr : Nat) (sk : Option Int), vi = .int .i64 k ∧ Aside0 (k ≤ x0.toNat ∧ done.length = k) ∧ Aside0 (RowSt (rdG l) (x0.toNat - k) RG sk done) ∧ Aside0 (Sr l sk) ∧ Aside0 (Kd.R k48 48 wr wb.heap.size (fun k_ => wb.heap.size ≤ k_) (.slice Ar done.length cr) done) ∧ Aside0 (Ds wr B A l.length c sk) ∧ Aside0 (Kp wb wr (fun k_ => k_ = B)) ∧ Aside0 (wr.heap[g]? = some (.cells #[.slice none 0 0, .slice none 0 0] 25 (0, 0))) ∧ Aside0 (wr.heap[xx]? = some (.cells #[.slice Ar done.length cr, .slice none 0 0] 25 (0, 0)))) (fun v _ => x0.toNat - (intOf v).toNat)
      case atStart => exact ⟨0, [], none, 0, _, rfl, ⟨Nat.zero_le _, rfl⟩, HRW, HSr, ⟨Kd.R_nil _ _ _ _ _⟩, RB, HK, BKg, BKxx⟩
      case round =>
        clear HRW HSr RB HK BKg BKxx
        obtain ⟨k, done, Ar, cr, sk, rfl, HKN, HRk, HSr, HO, RB, HK, BKg, BKxx⟩ := hrel
        have hk := HKN.out
        have hnn := HN0.out
        have hcxx_0 : wr.cell? ⟨xx, 0, none⟩ = some (.slice Ar done.length cr) := (blk_cell BKxx.out 0).trans rfl
        have hfxx_0 := blk_frozen BKxx.out 0
        by_cases hlt : k < x0.toNat
        · have z1 : decide ((k : Int) < x0) = true := decide_eq_true (by omega)
          have HLT := Aside0.mk hlt
          cases sk with
          | none =>
            obtain ⟨i_, hb_⟩ := RB.out.bad
            have hcB2 : wr.cell? ⟨B, 2, none⟩ = some (.bool true) := (blk_cell hb_ 2).trans rfl
            clear hlt hk hnn hb_
            go_wp2
            go_meet
            case rel =>
              have h_ := HRk.out.bad
              exact ⟨done, Ar, cr, none, ⟨h_.1.symm⟩, ⟨h_.2⟩, HSr, HO, RB, HK, BKg, BKxx⟩
          | some j =>
            have hb_ := RB.out.good
            have hcB2 : wr.cell? ⟨B, 2, none⟩ = some (.bool false) := (blk_cell hb_ 2).trans rfl
            have HLT2 := Aside0.mk (fun k_ => own_lt (Kd.R_own HO.out).choose_spec k_)
            clear hlt hk hnn hb_
            have q_ := Aside0.mk (Kd.R_mono (Kd.R_bound HO.out) (fun k_ h_ => (⟨h_.1, h_.2.2.1⟩ : wb.heap.size ≤ k_ ∧ k_ < wr.heap.size))); clear HO; have HO := q_; clear q_
            have HWR : Aside0 (wr.heap.size ≤ wr.heap.size) := ⟨Nat.le_refl _⟩
            go_wp2_with (first | ((with_reducible refine gate_dst (N := 10) rfl ?_); refine box_event ?hg (N := 10) ?hd (cs := #[.int .i64 0, .int .i64 0, .int .i64 0]) (t := 48) ?hr ?_; (case hd => rfl); (case hg => rfl); (case hr => first | (go_simp; done) | (go_simp; rfl)); intro q hg_ W3 hbox_ hb_; have GEq := Aside0.mk (by rw [hg_]; exact HK.out.1 : wb.heap.size ≤ q); have NBq : Aside0 (q ≠ B) := ⟨(by rw [hg_]; exact Ne.symm (Nat.ne_of_lt (Ds.lt RB.out)))⟩; have NEg_q : Aside0 (g ≠ q) := ⟨by rw [hg_]; exact Nat.ne_of_lt (blk_lt BKg.out)⟩; have NExx_q : Aside0 (xx ≠ q) := ⟨by rw [hg_]; exact Nat.ne_of_lt (blk_lt BKxx.out)⟩; have n_ := Aside0.mk (blk_below BKg.out hb_); clear BKg; have BKg := n_; clear n_; have n_ := Aside0.mk (blk_below BKxx.out hb_); clear BKxx; have BKxx := n_; clear n_; clear hcxx_0 hfxx_0; have GWq := Aside0.mk (by rw [hg_]; exact HWR.out : wr.heap.size ≤ q); clear hg_; have n_ := Aside0.mk (Ds.below RB.out hb_); clear RB; have RB := n_; clear n_; have n_ := Aside0.mk (Kp.below HK.out hb_); clear HK; have HK := n_; clear n_; have n_ := Aside0.mk (Kd.R_below HO.out hb_); clear HO; have HO := n_; clear n_; clear hcB2; have BKq := Aside0.mk hbox_; clear hbox_ hb_; have hcxx_0 : W3.cell? ⟨xx, 0, none⟩ = some (.slice Ar done.length cr) := (blk_cell BKxx.out 0).trans rfl; have hfxx_0 := blk_frozen BKxx.out 0; have hcq_0 : W3.cell? ⟨q, 0, none⟩ = some (.int .i64 0) := (blk_cell BKq.out 0).trans rfl; have hfq_0 := blk_frozen BKq.out 0; have hcq_1 : W3.cell? ⟨q, 1, none⟩ = some (.int .i64 0) := (blk_cell BKq.out 1).trans rfl; have hfq_1 := blk_frozen BKq.out 1; have hcq_2 : W3.cell? ⟨q, 2, none⟩ = some (.int .i64 0) := (blk_cell BKq.out 2).trans rfl; have hfq_2 := blk_frozen BKq.out 2))
            refine (dr_nat B A c l (some j) _ RB.out (HC.out _ HK.out.kept) HCC.out HBT.out HL.out HSr.out).mono ?_
            rintro e_ W4 ⟨x1, rfl, hk_, hd_, hv_⟩
            have HV1 := Aside0.mk hv_; clear hv_
            obtain ⟨s2, hs2⟩ : ∃ s_, s_ = pl (Option.bind (some j) (rdN l)) := ⟨_, rfl⟩
            rw [← hs2] at hd_
            have n_ : Aside0 (Sr l s2) := ⟨by rw [hs2]; exact Sr.nat HBT.out⟩
            have HSs2 := Aside0.mk hs2; clear hs2 HSr; have HSr := n_; clear n_
            have n_ := Aside0.mk (blk_kept BKg.out hk_.kept NBg.out); clear BKg; have BKg := n_; clear n_
            have n_ := Aside0.mk (blk_kept BKxx.out hk_.kept NBxx.out); clear BKxx; have BKxx := n_; clear n_
            clear hcxx_0 hfxx_0
            have n_ := Aside0.mk (blk_kept BKq.out hk_.kept NBq.out); clear BKq; have BKq := n_; clear n_
            clear hcq_0 hfq_0
            clear hcq_1 hfq_1
            clear hcq_2 hfq_2
            have n_ := Aside0.mk (Kd.R_kept HO.out hk_.kept (fun k_ h_ e_ => by have := HBw.out; have := (show wb.heap.size ≤ k_ from by first | exact h_ | exact h_.1); omega)); clear HO; have HO := n_; clear n_
            have n_ := Aside0.mk (HK.out.then_ hk_ (fun _ h => .inl h)); clear HK RB; have HK := n_; have RB := Aside0.mk hd_; clear n_ hk_ hd_
            have hcxx_0 : W4.cell? ⟨xx, 0, none⟩ = some (.slice Ar done.length cr) := (blk_cell BKxx.out 0).trans rfl
            have hfxx_0 := blk_frozen BKxx.out 0
            have hcq_0 : W4.cell? ⟨q, 0, none⟩ = some (.int .i64 0) := (blk_cell BKq.out 0).trans rfl
            have hfq_0 := blk_frozen BKq.out 0
            have hcq_1 : W4.cell? ⟨q, 1, none⟩ = some (.int .i64 0) := (blk_cell BKq.out 1).trans rfl
            have hfq_1 := blk_frozen BKq.out 1
            have hcq_2 : W4.cell? ⟨q, 2, none⟩ = some (.int .i64 0) := (blk_cell BKq.out 2).trans rfl
            have hfq_2 := blk_frozen BKq.out 2
            go_wp2_with fail
            have n_ : Aside0 ((W4.setCell ⟨q, 0, none⟩ (.int .i64 x1)).heap[q]? = some (.cells #[.int .i64 x1, .int .i64 0, .int .i64 0] 48 (0, 0))) := ⟨by refine blk_put (cs := #[.int .i64 0, .int .i64 0, .int .i64 0]) ?_ 0 _ rfl; exact BKq.out⟩
            have m_ : Aside0 ((W4.setCell ⟨q, 0, none⟩ (.int .i64 x1)).heap[g]? = some (.cells #[.slice none 0 0, .slice none 0 0] 25 (0, 0))) := ⟨(blk_far BKg.out NEg_q.out _)⟩; clear BKg; have BKg := m_; clear m_
            have m_ : Aside0 ((W4.setCell ⟨q, 0, none⟩ (.int .i64 x1)).heap[xx]? = some (.cells #[.slice Ar done.length cr, .slice none 0 0] 25 (0, 0))) := ⟨(blk_far BKxx.out NExx_q.out _)⟩; clear BKxx; have BKxx := m_; clear m_
            have m_ : Aside0 (Ds (W4.setCell ⟨q, 0, none⟩ (.int .i64 x1)) B A l.length c s2) := ⟨(Ds.far (p := ⟨q, 0, none⟩) RB.out NBq.out.symm _)⟩; have o_ : Aside0 (Kp wb (W4.setCell ⟨q, 0, none⟩ (.int .i64 x1)) (fun k => k = B)) := ⟨(Kp.setCell (p := ⟨q, 0, none⟩) HK.out (.inr GEq.out) _)⟩
            have q_ : Aside0 (Kd.R k48 48 (W4.setCell ⟨q, 0, none⟩ (.int .i64 x1)) wb.heap.size (fun k => wb.heap.size ≤ k ∧ k < wr.heap.size) (.slice Ar done.length cr) done) := ⟨(Kd.R_far (p := ⟨q, 0, none⟩) HO.out (fun k_ h_ (e_ : k_ = q) => by have := h_.2; have := GWq.out; omega) _)⟩; clear HO; have HO := q_; clear q_
            clear BKq RB HK; have BKq := n_; have RB := m_; have HK := o_; clear n_ m_ o_
            clear hcxx_0 hfxx_0
            clear hcq_0 hfq_0
            clear hcq_1 hfq_1
            clear hcq_2 hfq_2
            generalize (W4.setCell ⟨q, 0, none⟩ (.int .i64 x1)) = W5 at *
            have hcxx_0 : W5.cell? ⟨xx, 0, none⟩ = some (.slice Ar done.length cr) := (blk_cell BKxx.out 0).trans rfl
            have hfxx_0 := blk_frozen BKxx.out 0
            have hcq_0 : W5.cell? ⟨q, 0, none⟩ = some (.int .i64 x1) := (blk_cell BKq.out 0).trans rfl
            have hfq_0 := blk_frozen BKq.out 0
            have hcq_1 : W5.cell? ⟨q, 1, none⟩ = some (.int .i64 0) := (blk_cell BKq.out 1).trans rfl
            have hfq_1 := blk_frozen BKq.out 1
            have hcq_2 : W5.cell? ⟨q, 2, none⟩ = some (.int .i64 0) := (blk_cell BKq.out 2).trans rfl
            have hfq_2 := blk_frozen BKq.out 2
            refine (dr_nat B A c l s2 _ RB.out (HC.out _ HK.out.kept) HCC.out HBT.out HL.out HSr.out).mono ?_
            rintro e_ W6 ⟨x2, rfl, hk_, hd_, hv_⟩
            have HV2 := Aside0.mk hv_; clear hv_
            obtain ⟨s3, hs3⟩ : ∃ s_, s_ = pl (Option.bind s2 (rdN l)) := ⟨_, rfl⟩
            rw [← hs3] at hd_
            have n_ : Aside0 (Sr l s3) := ⟨by rw [hs3]; exact Sr.nat HBT.out⟩
            have HSs3 := Aside0.mk hs3; clear hs3 HSr; have HSr := n_; clear n_
            have n_ := Aside0.mk (blk_kept BKg.out hk_.kept NBg.out); clear BKg; have BKg := n_; clear n_
            have n_ := Aside0.mk (blk_kept BKxx.out hk_.kept NBxx.out); clear BKxx; have BKxx := n_; clear n_
            clear hcxx_0 hfxx_0
            have n_ := Aside0.mk (blk_kept BKq.out hk_.kept NBq.out); clear BKq; have BKq := n_; clear n_
            clear hcq_0 hfq_0
            clear hcq_1 hfq_1
            clear hcq_2 hfq_2
            have n_ := Aside0.mk (Kd.R_kept HO.out hk_.kept (fun k_ h_ e_ => by have := HBw.out; have := (show wb.heap.size ≤ k_ from by first | exact h_ | exact h_.1); omega)); clear HO; have HO := n_; clear n_
            have n_ := Aside0.mk (HK.out.then_ hk_ (fun _ h => .inl h)); clear HK RB; have HK := n_; have RB := Aside0.mk hd_; clear n_ hk_ hd_
            have hcxx_0 : W6.cell? ⟨xx, 0, none⟩ = some (.slice Ar done.length cr) := (blk_cell BKxx.out 0).trans rfl
            have hfxx_0 := blk_frozen BKxx.out 0
            have hcq_0 : W6.cell? ⟨q, 0, none⟩ = some (.int .i64 x1) := (blk_cell BKq.out 0).trans rfl
            have hfq_0 := blk_frozen BKq.out 0
            have hcq_1 : W6.cell? ⟨q, 1, none⟩ = some (.int .i64 0) := (blk_cell BKq.out 1).trans rfl
            have hfq_1 := blk_frozen BKq.out 1
            have hcq_2 : W6.cell? ⟨q, 2, none⟩ = some (.int .i64 0) := (blk_cell BKq.out 2).trans rfl
            have hfq_2 := blk_frozen BKq.out 2
            go_wp2_with fail
            have n_ : Aside0 ((W6.setCell ⟨q, 1, none⟩ (.int .i64 x2)).heap[q]? = some (.cells #[.int .i64 x1, .int .i64 x2, .int .i64 0] 48 (0, 0))) := ⟨by refine blk_put (cs := #[.int .i64 x1, .int .i64 0, .int .i64 0]) ?_ 1 _ rfl; exact BKq.out⟩
            have m_ : Aside0 ((W6.setCell ⟨q, 1, none⟩ (.int .i64 x2)).heap[g]? = some (.cells #[.slice none 0 0, .slice none 0 0] 25 (0, 0))) := ⟨(blk_far BKg.out NEg_q.out _)⟩; clear BKg; have BKg := m_; clear m_
            have m_ : Aside0 ((W6.setCell ⟨q, 1, none⟩ (.int .i64 x2)).heap[xx]? = some (.cells #[.slice Ar done.length cr, .slice none 0 0] 25 (0, 0))) := ⟨(blk_far BKxx.out NExx_q.out _)⟩; clear BKxx; have BKxx := m_; clear m_
            have m_ : Aside0 (Ds (W6.setCell ⟨q, 1, none⟩ (.int .i64 x2)) B A l.length c s3) := ⟨(Ds.far (p := ⟨q, 1, none⟩) RB.out NBq.out.symm _)⟩; have o_ : Aside0 (Kp wb (W6.setCell ⟨q, 1, none⟩ (.int .i64 x2)) (fun k => k = B)) := ⟨(Kp.setCell (p := ⟨q, 1, none⟩) HK.out (.inr GEq.out) _)⟩
            have q_ : Aside0 (Kd.R k48 48 (W6.setCell ⟨q, 1, none⟩ (.int .i64 x2)) wb.heap.size (fun k => wb.heap.size ≤ k ∧ k < wr.heap.size) (.slice Ar done.length cr) done) := ⟨(Kd.R_far (p := ⟨q, 1, none⟩) HO.out (fun k_ h_ (e_ : k_ = q) => by have := h_.2; have := GWq.out; omega) _)⟩; clear HO; have HO := q_; clear q_
            clear BKq RB HK; have BKq := n_; have RB := m_; have HK := o_; clear n_ m_ o_
            clear hcxx_0 hfxx_0
            clear hcq_0 hfq_0
            clear hcq_1 hfq_1
            clear hcq_2 hfq_2
            generalize (W6.setCell ⟨q, 1, none⟩ (.int .i64 x2)) = W7 at *
            have hcxx_0 : W7.cell? ⟨xx, 0, none⟩ = some (.slice Ar done.length cr) := (blk_cell BKxx.out 0).trans rfl
            have hfxx_0 := blk_frozen BKxx.out 0
            have hcq_0 : W7.cell? ⟨q, 0, none⟩ = some (.int .i64 x1) := (blk_cell BKq.out 0).trans rfl
            have hfq_0 := blk_frozen BKq.out 0
            have hcq_1 : W7.cell? ⟨q, 1, none⟩ = some (.int .i64 x2) := (blk_cell BKq.out 1).trans rfl
            have hfq_1 := blk_frozen BKq.out 1
            have hcq_2 : W7.cell? ⟨q, 2, none⟩ = some (.int .i64 0) := (blk_cell BKq.out 2).trans rfl
            have hfq_2 := blk_frozen BKq.out 2
            refine (dr_num B A c l s3 _ RB.out (HC.out _ HK.out.kept) HCC.out HBT.out HL.out HSr.out).mono ?_
            rintro e_ W8 ⟨x3, rfl, hk_, hd_, hv_⟩
            have HV3 := Aside0.mk hv_; clear hv_
            obtain ⟨s4, hs4⟩ : ∃ s_, s_ = pl (Option.bind s3 (rdW l)) := ⟨_, rfl⟩
            rw [← hs4] at hd_
            have n_ : Aside0 (Sr l s4) := ⟨by rw [hs4]; exact Sr.num HBT.out⟩
            have HSs4 := Aside0.mk hs4; clear hs4 HSr; have HSr := n_; clear n_
            have n_ := Aside0.mk (blk_kept BKg.out hk_.kept NBg.out); clear BKg; have BKg := n_; clear n_
            have n_ := Aside0.mk (blk_kept BKxx.out hk_.kept NBxx.out); clear BKxx; have BKxx := n_; clear n_
            clear hcxx_0 hfxx_0
            have n_ := Aside0.mk (blk_kept BKq.out hk_.kept NBq.out); clear BKq; have BKq := n_; clear n_
            clear hcq_0 hfq_0
            clear hcq_1 hfq_1
            clear hcq_2 hfq_2
            have n_ := Aside0.mk (Kd.R_kept HO.out hk_.kept (fun k_ h_ e_ => by have := HBw.out; have := (show wb.heap.size ≤ k_ from by first | exact h_ | exact h_.1); omega)); clear HO; have HO := n_; clear n_
            have n_ := Aside0.mk (HK.out.then_ hk_ (fun _ h => .inl h)); clear HK RB; have HK := n_; have RB := Aside0.mk hd_; clear n_ hk_ hd_
            have hcxx_0 : W8.cell? ⟨xx, 0, none⟩ = some (.slice Ar done.length cr) := (blk_cell BKxx.out 0).trans rfl
            have hfxx_0 := blk_frozen BKxx.out 0
            have hcq_0 : W8.cell? ⟨q, 0, none⟩ = some (.int .i64 x1) := (blk_cell BKq.out 0).trans rfl
            have hfq_0 := blk_frozen BKq.out 0
            have hcq_1 : W8.cell? ⟨q, 1, none⟩ = some (.int .i64 x2) := (blk_cell BKq.out 1).trans rfl
            have hfq_1 := blk_frozen BKq.out 1
            have hcq_2 : W8.cell? ⟨q, 2, none⟩ = some (.int .i64 0) := (blk_cell BKq.out 2).trans rfl
            have hfq_2 := blk_frozen BKq.out 2
            go_wp2_with (((with_reducible refine gate_builtin (b := .append) (xs := #[.tmp 64, .tmp 66]) rfl ?_); at_builtin; have n_ : Aside0 ((W8.setCell ⟨q, 2, none⟩ (.int .i64 x3)).heap[q]? = some (.cells #[.int .i64 x1, .int .i64 x2, .int .i64 x3] 48 (0, 0))) := ⟨by refine blk_put (cs := #[.int .i64 x1, .int .i64 x2, .int .i64 0]) ?_ 2 _ rfl; exact BKq.out⟩; have m_ : Aside0 ((W8.setCell ⟨q, 2, none⟩ (.int .i64 x3)).heap[g]? = some (.cells #[.slice none 0 0, .slice none 0 0] 25 (0, 0))) := ⟨(blk_far BKg.out NEg_q.out _)⟩; clear BKg; have BKg := m_; clear m_; have m_ : Aside0 ((W8.setCell ⟨q, 2, none⟩ (.int .i64 x3)).heap[xx]? = some (.cells #[.slice Ar done.length cr, .slice none 0 0] 25 (0, 0))) := ⟨(blk_far BKxx.out NExx_q.out _)⟩; clear BKxx; have BKxx := m_; clear m_; have m_ : Aside0 (Ds (W8.setCell ⟨q, 2, none⟩ (.int .i64 x3)) B A l.length c s4) := ⟨(Ds.far (p := ⟨q, 2, none⟩) RB.out NBq.out.symm _)⟩; have o_ : Aside0 (Kp wb (W8.setCell ⟨q, 2, none⟩ (.int .i64 x3)) (fun k => k = B)) := ⟨(Kp.setCell (p := ⟨q, 2, none⟩) HK.out (.inr GEq.out) _)⟩; have q_ : Aside0 (Kd.R k48 48 (W8.setCell ⟨q, 2, none⟩ (.int .i64 x3)) wb.heap.size (fun k => wb.heap.size ≤ k ∧ k < wr.heap.size) (.slice Ar done.length cr) done) := ⟨(Kd.R_far (p := ⟨q, 2, none⟩) HO.out (fun k_ h_ (e_ : k_ = q) => by have := h_.2; have := GWq.out; omega) _)⟩; clear HO; have HO := q_; clear q_; clear BKq RB HK; have BKq := n_; have RB := m_; have HK := o_; clear n_ m_ o_; clear hcxx_0 hfxx_0; clear hcq_0 hfq_0; clear hcq_1 hfq_1; clear hcq_2 hfq_2; have hsz_ : ((W8.setCell ⟨q, 2, none⟩ (.int .i64 x3))).heap.size = W8.heap.size := (by simp only [World.size_setCell]); generalize (W8.setCell ⟨q, 2, none⟩ (.int .i64 x3)) = W9 at *; have hcxx_0 : W9.cell? ⟨xx, 0, none⟩ = some (.slice Ar done.length cr) := (blk_cell BKxx.out 0).trans rfl; have hfxx_0 := blk_frozen BKxx.out 0; have hcq_0 : W9.cell? ⟨q, 0, none⟩ = some (.int .i64 x1) := (blk_cell BKq.out 0).trans rfl; have hfq_0 := blk_frozen BKq.out 0; have hcq_1 : W9.cell? ⟨q, 1, none⟩ = some (.int .i64 x2) := (blk_cell BKq.out 1).trans rfl; have hfq_1 := blk_frozen BKq.out 1; have hcq_2 : W9.cell? ⟨q, 2, none⟩ = some (.int .i64 x3) := (blk_cell BKq.out 2).trans rfl; have hfq_2 := blk_frozen BKq.out 2; refine Kd.R_append k48 (w0 := W9) wb.heap.size rfl (.tmp 64) (.tmp 66) 22 48 (.agg #[(.int .i64 0), (.int .i64 0), (.int .i64 0)]) 24 rfl Tryd.underlying22 info48 rfl (by decide) (by omega) (.slice Ar done.length cr) done (⟨x1, x2, x3⟩ : S48) [.int .i64 x1, .int .i64 x2, .int .i64 x3] (fun k_ => wb.heap.size ≤ k_) (fun _ => False) rfl (by show Value.slice (some ⟨W8.heap.size, 0, none⟩) 1 1 = _; rw [hsz_]) ?aP ?aK ?aF ?aO ?aB ?aS ?aL ?_; (case aP => exact k48_mkM _ _ _ _); (case aK => exact fun _ h => h.elim); (case aF => exact fun k_ h_ => Nat.le_trans HK.out.1 h_); (case aO => exact Kd.R_mono HO.out (fun _ h => h.1)); (case aB => exact Below.refl _ _); (case aS => exact HK.out.1); (case aL => have h1_ := HKN.out; have h2_ := HLT.out; have h4_ := HN0.out; omega); intro v1 WR ho_ hb_ hg_ hat_; clear hb_ hat_ hsz_; have n_ := Aside0.mk (blk_grown BKg.out hg_ (Kd.R_ne HO.out BKg.out (by decide))); clear BKg; have BKg := n_; clear n_; have n_ := Aside0.mk (blk_grown BKxx.out hg_ (Kd.R_ne HO.out BKxx.out (by decide))); clear BKxx; have BKxx := n_; clear n_; clear hcxx_0 hfxx_0; clear hcq_0 hfq_0; clear hcq_1 hfq_1; clear hcq_2 hfq_2; clear BKq; have n_ := Aside0.mk (Ds.keep RB.out (hg_.block B (Ds.lt RB.out) (fun e_ => by have := Kd.R_base HO.out B e_.symm; have := HBw.out; omega))); have m_ := Aside0.mk (Kp.of_grown hg_ HK.out (fun k_ h_ => .inr (Kd.R_base HO.out k_ h_))); clear RB HK; have RB := n_; have HK := m_; clear n_ m_; clear HO; obtain ⟨d9, hd9⟩ : ∃ d, d = done ++ [(⟨x1, x2, x3⟩ : S48)] := ⟨_, rfl⟩; rw [← hd9] at ho_; have HD9 := Aside0.mk hd9; clear hd9; obtain ⟨A9_, c9_, hv9_⟩ := Kd.R_slice ho_; subst hv9_; have HO := Aside0.mk ho_; clear ho_ hg_; have hcxx_0 : WR.cell? ⟨xx, 0, none⟩ = some (.slice Ar done.length cr) := (blk_cell BKxx.out 0).trans rfl; have hfxx_0 := blk_frozen BKxx.out 0; have hkn_ : (k : Int) + 1 ≤ 9223372036854775807 := (by have := HLT.out; have := HN0.out; omega); have HKNX := Aside0.mk hkn_; clear hkn_))
            rw [w64_succ k HKNX.out]
            have n_ : Aside0 ((WR.setCell ⟨xx, 0, none⟩ (.slice A9_ d9.length c9_)).heap[xx]? = some (.cells #[.slice A9_ d9.length c9_, .slice none 0 0] 25 (0, 0))) := ⟨by refine blk_put (cs := #[.slice Ar done.length cr, .slice none 0 0]) ?_ 0 _ rfl; exact BKxx.out⟩
            have m_ : Aside0 ((WR.setCell ⟨xx, 0, none⟩ (.slice A9_ d9.length c9_)).heap[g]? = some (.cells #[.slice none 0 0, .slice none 0 0] 25 (0, 0))) := ⟨(blk_far BKg.out NEg_xx.out _)⟩; clear BKg; have BKg := m_; clear m_
            have m_ : Aside0 (Ds (WR.setCell ⟨xx, 0, none⟩ (.slice A9_ d9.length c9_)) B A l.length c s4) := ⟨(Ds.far (p := ⟨xx, 0, none⟩) RB.out NBxx.out.symm _)⟩; have o_ : Aside0 (Kp wb (WR.setCell ⟨xx, 0, none⟩ (.slice A9_ d9.length c9_)) (fun k => k = B)) := ⟨(Kp.setCell (p := ⟨xx, 0, none⟩) HK.out (.inr GExx.out) _)⟩
            have q_ : Aside0 (Kd.R k48 48 (WR.setCell ⟨xx, 0, none⟩ (.slice A9_ d9.length c9_)) wb.heap.size (fun k => wb.heap.size ≤ k) (.slice A9_ d9.length c9_) d9) := ⟨(Kd.R_set HO.out BKxx.out (by decide) 0 _)⟩; clear HO; have HO := q_; clear q_
            clear BKxx RB HK; have BKxx := n_; have RB := m_; have HK := o_; clear n_ m_ o_
            clear hcxx_0 hfxx_0
            generalize (WR.setCell ⟨xx, 0, none⟩ (.slice A9_ d9.length c9_)) = W10 at *
            have i_ := glo_comp (s1 := s2) (s2 := s3) (s3 := s4) HSs2.out HV1.out HSs3.out HV2.out HSs4.out HV3.out
            exact ⟨⟨k + 1, d9, A9_, c9_, s4, rfl, ⟨HLT.out, by rw [HD9.out, List.length_append, HKN.out.2]; rfl⟩, ⟨by rw [HD9.out, i_.1]; exact RowSt.step (by rw [show x0.toNat - (k + 1) + 1 = x0.toNat - k by have := HLT.out; omega]; exact HRk.out) i_.2⟩, HSr, HO, RB, HK, BKg, BKxx⟩, by have := HLT.out; simp only [intOf, Int.toNat_natCast]; omega⟩
        · have z1 : decide ((k : Int) < x0) = false := decide_eq_false (by omega)
          have HLT := Aside0.mk hlt
          clear hlt hk hnn
          go_wp2
          go_meet
          case rel =>
            have h_ := RowSt.last (by have := HRk.out; rw [show x0.toNat - k = 0 by have := HLT.out; omega] at this; exact this)
            exact ⟨done, Ar, cr, sk, ⟨h_.1.symm⟩, ⟨h_.2⟩, HSr, HO, RB, HK, BKg, BKxx⟩
    case rest =>
      clear HRW HSr RB HK BKg BKxx
      obtain ⟨gs, Ag, cg, sg, HSG, HVG, HSr, HG, RB, HK, BKg, BKxx⟩ := hcut
      go_wp2_with fail
      refine (dr_many B A c l sg 64 _ ⟨by decide, by decide⟩ RB.out (HC.out _ HK.out.kept) HCC.out HBT.out HL.out HSr.out).mono ?_
      rintro e_ W11 ⟨x4, rfl, hn_, hk_, hd_, hv_, hz_⟩
      have HV4 := Aside0.mk hv_; have HN4 := Aside0.mk hn_; clear hv_ hz_ hn_
      obtain ⟨s5, hs5⟩ : ∃ s_, s_ = pl (rM 64 (Option.bind sg (rdN l))) := ⟨_, rfl⟩
      rw [← hs5] at hd_
      have n_ : Aside0 (Sr l s5) := ⟨by rw [hs5]; exact Sr.many (Sr.nat HBT.out)⟩
      have HSs5 := Aside0.mk hs5; clear hs5 HSr; have HSr := n_; clear n_
      have n_ := Aside0.mk (blk_kept BKg.out hk_.kept NBg.out); clear BKg; have BKg := n_; clear n_
      have n_ := Aside0.mk (blk_kept BKxx.out hk_.kept NBxx.out); clear BKxx; have BKxx := n_; clear n_
      have n_ := Aside0.mk (Kd.R_kept HG.out hk_.kept (fun k_ h_ e_ => by have := HBw.out; have := (show wb.heap.size ≤ k_ from by first | exact h_ | exact h_.1); omega)); clear HG; have HG := n_; clear n_
      have n_ := Aside0.mk (HK.out.then_ hk_ (fun _ h => .inl h)); clear HK RB; have HK := n_; have RB := Aside0.mk hd_; clear n_ hk_ hd_
      have HRW : Aside0 (RowSt (rdF l) x4.toNat (Option.bind sg (rdRows (rdF l) 64 l)) s5 []) := ⟨by rw [rows_link HV4.out, ← HSs5.out]; exact RowSt.start⟩
      obtain ⟨RF, hRF⟩ : ∃ R, R = Option.bind sg (rdRows (rdF l) 64 l) := ⟨_, rfl⟩
      rw [← hRF] at HRW
      have HRF := Aside0.mk hRF; clear hRF
      go_upto_block 2 with (fail)
      go_cut [] (fun wx => ∃ (fs : List S54) (Af : Option Addr) (cf : Nat) (sf : Option Int), Aside0 (sf = pl RF) ∧ Aside0 (Vs RF fs) ∧ Aside0 (Sr l sf) ∧ Aside0 (∀ f ∈ fs, fnIn f) ∧ Aside0 (Kd.R k54 54 wx wb.heap.size (fun k_ => wb.heap.size ≤ k_) (.slice Af fs.length cf) fs) ∧ Aside0 (Ds wx B A l.length c sf) ∧ Aside0 (Kp wb wx (fun k_ => k_ = B)) ∧ Aside0 (wx.heap[g]? = some (.cells #[.slice none 0 0, .slice none 0 0] 25 (0, 0))) ∧ Aside0 (wx.heap[xx]? = some (.cells #[.slice Ag gs.length cg, .slice Af fs.length cf] 25 (0, 0))) ∧ Aside0 (Kd.R k48 48 wx wb.heap.size (fun k => wb.heap.size ≤ k) (.slice Ag gs.length cg) gs))
      case first =>
        go_wp2_with fail
        go_loopw [11] (fun vi wr => ∃ (k : Nat) (done : List S54) (Ar : Option Addr) (cr : Nat) (sk : Option Int), vi = .int .i64 k ∧ Aside0 (k ≤ x4.toNat ∧ done.length = k) ∧ Aside0 (RowSt (rdF l) (x4.toNat - k) RF sk done) ∧ Aside0 (Sr l sk) ∧ Aside0 (∀ f ∈ done, fnIn f) ∧ Aside0 (Kd.R k54 54 wr wb.heap.size (fun k_ => wb.heap.size ≤ k_) (.slice Ar done.length cr) done) ∧ Aside0 (Ds wr B A l.length c sk) ∧ Aside0 (Kp wb wr (fun k_ => k_ = B)) ∧ Aside0 (wr.heap[g]? = some (.cells #[.slice none 0 0, .slice none 0 0] 25 (0, 0))) ∧ Aside0 (wr.heap[xx]? = some (.cells #[.slice Ag gs.length cg, .slice Ar done.length cr] 25 (0, 0))) ∧ Aside0 (Kd.R k48 48 wr wb.heap.size (fun k => wb.heap.size ≤ k) (.slice Ag gs.length cg) gs)) (fun v _ => x4.toNat - (intOf v).toNat)
        case atStart => exact ⟨0, [], none, 0, _, rfl, ⟨Nat.zero_le _, rfl⟩, HRW, HSr, ⟨fun f h => by cases h⟩, ⟨Kd.R_nil _ _ _ _ _⟩, RB, HK, BKg, BKxx, HG⟩
        case round =>
          clear HRW HSr RB HK BKg BKxx HG
          obtain ⟨k, done, Ar, cr, sk, rfl, HKN, HRk, HSr, HFI, HO, RB, HK, BKg, BKxx, HG⟩ := hrel
          have hk := HKN.out
          have hnn := HN4.out
          have hcxx_1 : wr.cell? ⟨xx, 1, none⟩ = some (.slice Ar done.length cr) := (blk_cell BKxx.out 1).trans rfl
          have hfxx_1 := blk_frozen BKxx.out 1
          by_cases hlt : k < x4.toNat
          · have z1 : decide ((k : Int) < x4) = true := decide_eq_true (by omega)
            have HLT := Aside0.mk hlt
            cases sk with
            | none =>
              obtain ⟨i_, hb_⟩ := RB.out.bad
              have hcB2 : wr.cell? ⟨B, 2, none⟩ = some (.bool true) := (blk_cell hb_ 2).trans rfl
              clear hlt hk hnn hb_
              go_wp2
              go_meet
              case rel =>
                have h_ := HRk.out.bad
                exact ⟨done, Ar, cr, none, ⟨h_.1.symm⟩, ⟨h_.2⟩, HSr, HFI, HO, RB, HK, BKg, BKxx, HG⟩
            | some j =>
              have hb_ := RB.out.good
              have hcB2 : wr.cell? ⟨B, 2, none⟩ = some (.bool false) := (blk_cell hb_ 2).trans rfl
              have HLT2 := Aside0.mk (fun k_ => own_lt (Kd.R_own HO.out).choose_spec k_)
              clear hlt hk hnn hb_
              have q_ := Aside0.mk (Kd.R_mono (Kd.R_bound HO.out) (fun k_ h_ => (⟨h_.1, h_.2.2.1⟩ : wb.heap.size ≤ k_ ∧ k_ < wr.heap.size))); clear HO; have HO := q_; clear q_
              have HKr := Aside0.mk HK.out.1
              go_wp2_with fail
              clear hcB2
              refine (dr_fn B A c l j _ RB.out (fun W' hk_ => HC.out W' (Kept.then_ HK.out.kept hk_ (fun _ h => .inl h))) HCC.out HBT.out HL.out HSr.out).mono ?_
              rintro e_ W12 ⟨A1_, c1_, A3_, c3_, A4_, c4_, y, rfl, h1_, h3_, h4_, hfi_, hk_, hd_, hv_⟩
              have HVy := Aside0.mk hv_; have HFy := Aside0.mk hfi_; have HM1_ := Aside0.mk (Kd.R_lower h1_ HK.out.1); have HM3_ := Aside0.mk (Kd.R_lower h3_ HK.out.1); have HM4_ := Aside0.mk (Kd.R_lower h4_ HK.out.1); have HWR := Aside0.mk hk_.1; clear hv_ hfi_ h1_ h3_ h4_
              obtain ⟨s6, hs6⟩ : ∃ s_, s_ = pl (rdF l j) := ⟨_, rfl⟩
              rw [← hs6] at hd_
              have n_ : Aside0 (Sr l s6) := ⟨by rw [hs6]; exact Sr.fn HBT.out⟩
              have HSs6 := Aside0.mk hs6; clear hs6 HSr; have HSr := n_; clear n_
              have n_ := Aside0.mk (blk_kept BKg.out hk_.kept NBg.out); clear BKg; have BKg := n_; clear n_
              have n_ := Aside0.mk (blk_kept BKxx.out hk_.kept NBxx.out); clear BKxx; have BKxx := n_; clear n_
              clear hcxx_1 hfxx_1
              have n_ := Aside0.mk (Kd.R_kept HG.out hk_.kept (fun k_ h_ e_ => by have := HBw.out; have := (show wb.heap.size ≤ k_ from by first | exact h_ | exact h_.1); omega)); clear HG; have HG := n_; clear n_
              have n_ := Aside0.mk (Kd.R_kept HO.out hk_.kept (fun k_ h_ e_ => by have := HBw.out; have := (show wb.heap.size ≤ k_ from by first | exact h_ | exact h_.1); omega)); clear HO; have HO := n_; clear n_
              have n_ := Aside0.mk (HK.out.then_ hk_ (fun _ h => .inl h)); clear HK RB; have HK := n_; have RB := Aside0.mk hd_; clear n_ hk_ hd_
              have HM1 := HM1_; clear HM1_
              have HM3 := HM3_; clear HM3_
              have HM4 := HM4_; clear HM4_
              have hcxx_1 : W12.cell? ⟨xx, 1, none⟩ = some (.slice Ar done.length cr) := (blk_cell BKxx.out 1).trans rfl
              have hfxx_1 := blk_frozen BKxx.out 1
              go_wp2_with (first | ((with_reducible refine gate_dst (N := 12) rfl ?_); refine box_event ?hg (N := 12) ?hd (cs := #[.string (⟨#[]⟩ : ByteArray), .slice none 0 0, .int .i64 0, .slice none 0 0, .slice none 0 0]) (t := 54) ?hr ?_; (case hd => rfl); (case hg => rfl); (case hr => first | (go_simp; done) | (go_simp; rfl)); intro q hg_ W13 hbox_ hb_; have GEq := Aside0.mk (by rw [hg_]; exact HK.out.1 : wb.heap.size ≤ q); have NBq : Aside0 (q ≠ B) := ⟨(by rw [hg_]; exact Ne.symm (Nat.ne_of_lt (Ds.lt RB.out)))⟩; have NEg_q : Aside0 (g ≠ q) := ⟨by rw [hg_]; exact Nat.ne_of_lt (blk_lt BKg.out)⟩; have NExx_q : Aside0 (xx ≠ q) := ⟨by rw [hg_]; exact Nat.ne_of_lt (blk_lt BKxx.out)⟩; have n_ := Aside0.mk (blk_below BKg.out hb_); clear BKg; have BKg := n_; clear n_; have n_ := Aside0.mk (blk_below BKxx.out hb_); clear BKxx; have BKxx := n_; clear n_; clear hcxx_1 hfxx_1; have GWq := Aside0.mk (by rw [hg_]; exact HWR.out : wr.heap.size ≤ q); clear hg_; have n_ := Aside0.mk (Ds.below RB.out hb_); clear RB; have RB := n_; clear n_; have n_ := Aside0.mk (Kp.below HK.out hb_); clear HK; have HK := n_; clear n_; have n_ := Aside0.mk (Kd.R_below HG.out hb_); clear HG; have HG := n_; clear n_; have n_ := Aside0.mk (Kd.R_below HO.out hb_); clear HO; have HO := n_; clear n_; have n_ := Aside0.mk (Kd.R_below HM1.out hb_); clear HM1; have HM1 := n_; clear n_; have n_ := Aside0.mk (Kd.R_below HM3.out hb_); clear HM3; have HM3 := n_; clear n_; have n_ := Aside0.mk (Kd.R_below HM4.out hb_); clear HM4; have HM4 := n_; clear n_; have hneq1 : q ≠ xx := NExx_q.out.symm; have hneq2 : xx ≠ q := NExx_q.out; have BKq := Aside0.mk hbox_; clear hbox_ hb_; have hcxx_1 : W13.cell? ⟨xx, 1, none⟩ = some (.slice Ar done.length cr) := (blk_cell BKxx.out 1).trans rfl; have hfxx_1 := blk_frozen BKxx.out 1; have hcq_0 : W13.cell? ⟨q, 0, none⟩ = some (.string (⟨#[]⟩ : ByteArray)) := (blk_cell BKq.out 0).trans rfl; have hfq_0 := blk_frozen BKq.out 0; have hcq_1 : W13.cell? ⟨q, 1, none⟩ = some (.slice none 0 0) := (blk_cell BKq.out 1).trans rfl; have hfq_1 := blk_frozen BKq.out 1; have hcq_2 : W13.cell? ⟨q, 2, none⟩ = some (.int .i64 0) := (blk_cell BKq.out 2).trans rfl; have hfq_2 := blk_frozen BKq.out 2; have hcq_3 : W13.cell? ⟨q, 3, none⟩ = some (.slice none 0 0) := (blk_cell BKq.out 3).trans rfl; have hfq_3 := blk_frozen BKq.out 3; have hcq_4 : W13.cell? ⟨q, 4, none⟩ = some (.slice none 0 0) := (blk_cell BKq.out 4).trans rfl; have hfq_4 := blk_frozen BKq.out 4) | ((with_reducible refine gate_builtin (b := .append) (xs := #[.tmp 86, .tmp 88]) rfl ?_); at_builtin; have n_ : Aside0 ((((((W13.setCell ⟨q, 0, none⟩ (.string y.f0)).setCell ⟨q, 1, none⟩ (.slice A1_ y.f1.length c1_)).setCell ⟨q, 2, none⟩ (.int .i64 y.f2)).setCell ⟨q, 3, none⟩ (.slice A3_ y.f3.length c3_)).setCell ⟨q, 4, none⟩ (.slice A4_ y.f4.length c4_)).heap[q]? = some (.cells #[.string y.f0, .slice A1_ y.f1.length c1_, .int .i64 y.f2, .slice A3_ y.f3.length c3_, .slice A4_ y.f4.length c4_] 54 (0, 0))) := ⟨by refine blk_put (cs := #[.string y.f0, .slice A1_ y.f1.length c1_, .int .i64 y.f2, .slice A3_ y.f3.length c3_, .slice none 0 0]) ?_ 4 _ rfl; refine blk_put (cs := #[.string y.f0, .slice A1_ y.f1.length c1_, .int .i64 y.f2, .slice none 0 0, .slice none 0 0]) ?_ 3 _ rfl; refine blk_put (cs := #[.string y.f0, .slice A1_ y.f1.length c1_, .int .i64 0, .slice none 0 0, .slice none 0 0]) ?_ 2 _ rfl; refine blk_put (cs := #[.string y.f0, .slice none 0 0, .int .i64 0, .slice none 0 0, .slice none 0 0]) ?_ 1 _ rfl; refine blk_put (cs := #[.string (⟨#[]⟩ : ByteArray), .slice none 0 0, .int .i64 0, .slice none 0 0, .slice none 0 0]) ?_ 0 _ rfl; exact BKq.out⟩; have m_ : Aside0 ((((((W13.setCell ⟨q, 0, none⟩ (.string y.f0)).setCell ⟨q, 1, none⟩ (.slice A1_ y.f1.length c1_)).setCell ⟨q, 2, none⟩ (.int .i64 y.f2)).setCell ⟨q, 3, none⟩ (.slice A3_ y.f3.length c3_)).setCell ⟨q, 4, none⟩ (.slice A4_ y.f4.length c4_)).heap[g]? = some (.cells #[.slice none 0 0, .slice none 0 0] 25 (0, 0))) := ⟨(blk_far (blk_far (blk_far (blk_far (blk_far BKg.out NEg_q.out _) NEg_q.out _) NEg_q.out _) NEg_q.out _) NEg_q.out _)⟩; clear BKg; have BKg := m_; clear m_; have m_ : Aside0 ((((((W13.setCell ⟨q, 0, none⟩ (.string y.f0)).setCell ⟨q, 1, none⟩ (.slice A1_ y.f1.length c1_)).setCell ⟨q, 2, none⟩ (.int .i64 y.f2)).setCell ⟨q, 3, none⟩ (.slice A3_ y.f3.length c3_)).setCell ⟨q, 4, none⟩ (.slice A4_ y.f4.length c4_)).heap[xx]? = some (.cells #[.slice Ag gs.length cg, .slice Ar done.length cr] 25 (0, 0))) := ⟨(blk_far (blk_far (blk_far (blk_far (blk_far BKxx.out NExx_q.out _) NExx_q.out _) NExx_q.out _) NExx_q.out _) NExx_q.out _)⟩; clear BKxx; have BKxx := m_; clear m_; have m_ : Aside0 (Ds (((((W13.setCell ⟨q, 0, none⟩ (.string y.f0)).setCell ⟨q, 1, none⟩ (.slice A1_ y.f1.length c1_)).setCell ⟨q, 2, none⟩ (.int .i64 y.f2)).setCell ⟨q, 3, none⟩ (.slice A3_ y.f3.length c3_)).setCell ⟨q, 4, none⟩ (.slice A4_ y.f4.length c4_)) B A l.length c s6) := ⟨(Ds.far (p := ⟨q, 4, none⟩) (Ds.far (p := ⟨q, 3, none⟩) (Ds.far (p := ⟨q, 2, none⟩) (Ds.far (p := ⟨q, 1, none⟩) (Ds.far (p := ⟨q, 0, none⟩) RB.out NBq.out.symm _) NBq.out.symm _) NBq.out.symm _) NBq.out.symm _) NBq.out.symm _)⟩; have o_ : Aside0 (Kp wb (((((W13.setCell ⟨q, 0, none⟩ (.string y.f0)).setCell ⟨q, 1, none⟩ (.slice A1_ y.f1.length c1_)).setCell ⟨q, 2, none⟩ (.int .i64 y.f2)).setCell ⟨q, 3, none⟩ (.slice A3_ y.f3.length c3_)).setCell ⟨q, 4, none⟩ (.slice A4_ y.f4.length c4_)) (fun k => k = B)) := ⟨(Kp.setCell (p := ⟨q, 4, none⟩) (Kp.setCell (p := ⟨q, 3, none⟩) (Kp.setCell (p := ⟨q, 2, none⟩) (Kp.setCell (p := ⟨q, 1, none⟩) (Kp.setCell (p := ⟨q, 0, none⟩) HK.out (.inr GEq.out) _) (.inr GEq.out) _) (.inr GEq.out) _) (.inr GEq.out) _) (.inr GEq.out) _)⟩; have q_ : Aside0 (Kd.R k48 48 (((((W13.setCell ⟨q, 0, none⟩ (.string y.f0)).setCell ⟨q, 1, none⟩ (.slice A1_ y.f1.length c1_)).setCell ⟨q, 2, none⟩ (.int .i64 y.f2)).setCell ⟨q, 3, none⟩ (.slice A3_ y.f3.length c3_)).setCell ⟨q, 4, none⟩ (.slice A4_ y.f4.length c4_)) wb.heap.size (fun k => wb.heap.size ≤ k) (.slice Ag gs.length cg) gs) := ⟨(Kd.R_set (Kd.R_set (Kd.R_set (Kd.R_set (Kd.R_set HG.out BKq.out (by decide) 0 _) (blk_put (cs := #[.string (⟨#[]⟩ : ByteArray), .slice none 0 0, .int .i64 0, .slice none 0 0, .slice none 0 0]) BKq.out 0 _ rfl) (by decide) 1 _) (blk_put (cs := #[.string y.f0, .slice none 0 0, .int .i64 0, .slice none 0 0, .slice none 0 0]) (blk_put (cs := #[.string (⟨#[]⟩ : ByteArray), .slice none 0 0, .int .i64 0, .slice none 0 0, .slice none 0 0]) BKq.out 0 _ rfl) 1 _ rfl) (by decide) 2 _) (blk_put (cs := #[.string y.f0, .slice A1_ y.f1.length c1_, .int .i64 0, .slice none 0 0, .slice none 0 0]) (blk_put (cs := #[.string y.f0, .slice none 0 0, .int .i64 0, .slice none 0 0, .slice none 0 0]) (blk_put (cs := #[.string (⟨#[]⟩ : ByteArray), .slice none 0 0, .int .i64 0, .slice none 0 0, .slice none 0 0]) BKq.out 0 _ rfl) 1 _ rfl) 2 _ rfl) (by decide) 3 _) (blk_put (cs := #[.string y.f0, .slice A1_ y.f1.length c1_, .int .i64 y.f2, .slice none 0 0, .slice none 0 0]) (blk_put (cs := #[.string y.f0, .slice A1_ y.f1.length c1_, .int .i64 0, .slice none 0 0, .slice none 0 0]) (blk_put (cs := #[.string y.f0, .slice none 0 0, .int .i64 0, .slice none 0 0, .slice none 0 0]) (blk_put (cs := #[.string (⟨#[]⟩ : ByteArray), .slice none 0 0, .int .i64 0, .slice none 0 0, .slice none 0 0]) BKq.out 0 _ rfl) 1 _ rfl) 2 _ rfl) 3 _ rfl) (by decide) 4 _)⟩; clear HG; have HG := q_; clear q_; have q_ : Aside0 (Kd.R k54 54 (((((W13.setCell ⟨q, 0, none⟩ (.string y.f0)).setCell ⟨q, 1, none⟩ (.slice A1_ y.f1.length c1_)).setCell ⟨q, 2, none⟩ (.int .i64 y.f2)).setCell ⟨q, 3, none⟩ (.slice A3_ y.f3.length c3_)).setCell ⟨q, 4, none⟩ (.slice A4_ y.f4.length c4_)) wb.heap.size (fun k => wb.heap.size ≤ k ∧ k < wr.heap.size) (.slice Ar done.length cr) done) := ⟨(Kd.R_far (p := ⟨q, 4, none⟩) (Kd.R_far (p := ⟨q, 3, none⟩) (Kd.R_far (p := ⟨q, 2, none⟩) (Kd.R_far (p := ⟨q, 1, none⟩) (Kd.R_far (p := ⟨q, 0, none⟩) HO.out (fun k_ h_ (e_ : k_ = q) => by have := h_.2; have := GWq.out; omega) _) (fun k_ h_ (e_ : k_ = q) => by have := h_.2; have := GWq.out; omega) _) (fun k_ h_ (e_ : k_ = q) => by have := h_.2; have := GWq.out; omega) _) (fun k_ h_ (e_ : k_ = q) => by have := h_.2; have := GWq.out; omega) _) (fun k_ h_ (e_ : k_ = q) => by have := h_.2; have := GWq.out; omega) _)⟩; clear HO; have HO := q_; clear q_; have q_ : Aside0 (Kd.R (Kd.int .i64) 3 (((((W13.setCell ⟨q, 0, none⟩ (.string y.f0)).setCell ⟨q, 1, none⟩ (.slice A1_ y.f1.length c1_)).setCell ⟨q, 2, none⟩ (.int .i64 y.f2)).setCell ⟨q, 3, none⟩ (.slice A3_ y.f3.length c3_)).setCell ⟨q, 4, none⟩ (.slice A4_ y.f4.length c4_)) wb.heap.size (fun k => wr.heap.size ≤ k) (.slice A1_ y.f1.length c1_) y.f1) := ⟨(Kd.R_set (Kd.R_set (Kd.R_set (Kd.R_set (Kd.R_set HM1.out BKq.out (by decide) 0 _) (blk_put (cs := #[.string (⟨#[]⟩ : ByteArray), .slice none 0 0, .int .i64 0, .slice none 0 0, .slice none 0 0]) BKq.out 0 _ rfl) (by decide) 1 _) (blk_put (cs := #[.string y.f0, .slice none 0 0, .int .i64 0, .slice none 0 0, .slice none 0 0]) (blk_put (cs := #[.string (⟨#[]⟩ : ByteArray), .slice none 0 0, .int .i64 0, .slice none 0 0, .slice none 0 0]) BKq.out 0 _ rfl) 1 _ rfl) (by decide) 2 _) (blk_put (cs := #[.string y.f0, .slice A1_ y.f1.length c1_, .int .i64 0, .slice none 0 0, .slice none 0 0]) (blk_put (cs := #[.string y.f0, .slice none 0 0, .int .i64 0, .slice none 0 0, .slice none 0 0]) (blk_put (cs := #[.string (⟨#[]⟩ : ByteArray), .slice none 0 0, .int .i64 0, .slice none 0 0, .slice none 0 0]) BKq.out 0 _ rfl) 1 _ rfl) 2 _ rfl) (by decide) 3 _) (blk_put (cs := #[.string y.f0, .slice A1_ y.f1.length c1_, .int .i64 y.f2, .slice none 0 0, .slice none 0 0]) (blk_put (cs := #[.string y.f0, .slice A1_ y.f1.length c1_, .int .i64 0, .slice none 0 0, .slice none 0 0]) (blk_put (cs := #[.string y.f0, .slice none 0 0, .int .i64 0, .slice none 0 0, .slice none 0 0]) (blk_put (cs := #[.string (⟨#[]⟩ : ByteArray), .slice none 0 0, .int .i64 0, .slice none 0 0, .slice none 0 0]) BKq.out 0 _ rfl) 1 _ rfl) 2 _ rfl) 3 _ rfl) (by decide) 4 _)⟩; clear HM1; have HM1 := q_; clear q_; have q_ : Aside0 (Kd.R (Kd.int .i64) 3 (((((W13.setCell ⟨q, 0, none⟩ (.string y.f0)).setCell ⟨q, 1, none⟩ (.slice A1_ y.f1.length c1_)).setCell ⟨q, 2, none⟩ (.int .i64 y.f2)).setCell ⟨q, 3, none⟩ (.slice A3_ y.f3.length c3_)).setCell ⟨q, 4, none⟩ (.slice A4_ y.f4.length c4_)) wb.heap.size (fun k => wr.heap.size ≤ k) (.slice A3_ y.f3.length c3_) y.f3) := ⟨(Kd.R_set (Kd.R_set (Kd.R_set (Kd.R_set (Kd.R_set HM3.out BKq.out (by decide) 0 _) (blk_put (cs := #[.string (⟨#[]⟩ : ByteArray), .slice none 0 0, .int .i64 0, .slice none 0 0, .slice none 0 0]) BKq.out 0 _ rfl) (by decide) 1 _) (blk_put (cs := #[.string y.f0, .slice none 0 0, .int .i64 0, .slice none 0 0, .slice none 0 0]) (blk_put (cs := #[.string (⟨#[]⟩ : ByteArray), .slice none 0 0, .int .i64 0, .slice none 0 0, .slice none 0 0]) BKq.out 0 _ rfl) 1 _ rfl) (by decide) 2 _) (blk_put (cs := #[.string y.f0, .slice A1_ y.f1.length c1_, .int .i64 0, .slice none 0 0, .slice none 0 0]) (blk_put (cs := #[.string y.f0, .slice none 0 0, .int .i64 0, .slice none 0 0, .slice none 0 0]) (blk_put (cs := #[.string (⟨#[]⟩ : ByteArray), .slice none 0 0, .int .i64 0, .slice none 0 0, .slice none 0 0]) BKq.out 0 _ rfl) 1 _ rfl) 2 _ rfl) (by decide) 3 _) (blk_put (cs := #[.string y.f0, .slice A1_ y.f1.length c1_, .int .i64 y.f2, .slice none 0 0, .slice none 0 0]) (blk_put (cs := #[.string y.f0, .slice A1_ y.f1.length c1_, .int .i64 0, .slice none 0 0, .slice none 0 0]) (blk_put (cs := #[.string y.f0, .slice none 0 0, .int .i64 0, .slice none 0 0, .slice none 0 0]) (blk_put (cs := #[.string (⟨#[]⟩ : ByteArray), .slice none 0 0, .int .i64 0, .slice none 0 0, .slice none 0 0]) BKq.out 0 _ rfl) 1 _ rfl) 2 _ rfl) 3 _ rfl) (by decide) 4 _)⟩; clear HM3; have HM3 := q_; clear q_; have q_ : Aside0 (Kd.R k50 50 (((((W13.setCell ⟨q, 0, none⟩ (.string y.f0)).setCell ⟨q, 1, none⟩ (.slice A1_ y.f1.length c1_)).setCell ⟨q, 2, none⟩ (.int .i64 y.f2)).setCell ⟨q, 3, none⟩ (.slice A3_ y.f3.length c3_)).setCell ⟨q, 4, none⟩ (.slice A4_ y.f4.length c4_)) wb.heap.size (fun k => wr.heap.size ≤ k) (.slice A4_ y.f4.length c4_) y.f4) := ⟨(Kd.R_set (Kd.R_set (Kd.R_set (Kd.R_set (Kd.R_set HM4.out BKq.out (by decide) 0 _) (blk_put (cs := #[.string (⟨#[]⟩ : ByteArray), .slice none 0 0, .int .i64 0, .slice none 0 0, .slice none 0 0]) BKq.out 0 _ rfl) (by decide) 1 _) (blk_put (cs := #[.string y.f0, .slice none 0 0, .int .i64 0, .slice none 0 0, .slice none 0 0]) (blk_put (cs := #[.string (⟨#[]⟩ : ByteArray), .slice none 0 0, .int .i64 0, .slice none 0 0, .slice none 0 0]) BKq.out 0 _ rfl) 1 _ rfl) (by decide) 2 _) (blk_put (cs := #[.string y.f0, .slice A1_ y.f1.length c1_, .int .i64 0, .slice none 0 0, .slice none 0 0]) (blk_put (cs := #[.string y.f0, .slice none 0 0, .int .i64 0, .slice none 0 0, .slice none 0 0]) (blk_put (cs := #[.string (⟨#[]⟩ : ByteArray), .slice none 0 0, .int .i64 0, .slice none 0 0, .slice none 0 0]) BKq.out 0 _ rfl) 1 _ rfl) 2 _ rfl) (by decide) 3 _) (blk_put (cs := #[.string y.f0, .slice A1_ y.f1.length c1_, .int .i64 y.f2, .slice none 0 0, .slice none 0 0]) (blk_put (cs := #[.string y.f0, .slice A1_ y.f1.length c1_, .int .i64 0, .slice none 0 0, .slice none 0 0]) (blk_put (cs := #[.string y.f0, .slice none 0 0, .int .i64 0, .slice none 0 0, .slice none 0 0]) (blk_put (cs := #[.string (⟨#[]⟩ : ByteArray), .slice none 0 0, .int .i64 0, .slice none 0 0, .slice none 0 0]) BKq.out 0 _ rfl) 1 _ rfl) 2 _ rfl) 3 _ rfl) (by decide) 4 _)⟩; clear HM4; have HM4 := q_; clear q_; clear BKq RB HK; have BKq := n_; have RB := m_; have HK := o_; clear n_ m_ o_; clear hcxx_1 hfxx_1; clear hcq_0 hfq_0; clear hcq_1 hfq_1; clear hcq_2 hfq_2; clear hcq_3 hfq_3; clear hcq_4 hfq_4; have hsz_ : ((((((W13.setCell ⟨q, 0, none⟩ (.string y.f0)).setCell ⟨q, 1, none⟩ (.slice A1_ y.f1.length c1_)).setCell ⟨q, 2, none⟩ (.int .i64 y.f2)).setCell ⟨q, 3, none⟩ (.slice A3_ y.f3.length c3_)).setCell ⟨q, 4, none⟩ (.slice A4_ y.f4.length c4_))).heap.size = W13.heap.size := (by simp only [World.size_setCell]); generalize (((((W13.setCell ⟨q, 0, none⟩ (.string y.f0)).setCell ⟨q, 1, none⟩ (.slice A1_ y.f1.length c1_)).setCell ⟨q, 2, none⟩ (.int .i64 y.f2)).setCell ⟨q, 3, none⟩ (.slice A3_ y.f3.length c3_)).setCell ⟨q, 4, none⟩ (.slice A4_ y.f4.length c4_)) = W14 at *; have hcxx_1 : W14.cell? ⟨xx, 1, none⟩ = some (.slice Ar done.length cr) := (blk_cell BKxx.out 1).trans rfl; have hfxx_1 := blk_frozen BKxx.out 1; have hcq_0 : W14.cell? ⟨q, 0, none⟩ = some (.string y.f0) := (blk_cell BKq.out 0).trans rfl; have hfq_0 := blk_frozen BKq.out 0; have hcq_1 : W14.cell? ⟨q, 1, none⟩ = some (.slice A1_ y.f1.length c1_) := (blk_cell BKq.out 1).trans rfl; have hfq_1 := blk_frozen BKq.out 1; have hcq_2 : W14.cell? ⟨q, 2, none⟩ = some (.int .i64 y.f2) := (blk_cell BKq.out 2).trans rfl; have hfq_2 := blk_frozen BKq.out 2; have hcq_3 : W14.cell? ⟨q, 3, none⟩ = some (.slice A3_ y.f3.length c3_) := (blk_cell BKq.out 3).trans rfl; have hfq_3 := blk_frozen BKq.out 3; have hcq_4 : W14.cell? ⟨q, 4, none⟩ = some (.slice A4_ y.f4.length c4_) := (blk_cell BKq.out 4).trans rfl; have hfq_4 := blk_frozen BKq.out 4; refine Kd.R_append k54 (w0 := W14) wb.heap.size rfl (.tmp 86) (.tmp 88) 23 54 (.agg #[(.string ⟨#[]⟩), (.slice none 0 0), (.int .i64 0), (.slice none 0 0), (.slice none 0 0)]) 96 rfl Tryd.underlying23 info54 rfl (by decide) (by omega) (.slice Ar done.length cr) done (y) [.string y.f0, .slice A1_ y.f1.length c1_, .int .i64 y.f2, .slice A3_ y.f3.length c3_, .slice A4_ y.f4.length c4_] (fun k_ => wb.heap.size ≤ k_) (fun k_ => wr.heap.size ≤ k_) rfl (by show Value.slice (some ⟨W13.heap.size, 0, none⟩) 1 1 = _; rw [hsz_]) ?aP ?aK ?aF ?aO ?aB ?aS ?aL ?_; (case aP => exact k54_mkM _ _ _ y HM1.out HM3.out HM4.out); (case aK => exact fun k_ h_ => ⟨Nat.le_trans HKr.out h_, fun e_ => by have := HLT2.out k_ e_.symm; omega⟩); (case aF => exact fun k_ h_ => Nat.le_trans HK.out.1 h_); (case aO => exact Kd.R_mono HO.out (fun _ h => h.1)); (case aB => exact Below.refl _ _); (case aS => exact HK.out.1); (case aL => have h1_ := HKN.out; have h2_ := HLT.out; have h4_ := HN4.out; omega); intro v1 WR ho_ hb_ hg_ hat_; clear hb_ hat_ hsz_; have n_ := Aside0.mk (blk_grown BKg.out hg_ (Kd.R_ne HO.out BKg.out (by decide))); clear BKg; have BKg := n_; clear n_; have n_ := Aside0.mk (blk_grown BKxx.out hg_ (Kd.R_ne HO.out BKxx.out (by decide))); clear BKxx; have BKxx := n_; clear n_; clear hcxx_1 hfxx_1; clear hcq_0 hfq_0; clear hcq_1 hfq_1; clear hcq_2 hfq_2; clear hcq_3 hfq_3; clear hcq_4 hfq_4; clear BKq; have n_ := Aside0.mk (Kd.R_over' HG.out (Kd.R_typed HO.out) (by decide) hg_); clear HG; have HG := n_; clear n_ HM1 HM3 HM4 hneq1 hneq2; have n_ := Aside0.mk (Ds.keep RB.out (hg_.block B (Ds.lt RB.out) (fun e_ => by have := Kd.R_base HO.out B e_.symm; have := HBw.out; omega))); have m_ := Aside0.mk (Kp.of_grown hg_ HK.out (fun k_ h_ => .inr (Kd.R_base HO.out k_ h_))); clear RB HK; have RB := n_; have HK := m_; clear n_ m_; clear HO; obtain ⟨d9, hd9⟩ : ∃ d, d = done ++ [y] := ⟨_, rfl⟩; rw [← hd9] at ho_; have HD9 := Aside0.mk hd9; clear hd9; obtain ⟨A9_, c9_, hv9_⟩ := Kd.R_slice ho_; subst hv9_; have HO := Aside0.mk ho_; clear ho_ hg_; have hcxx_1 : WR.cell? ⟨xx, 1, none⟩ = some (.slice Ar done.length cr) := (blk_cell BKxx.out 1).trans rfl; have hfxx_1 := blk_frozen BKxx.out 1; have hkn_ : (k : Int) + 1 ≤ 9223372036854775807 := (by have := HLT.out; have := HN4.out; omega); have HKNX := Aside0.mk hkn_; clear hkn_))
              rw [w64_succ k HKNX.out]
              have n_ : Aside0 ((WR.setCell ⟨xx, 1, none⟩ (.slice A9_ d9.length c9_)).heap[xx]? = some (.cells #[.slice Ag gs.length cg, .slice A9_ d9.length c9_] 25 (0, 0))) := ⟨by refine blk_put (cs := #[.slice Ag gs.length cg, .slice Ar done.length cr]) ?_ 1 _ rfl; exact BKxx.out⟩
              have m_ : Aside0 ((WR.setCell ⟨xx, 1, none⟩ (.slice A9_ d9.length c9_)).heap[g]? = some (.cells #[.slice none 0 0, .slice none 0 0] 25 (0, 0))) := ⟨(blk_far BKg.out NEg_xx.out _)⟩; clear BKg; have BKg := m_; clear m_
              have m_ : Aside0 (Ds (WR.setCell ⟨xx, 1, none⟩ (.slice A9_ d9.length c9_)) B A l.length c s6) := ⟨(Ds.far (p := ⟨xx, 1, none⟩) RB.out NBxx.out.symm _)⟩; have o_ : Aside0 (Kp wb (WR.setCell ⟨xx, 1, none⟩ (.slice A9_ d9.length c9_)) (fun k => k = B)) := ⟨(Kp.setCell (p := ⟨xx, 1, none⟩) HK.out (.inr GExx.out) _)⟩
              have q_ : Aside0 (Kd.R k48 48 (WR.setCell ⟨xx, 1, none⟩ (.slice A9_ d9.length c9_)) wb.heap.size (fun k => wb.heap.size ≤ k) (.slice Ag gs.length cg) gs) := ⟨(Kd.R_set HG.out BKxx.out (by decide) 1 _)⟩; clear HG; have HG := q_; clear q_
              have q_ : Aside0 (Kd.R k54 54 (WR.setCell ⟨xx, 1, none⟩ (.slice A9_ d9.length c9_)) wb.heap.size (fun k => wb.heap.size ≤ k) (.slice A9_ d9.length c9_) d9) := ⟨(Kd.R_set HO.out BKxx.out (by decide) 1 _)⟩; clear HO; have HO := q_; clear q_
              clear BKxx RB HK; have BKxx := n_; have RB := m_; have HK := o_; clear n_ m_ o_
              clear hcxx_1 hfxx_1
              generalize (WR.setCell ⟨xx, 1, none⟩ (.slice A9_ d9.length c9_)) = W15 at *
              have i_ := And.intro HSs6.out HVy.out
              exact ⟨⟨k + 1, d9, A9_, c9_, s6, rfl, ⟨HLT.out, by rw [HD9.out, List.length_append, HKN.out.2]; rfl⟩, ⟨by rw [HD9.out, i_.1]; exact RowSt.step (by rw [show x4.toNat - (k + 1) + 1 = x4.toNat - k by have := HLT.out; omega]; exact HRk.out) i_.2⟩, HSr, ⟨by rw [HD9.out]; intro f hf; rcases List.mem_append.1 hf with hf | hf; exact HFI.out f hf; rw [List.mem_singleton.1 hf]; exact HFy.out⟩, HO, RB, HK, BKg, BKxx, HG⟩, by have := HLT.out; simp only [intOf, Int.toNat_natCast]; omega⟩
          · have z1 : decide ((k : Int) < x4) = false := decide_eq_false (by omega)
            have HLT := Aside0.mk hlt
            clear hlt hk hnn
            go_wp2
            go_meet
            case rel =>
              have h_ := RowSt.last (by have := HRk.out; rw [show x4.toNat - k = 0 by have := HLT.out; omega] at this; exact this)
              exact ⟨done, Ar, cr, sk, ⟨h_.1.symm⟩, ⟨h_.2⟩, HSr, HFI, HO, RB, HK, BKg, BKxx, HG⟩
      case rest =>
        clear HRW HSr RB HK BKg BKxx HG
        obtain ⟨fs, Af, cf, sf, HSF, HVF, HSr, HFI, HF, RB, HK, BKg, BKxx, HG⟩ := hcut
        have hcxx_0 : wc.cell? ⟨xx, 0, none⟩ = some (.slice Ag gs.length cg) := (blk_cell BKxx.out 0).trans rfl
        have hfxx_0 := blk_frozen BKxx.out 0
        have hcxx_1 : wc.cell? ⟨xx, 1, none⟩ = some (.slice Af fs.length cf) := (blk_cell BKxx.out 1).trans rfl
        have hfxx_1 := blk_frozen BKxx.out 1
        have HALL := Aside0.mk (all_comp (l := l) (s2 := sg) (s4 := sf) (gs := gs) (fs := fs) (HSG.out.trans (congrArg pl HRG.out)) (by rw [← HRG.out]; exact HVG.out) (HSF.out.trans (congrArg pl HRF.out)) (by rw [← HRF.out]; exact HVF.out))
        go_wp2_with fail
        refine (d_Ok Ag cg gs Af cf fs _ (Kd.R_reads' HG.out).2.2 (Kd.R_reads' HF.out).2.2 (fun f hf W2 => d_Name f.f0 (HFI.out f hf).1 W2) HFI.out).mono ?_
        rintro e_ W16 ⟨rfl, hb_⟩
        have n_ := Aside0.mk (blk_below BKg.out hb_); clear BKg; have BKg := n_; clear n_
        have n_ := Aside0.mk (blk_below BKxx.out hb_); clear BKxx; have BKxx := n_; clear n_
        clear hcxx_0 hfxx_0
        clear hcxx_1 hfxx_1
        have n_ := Aside0.mk (Kd.R_below HG.out hb_); clear HG; have HG := n_; clear n_
        have n_ := Aside0.mk (Kd.R_below HF.out hb_); clear HF; have HF := n_; clear n_
        have n_ := Aside0.mk (Ds.below RB.out hb_); have m_ := Aside0.mk (Kp.below HK.out hb_); clear RB HK hb_; have RB := n_; have HK := m_; clear n_ m_
        have hcg_0 : W16.cell? ⟨g, 0, none⟩ = some (.slice none 0 0) := (blk_cell BKg.out 0).trans rfl
        have hfg_0 := blk_frozen BKg.out 0
        have hcg_1 : W16.cell? ⟨g, 1, none⟩ = some (.slice none 0 0) := (blk_cell BKg.out 1).trans rfl
        have hfg_1 := blk_frozen BKg.out 1
        have hcxx_0 : W16.cell? ⟨xx, 0, none⟩ = some (.slice Ag gs.length cg) := (blk_cell BKxx.out 0).trans rfl
        have hfxx_0 := blk_frozen BKxx.out 0
        have hcxx_1 : W16.cell? ⟨xx, 1, none⟩ = some (.slice Af fs.length cf) := (blk_cell BKxx.out 1).trans rfl
        have hfxx_1 := blk_frozen BKxx.out 1
        have HBF := Aside0.mk (HK.out.below_of HB.out GWB.out)
        cases sf with
        | none =>
          obtain ⟨i_, hb_⟩ := RB.out.bad
          have hcB2 : W16.cell? ⟨B, 2, none⟩ = some (.bool true) := (blk_cell hb_ 2).trans rfl
          clear hb_
          have HR3 : Aside0 (R = badI) := ⟨HR2.out.trans (by rw [HALL.out]; rfl)⟩
          clear HR2; have HR2 := HR3; clear HR3
          go_wp2
          have n_ : Aside0 (((W16.setCell ⟨g, 0, none⟩ (.slice none 0 0)).setCell ⟨g, 1, none⟩ (.slice none 0 0)).heap[g]? = some (.cells #[.slice none 0 0, .slice none 0 0] 25 (0, 0))) := ⟨by refine blk_put (cs := #[.slice none 0 0, .slice none 0 0]) ?_ 1 _ rfl; refine blk_put (cs := #[.slice none 0 0, .slice none 0 0]) ?_ 0 _ rfl; exact BKg.out⟩
          have m_ : Aside0 (Below w.heap.size w ((W16.setCell ⟨g, 0, none⟩ (.slice none 0 0)).setCell ⟨g, 1, none⟩ (.slice none 0 0))) := ⟨Below.setCell (p := ⟨g, 1, none⟩) (Below.setCell (p := ⟨g, 0, none⟩) (HBF.out) GWg.out _) GWg.out _⟩
          refine bodyPost_ret (ddec_results _ g _ _ _ _ rfl rfl n_.out) rfl ?_
          rw [HR2.out]
          exact ⟨_, _, rfl, Kd.R_nil _ _ _ _ _, Kd.R_nil _ _ _ _ _, m_.out⟩
        | some j =>
          have hb_ := RB.out.good
          have hcB2 : W16.cell? ⟨B, 2, none⟩ = some (.bool false) := (blk_cell hb_ 2).trans rfl
          have hcB1 : W16.cell? ⟨B, 1, none⟩ = some (.int .i64 j) := (blk_cell hb_ 1).trans rfl
          clear hb_
          have HR3 : Aside0 (R = if j = (l.length : Int) ∧ okF gs fs = true then (gs, fs, 0) else badI) := ⟨HR2.out.trans (by rw [HALL.out]; rfl)⟩
          clear HR2; have HR2 := HR3; clear HR3
          by_cases hj : j = (l.length : Int)
          rotate_left
          · have b5 : (j != (l.length : Int)) = true := by simp [hj]
            have HR3 : Aside0 (R = badI) := ⟨HR2.out.trans (if_neg (fun h => hj h.1))⟩
            clear HR2 hj; have HR2 := HR3; clear HR3
            go_wp2
            have n_ : Aside0 (((W16.setCell ⟨g, 0, none⟩ (.slice none 0 0)).setCell ⟨g, 1, none⟩ (.slice none 0 0)).heap[g]? = some (.cells #[.slice none 0 0, .slice none 0 0] 25 (0, 0))) := ⟨by refine blk_put (cs := #[.slice none 0 0, .slice none 0 0]) ?_ 1 _ rfl; refine blk_put (cs := #[.slice none 0 0, .slice none 0 0]) ?_ 0 _ rfl; exact BKg.out⟩
            have m_ : Aside0 (Below w.heap.size w ((W16.setCell ⟨g, 0, none⟩ (.slice none 0 0)).setCell ⟨g, 1, none⟩ (.slice none 0 0))) := ⟨Below.setCell (p := ⟨g, 1, none⟩) (Below.setCell (p := ⟨g, 0, none⟩) (HBF.out) GWg.out _) GWg.out _⟩
            refine bodyPost_ret (ddec_results _ g _ _ _ _ rfl rfl n_.out) rfl ?_
            rw [HR2.out]
            exact ⟨_, _, rfl, Kd.R_nil _ _ _ _ _, Kd.R_nil _ _ _ _ _, m_.out⟩
          have b5 : (j != (l.length : Int)) = false := by simp [hj]
          have HJ := Aside0.mk hj; clear hj
          cases hok : okF gs fs with
          | false =>
            have HR3 : Aside0 (R = badI) := ⟨HR2.out.trans (if_neg (fun h => by rw [hok] at h; cases h.2))⟩
            clear HR2 hok; have HR2 := HR3; clear HR3
            go_wp2
            have n_ : Aside0 (((W16.setCell ⟨g, 0, none⟩ (.slice none 0 0)).setCell ⟨g, 1, none⟩ (.slice none 0 0)).heap[g]? = some (.cells #[.slice none 0 0, .slice none 0 0] 25 (0, 0))) := ⟨by refine blk_put (cs := #[.slice none 0 0, .slice none 0 0]) ?_ 1 _ rfl; refine blk_put (cs := #[.slice none 0 0, .slice none 0 0]) ?_ 0 _ rfl; exact BKg.out⟩
            have m_ : Aside0 (Below w.heap.size w ((W16.setCell ⟨g, 0, none⟩ (.slice none 0 0)).setCell ⟨g, 1, none⟩ (.slice none 0 0))) := ⟨Below.setCell (p := ⟨g, 1, none⟩) (Below.setCell (p := ⟨g, 0, none⟩) (HBF.out) GWg.out _) GWg.out _⟩
            refine bodyPost_ret (ddec_results _ g _ _ _ _ rfl rfl n_.out) rfl ?_
            rw [HR2.out]
            exact ⟨_, _, rfl, Kd.R_nil _ _ _ _ _, Kd.R_nil _ _ _ _ _, m_.out⟩
          | true =>
            have HR3 : Aside0 (R = (gs, fs, 0)) := ⟨HR2.out.trans (if_pos ⟨HJ.out, hok⟩)⟩
            clear HR2 hok; have HR2 := HR3; clear HR3
            go_wp2
            have n_ : Aside0 (((W16.setCell ⟨g, 0, none⟩ (.slice Ag gs.length cg)).setCell ⟨g, 1, none⟩ (.slice Af fs.length cf)).heap[g]? = some (.cells #[.slice Ag gs.length cg, .slice Af fs.length cf] 25 (0, 0))) := ⟨by refine blk_put (cs := #[.slice Ag gs.length cg, .slice none 0 0]) ?_ 1 _ rfl; refine blk_put (cs := #[.slice none 0 0, .slice none 0 0]) ?_ 0 _ rfl; exact BKg.out⟩
            have m_ : Aside0 (Below w.heap.size w ((W16.setCell ⟨g, 0, none⟩ (.slice Ag gs.length cg)).setCell ⟨g, 1, none⟩ (.slice Af fs.length cf))) := ⟨Below.setCell (p := ⟨g, 1, none⟩) (Below.setCell (p := ⟨g, 0, none⟩) (HBF.out) GWg.out _) GWg.out _⟩
            refine bodyPost_ret (ddec_results _ g _ _ _ _ rfl rfl n_.out) rfl ?_
            rw [HR2.out]
            exact ⟨_, _, rfl, Kd.R_mono (Kd.R_lower (Kd.R_set (Kd.R_set HG.out BKg.out (by decide) 0 _) (blk_put (cs := #[.slice none 0 0, .slice none 0 0]) BKg.out 0 _ rfl) (by decide) 1 _) HB.out.size) (fun _ _ => trivial), Kd.R_mono (Kd.R_lower (Kd.R_set (Kd.R_set HF.out BKg.out (by decide) 0 _) (blk_put (cs := #[.slice none 0 0, .slice none 0 0]) BKg.out 0 _ rfl) (by decide) 1 _) HB.out.size) (fun _ _ => trivial), m_.out⟩
end Go.Proofs.YteidgpaakoeefaaDoor
namespace Go.Proofs.YteidgpaakoeefaaDoor
open Go.RowKit Go.Proofs.YteidgpaakoeefaaDoorW.PrintWords Go.Proofs.YteidgpaakoeefaaDoorW.PrintLast Go.Proofs.YteidgpaakoeefaaDoorW.PrintMore
set_option linter.unusedVariables false
set_option linter.unusedSimpArgs false
open PIm
def Rw (w : World) (v : Value) (n sz e lo hi : Nat) : Prop := n = 0 ∨ ∃ g cap cur, v = .slice (some ⟨g, 0, none⟩) n cap ∧ lo ≤ g ∧ g < hi ∧ w.heap[g]? = some (.cells cur e (0, 0)) ∧ n * sz ≤ cur.size
theorem Rw.of_R {α : Type} {d : Kd α} {e : Nat} {w : World} {lo hi : Nat} {v : Value} {xs : List α} (h : d.R e w lo (fun k => k < hi) v xs) : Rw w v xs.length d.sz e lo hi := by
  obtain ⟨h0, inner, ⟨_, ho⟩, _⟩ := h
  rcases ho with ⟨_, h1⟩ | ⟨g, cap, cur, rfl, h1, h2, h3, _, h4, _⟩
  · exact .inl h1
  · exact .inr ⟨g, cap, cur, rfl, h1, h0 g rfl, h2, by rw [h4]; exact Nat.mul_le_mul_right _ h3⟩
def Shp (w w' : World) : Prop := ∀ (g : Nat) (cs : Array Value) (t : TypeId), w.heap[g]? = some (.cells cs t (0, 0)) → ∃ cs', w'.heap[g]? = some (.cells cs' t (0, 0)) ∧ cs'.size = cs.size
theorem Shp.refl (w : World) : Shp w w := fun g cs t h => ⟨cs, h, rfl⟩
theorem Shp.set {w w1 : World} (h : Shp w w1) (b o : Nat) (u : Value) : Shp w (w1.setCell ⟨b, o, none⟩ u) := fun g cs t hg => by
  obtain ⟨cs1, h1, h2⟩ := h g cs t hg
  by_cases e : g = b
  · subst e
    exact ⟨_, blk_put h1 o u rfl, by rw [Array.size_setIfInBounds]; exact h2⟩
  · exact ⟨cs1, blk_far (p := ⟨b, o, none⟩) h1 e u, h2⟩
theorem Shp.below {w w1 w2 : World} (h : Shp w w1) (hb : Below w1.heap.size w1 w2) : Shp w w2 := fun g cs t hg => by
  obtain ⟨cs1, h1, h2⟩ := h g cs t hg
  exact ⟨cs1, blk_below h1 hb, h2⟩
theorem Rw.shp {w w1 : World} {v : Value} {n sz e lo hi : Nat} (h : Rw w v n sz e lo hi) (hs : Shp w w1) : Rw w1 v n sz e lo hi := by
  rcases h with h | ⟨g, cap, cur, hv, h1, h2, h3, h4⟩
  · exact .inl h
  · obtain ⟨cs, k1, k2⟩ := hs _ _ _ h3
    exact .inr ⟨g, cap, cs, hv, h1, h2, k1, by rw [k2]; exact h4⟩
theorem has_cell {cs : Array Value} {o : Nat} (h : o < cs.size) : ∃ u, cs[o]? = some u := ⟨cs[o], Array.getElem?_eq_getElem h⟩
theorem Kp.set {w W : World} {lo hi : Nat} (h : Kp w W (fun k => lo ≤ k ∧ k < hi)) {b o : Nat} (hb : lo ≤ b ∧ b < hi) (u : Value) : Kp w (W.setCell ⟨b, o, none⟩ u) (fun k => lo ≤ k ∧ k < hi) := h.setCell (p := ⟨b, o, none⟩) (.inl hb) u
theorem Kp.out {w W W2 : World} {S : Nat → Prop} (h : Kp W W2 S) (hb : Below w.heap.size w W) (hS : ∀ k, S k → w.heap.size ≤ k) : Below w.heap.size w W2 :=
  ⟨h.os.trans hb.os, h.tape.trans hb.tape, h.output.trans hb.output, Nat.le_trans hb.size h.size, fun k hk => (h.kept.2 k (Nat.lt_of_lt_of_le hk hb.size) (fun hs => by have := hS k hs; omega)).trans (hb.block k hk)⟩
def Fz (w w1 : World) (A : Option Addr) (k : Nat) : Prop := ∀ (g : Nat) (cs : Array Value), A = some ⟨g, 0, none⟩ → w.heap[g]? = some (.cells cs 54 (0, 0)) → ∃ cs', w1.heap[g]? = some (.cells cs' 54 (0, 0)) ∧ cs'.size = cs.size ∧ ∀ o, k * 5 ≤ o → cs'[o]? = cs[o]?
theorem Fz.refl (w : World) (A : Option Addr) (k : Nat) : Fz w w A k := fun g cs _ h => ⟨cs, h, rfl, fun _ _ => rfl⟩
theorem Fz.next {w w1 : World} {A : Option Addr} {k : Nat} (h : Fz w w1 A k) : Fz w w1 A (k + 1) := fun g cs ha hh => by
  obtain ⟨cs', h1, h2, h3⟩ := h g cs ha hh
  exact ⟨cs', h1, h2, fun o ho => h3 o (by omega)⟩
theorem Fz.below {w w1 w2 : World} {A : Option Addr} {k : Nat} (h : Fz w w1 A k) (hb : Below w1.heap.size w1 w2) : Fz w w2 A k := fun g cs ha hh => by
  obtain ⟨cs', h1, h2, h3⟩ := h g cs ha hh
  exact ⟨cs', blk_below h1 hb, h2, h3⟩
theorem Fz.far {w w1 : World} {A : Option Addr} {k : Nat} (h : Fz w w1 A k) {b t : Nat} {cb : Array Value} (hb : w1.heap[b]? = some (.cells cb t (0, 0))) (ht : t ≠ 54) (o : Nat) (u : Value) : Fz w (w1.setCell ⟨b, o, none⟩ u) A k := fun g cs ha hh => by
  obtain ⟨cs', h1, h2, h3⟩ := h g cs ha hh
  exact ⟨cs', blk_far (p := ⟨b, o, none⟩) h1 (blk_ne h1 hb (fun e => ht e.symm)) u, h2, h3⟩
theorem Fz.new {w w1 : World} {A : Option Addr} {k : Nat} (h : Fz w w1 A k) {b : Nat} (hb : w.heap.size ≤ b) (o : Nat) (u : Value) : Fz w (w1.setCell ⟨b, o, none⟩ u) A k := fun g cs ha hh => by
  obtain ⟨cs', h1, h2, h3⟩ := h g cs ha hh
  exact ⟨cs', blk_far (p := ⟨b, o, none⟩) h1 (show g ≠ b by have := blk_lt hh; omega) u, h2, h3⟩
theorem Fz.low {w w1 : World} {A : Option Addr} {k : Nat} (h : Fz w w1 A k) {b o : Nat} (ho : o < k * 5) (u : Value) : Fz w (w1.setCell ⟨b, o, none⟩ u) A k := fun g cs ha hh => by
  obtain ⟨cs', h1, h2, h3⟩ := h g cs ha hh
  by_cases e : g = b
  · subst e
    exact ⟨_, blk_put h1 o u rfl, by rw [Array.size_setIfInBounds]; exact h2, fun o2 h_ => by rw [Array.getElem?_setIfInBounds_ne (by omega)]; exact h3 o2 h_⟩
  · exact ⟨cs', blk_far (p := ⟨b, o, none⟩) h1 e u, h2, h3⟩
theorem fz_elem {w w1 : World} {A : Option Addr} {c lo hi : Nat} {fs : List S54} (h : Kd.R k54 54 w lo (fun k => k < hi) (.slice A fs.length c) fs) {k : Nat} (hz : Fz w w1 A k) {f : S54} (hf : fs[k]? = some f) :
    ∃ (g : Nat) (A1 : Option Addr) (c1 : Nat) (A3 : Option Addr) (c3 : Nat) (A4 : Option Addr) (c4 : Nat) (cs' : Array Value), A = some ⟨g, 0, none⟩ ∧ lo ≤ g ∧ g < hi ∧ w1.heap[g]? = some (.cells cs' 54 (0, 0)) ∧ (k + 1) * 5 ≤ cs'.size ∧
      cs'[k * 5]? = some (.string f.f0) ∧ cs'[k * 5 + 1]? = some (.slice A1 f.f1.length c1) ∧ cs'[k * 5 + 2]? = some (.int .i64 f.f2) ∧ cs'[k * 5 + 3]? = some (.slice A3 f.f3.length c3) ∧ cs'[k * 5 + 4]? = some (.slice A4 f.f4.length c4) ∧
      Rw w (.slice A1 f.f1.length c1) f.f1.length 1 3 lo hi ∧ Rw w (.slice A3 f.f3.length c3) f.f3.length 1 3 lo hi ∧ Rw w (.slice A4 f.f4.length c4) f.f4.length 3 50 lo hi := by
  have hk := (List.getElem?_eq_some_iff.1 hf).1
  have hrw := Rw.of_R h
  obtain ⟨h0, inner, ⟨hl, ho⟩, hr⟩ := h
  rcases ho with ⟨_, h1⟩ | ⟨g, cap, cur, hv, h1, h2, h3, _, h4, h5⟩
  · omega
  injection hv with ha hn hcap
  subst ha
  obtain ⟨cs', z1, z2, z3⟩ := hz g cur rfl h2
  have hM := hr.2 k f hf
  obtain ⟨v1, v3, v4, he, m1, m3, m4⟩ := k54_openM hM
  obtain ⟨A1, c1, rfl⟩ := Kd.R_slice m1
  obtain ⟨A3, c3, rfl⟩ := Kd.R_slice m3
  obtain ⟨A4, c4, rfl⟩ := Kd.R_slice m4
  have hsz : k54.sz = 5 := rfl
  rw [hsz] at he h4 h5 hl
  have hcell : ∀ j u, j < 5 → [Value.string f.f0, .slice A1 f.f1.length c1, .int .i64 f.f2, .slice A3 f.f3.length c3, .slice A4 f.f4.length c4][j]? = some u → cs'[k * 5 + j]? = some u := by
    intro j u hj hu
    rw [z3 _ (by omega), ← Array.getElem?_toList]
    rw [← he, List.getElem?_take, if_pos hj, List.getElem?_drop, ← h5, List.getElem?_take, if_pos (by have := Nat.mul_le_mul_right 5 (show k + 1 ≤ fs.length from hk); omega)] at hu
    exact hu
  have mn : ∀ x, (x < hi ∧ some x ≠ (Value.slice (some ⟨g, 0, none⟩) fs.length cap).ownBlock) → x < hi := fun _ h => h.1
  exact ⟨g, A1, c1, A3, c3, A4, c4, cs', rfl, h1, h0 g rfl, z1, by rw [z2, h4]; exact Nat.mul_le_mul_right _ (Nat.le_trans hk h3), hcell 0 _ (by decide) rfl, hcell 1 _ (by decide) rfl, hcell 2 _ (by decide) rfl, hcell 3 _ (by decide) rfl, hcell 4 _ (by decide) rfl,
    Rw.of_R (Kd.R_mono m1 (fun _ h => h.1)), Rw.of_R (Kd.R_mono m3 (fun _ h => h.1)), Rw.of_R (Kd.R_mono m4 (fun _ h => h.1))⟩
set_option maxHeartbeats 8000000 in
set_option maxRecDepth 100000 in
theorem spoil (A0 : Option Addr) (c0 : Nat) (gs : List S48) (A1 : Option Addr) (c1 : Nat) (fs : List S54) (lo hi : Nat) (w : World)
    (h0 : Kd.R k48 48 w lo (fun k => k < hi) (.slice A0 gs.length c0) gs) (h1 : Kd.R k54 54 w lo (fun k => k < hi) (.slice A1 fs.length c1) fs) (hg : gs.length ≤ 64) (hf : fs.length ≤ 64) (hc : ∀ f ∈ fs, f.f1.length ≤ 140737488355318 ∧ f.f3.length ≤ 140737488355318 ∧ f.f4.length ≤ 32768) :
    Calls Tryd.prog 20 #[.agg #[.slice A0 gs.length c0, .slice A1 fs.length c1]] w fun e w' => ∃ n : Int, e = .returned (.int .i64 n) ∧ 0 ≤ n ∧ Kp w w' (fun k => lo ≤ k ∧ k < hi) := by
  have HR0 : Aside0 (Rw w (.slice A0 gs.length c0) gs.length 3 48 lo hi) := ⟨Rw.of_R h0⟩; have HR1 := Aside0.mk h1; have HFS := Aside0.mk hc; have HLG := Aside0.mk hg; have HLF := Aside0.mk hf
  obtain ⟨ng, hng⟩ : ∃ n, n = gs.length := ⟨_, rfl⟩
  rw [← hng] at HLG HR0 ⊢
  clear h0 h1 hc hf hng hg
  go_enter Tryd.func20, Tryd.ntmps20
  go_wp2_with (first | ((with_reducible refine gate_dst (N := 1) rfl ?_); refine box_event ?hg (N := 1) ?hd (cs := #[.slice A0 ng c0, .slice A1 fs.length c1]) (t := 25) ?hr ?_; (case hd => rfl); (case hg => rfl); (case hr => first | (go_simp; done) | (go_simp; rfl)); intro p hg_ W1 hbox_ hb_; have HS : Aside0 (Shp w W1) := ⟨(Shp.refl w).below hb_⟩; have HK : Aside0 (Kp w W1 (fun k => lo ≤ k ∧ k < hi)) := ⟨(Kp.refl w _).below hb_⟩; have HZ : Aside0 (Fz w W1 A1 0) := ⟨(Fz.refl w _ _).below hb_⟩; have HP : Aside0 (w.heap.size ≤ p) := ⟨by rw [hg_]; exact Nat.le_refl _⟩; have BP := Aside0.mk hbox_; clear hg_ hbox_ hb_; have hcp0 := (blk_cell BP.out 0).trans rfl; have hcp1 := (blk_cell BP.out 1).trans rfl))
  go_loopw [4] (fun vi wr => ∃ (k : Nat), vi = .int .i64 k ∧ Aside0 (k ≤ ng) ∧ Aside0 (Shp w wr) ∧ Aside0 (Kp w wr (fun k => lo ≤ k ∧ k < hi)) ∧ Aside0 (Fz w wr A1 0) ∧ Aside0 (wr.heap[p]? = some (.cells #[.slice A0 ng c0, .slice A1 fs.length c1] 25 (0, 0)))) (fun v _ => ng - (intOf v).toNat)
  case atStart => exact ⟨0, rfl, ⟨Nat.zero_le _⟩, HS, HK, HZ, BP⟩
  case round =>
    clear hcp0 hcp1 HS HK BP HZ
    obtain ⟨k, rfl, HKN, HS, HK, HZ, BP⟩ := hrel
    have hk := HKN.out
    have hcp0 := (blk_cell BP.out 0).trans rfl; have hcp1 := (blk_cell BP.out 1).trans rfl
    by_cases hlt : k < ng
    · have z1 : decide ((k : Int) < (ng : Int)) = true := decide_eq_true (by omega)
      have HLT := Aside0.mk hlt
      obtain ⟨g, cap, cur, hv, hlo, hhi, hh, hsz⟩ := (HR0.out.shp HS.out).resolve_left (by omega)
      cases hv
      have hkk := Nat.mul_le_mul_right 3 (show k + 1 ≤ ng from hlt)
      obtain ⟨u0, hu0⟩ := has_cell (cs := cur) (o := k * 3) (by omega)
      have hc0 : wr.cell? ⟨g, k * 3, none⟩ = some u0 := (blk_cell hh _).trans hu0
      have hf0 := blk_frozen hh (k * 3)
      obtain ⟨u1, hu1⟩ := has_cell (cs := cur) (o := k * 3 + 1) (by omega)
      have hc1 : wr.cell? ⟨g, k * 3 + 1, none⟩ = some u1 := (blk_cell hh _).trans hu1
      have hf1 := blk_frozen hh (k * 3 + 1)
      obtain ⟨u2, hu2⟩ := has_cell (cs := cur) (o := k * 3 + 2) (by omega)
      have hc2 : wr.cell? ⟨g, k * 3 + 2, none⟩ = some u2 := (blk_cell hh _).trans hu2
      have hf2 := blk_frozen hh (k * 3 + 2)
      have q1 : (0 ≤ (k : Int)) = True := eq_true (by omega)
      have q2 : ((k : Int) < (ng : Int)) = True := eq_true (by omega)
      have HH := Aside0.mk hh; have HB := Aside0.mk (And.intro hlo hhi)
      have NPG : Aside0 (p ≠ g) := ⟨blk_ne BP.out hh (by decide)⟩
      have hw_ := w64_succ k (by have := HLG.out; omega)
      clear hu0 hu1 hu2 hh hlo hhi hsz hkk hlt hk
      go_wp2
      rw [hw_]
      exact ⟨⟨k + 1, rfl, ⟨HLT.out⟩, ⟨(Shp.set (Shp.set (Shp.set HS.out g (k * 3) _) g (k * 3 + 1) _) g (k * 3 + 2) _)⟩, ⟨(Kp.set (o := k * 3 + 2) (Kp.set (o := k * 3 + 1) (Kp.set (o := k * 3) HK.out HB.out _) HB.out _) HB.out _)⟩, ⟨(Fz.far (Fz.far (Fz.far HZ.out HH.out (by decide) (k * 3) _) (blk_put HH.out (k * 3) _ rfl) (by decide) (k * 3 + 1) _) (blk_put (blk_put HH.out (k * 3) _ rfl) (k * 3 + 1) _ rfl) (by decide) (k * 3 + 2) _)⟩, ⟨(blk_far (p := ⟨g, k * 3 + 2, none⟩) (blk_far (p := ⟨g, k * 3 + 1, none⟩) (blk_far (p := ⟨g, k * 3, none⟩) BP.out NPG.out _) NPG.out _) NPG.out _)⟩⟩, by have := HLT.out; simp only [intOf, Int.toNat_natCast]; omega⟩
    · have z1 : decide ((k : Int) < (ng : Int)) = false := decide_eq_false (by omega)
      obtain rfl : ng = k := by omega
      clear hlt hk HKN
      go_wp2_with fail
      clear hcp0 hcp1 z1
      go_loopw [3, 5] (fun vm vi wr => ∃ (k : Nat) (m : Int), vi = .int .i64 k ∧ vm = .int .i64 m ∧ Aside0 (k ≤ fs.length) ∧ Aside0 (0 ≤ m ∧ m ≤ 64 + 32768 * k) ∧ Aside0 (Shp w wr) ∧ Aside0 (Kp w wr (fun k => lo ≤ k ∧ k < hi)) ∧ Aside0 (Fz w wr A1 k) ∧ Aside0 (wr.heap[p]? = some (.cells #[.slice A0 ng c0, .slice A1 fs.length c1] 25 (0, 0)))) (fun _ v _ => fs.length - (intOf v).toNat)
      case atStart => exact ⟨0, (ng : Int), rfl, rfl, ⟨Nat.zero_le _⟩, ⟨by have := HLG.out; omega⟩, HS, HK, HZ, BP⟩
      case round =>
        clear HS HK BP HZ
        obtain ⟨k, m, rfl, rfl, HKN, HM, HS, HK, HZ, BP⟩ := hrel
        have hk := HKN.out
        have hcp0 := (blk_cell BP.out 0).trans rfl; have hcp1 := (blk_cell BP.out 1).trans rfl
        by_cases hlt : k < fs.length
        · obtain ⟨f, hff⟩ : ∃ f, fs[k]? = some f := ⟨_, List.getElem?_eq_getElem hlt⟩
          have hfc := HFS.out f (List.mem_of_getElem? hff)
          obtain ⟨g, B1, d1, B3, d3, B4, d4, cs, rfl, hlo, hhi, hh, hcz, e0, e1, e2, e3, e4, r1, r3, r4⟩ := fz_elem HR1.out HZ.out hff
          have z1 : decide ((k : Int) < (fs.length : Int)) = true := decide_eq_true (by omega)
          have q1 : (0 ≤ (k : Int)) = True := eq_true (by omega)
          have q2 : ((k : Int) < (fs.length : Int)) = True := eq_true (by omega)
          have HLT := Aside0.mk hlt; have HFF := Aside0.mk hff; have HCZ := Aside0.mk hcz; have HG := Aside0.mk (And.intro hlo hhi); have R1 := Aside0.mk r1; have R3 := Aside0.mk r3; have R4 := Aside0.mk r4; have HFC := Aside0.mk hfc
          have NPF : Aside0 (p ≠ g) := ⟨blk_ne BP.out hh (by decide)⟩
          have hc0 : wr.cell? ⟨g, k * 5, none⟩ = some (.string f.f0) := (blk_cell hh _).trans e0
          have hf0 := blk_frozen hh (k * 5)
          have hc1 : wr.cell? ⟨g, k * 5 + 1, none⟩ = some (.slice B1 f.f1.length d1) := (blk_cell hh _).trans e1
          have hf1 := blk_frozen hh (k * 5 + 1)
          have hc2 : wr.cell? ⟨g, k * 5 + 2, none⟩ = some (.int .i64 f.f2) := (blk_cell hh _).trans e2
          have hf2 := blk_frozen hh (k * 5 + 2)
          have hc3 : wr.cell? ⟨g, k * 5 + 3, none⟩ = some (.slice B3 f.f3.length d3) := (blk_cell hh _).trans e3
          have hf3 := blk_frozen hh (k * 5 + 3)
          have hc4 : wr.cell? ⟨g, k * 5 + 4, none⟩ = some (.slice B4 f.f4.length d4) := (blk_cell hh _).trans e4
          have hf4 := blk_frozen hh (k * 5 + 4)
          have HHF := Aside0.mk hh; have HGL : Aside0 (g < wr.heap.size) := ⟨blk_lt hh⟩
          clear e0 e1 e2 e3 e4 r1 r3 r4 hlt hk hff hfc hcz hlo hhi hh hf0 hf1 hf2 hf3 hf4
          go_wp2_with (first | ((with_reducible refine gate_dst (N := 6) rfl ?_); refine box_event ?hg (N := 6) ?hd (cs := #[.string (⟨#[]⟩ : ByteArray), .slice none 0 0, .int .i64 0, .slice none 0 0, .slice none 0 0]) (t := 54) ?hr ?_; (case hd => rfl); (case hg => rfl); (case hr => first | (go_simp; done) | (go_simp; rfl)); intro q hg_ W2 hbox_ hb_; have HQ : Aside0 (w.heap.size ≤ q) := ⟨by rw [hg_]; exact HK.out.size⟩; have NPQ : Aside0 (p ≠ q) := ⟨by rw [hg_]; exact Nat.ne_of_lt (blk_lt BP.out)⟩; have n_ := Aside0.mk (HS.out.below hb_); have m_ := Aside0.mk (HK.out.below hb_); have o_ := Aside0.mk (HZ.out.below hb_); have t_ := Aside0.mk (blk_below BP.out hb_); have BQ := Aside0.mk hbox_; clear hg_ hbox_ hb_ HS HK HZ BP HHF hc0 hc1 hc2 hc3 hc4 hcp0 hcp1; have HS := n_; have HK := m_; have HZ := o_; have BP := t_; clear n_ m_ o_ t_; have hcp0 := (blk_cell BP.out 0).trans rfl; have hcp1 := (blk_cell BP.out 1).trans rfl; have hcq0 := (blk_cell BQ.out 0).trans rfl; have hfq0 := blk_frozen BQ.out 0; have hcq1 := (blk_cell BQ.out 1).trans rfl; have hfq1 := blk_frozen BQ.out 1; have hcq2 := (blk_cell BQ.out 2).trans rfl; have hfq2 := blk_frozen BQ.out 2; have hcq3 := (blk_cell BQ.out 3).trans rfl; have hfq3 := blk_frozen BQ.out 3; have hcq4 := (blk_cell BQ.out 4).trans rfl; have hfq4 := blk_frozen BQ.out 4))
          have n_ : Aside0 ((((((W2.setCell ⟨q, 0, none⟩ (.string f.f0)).setCell ⟨q, 1, none⟩ (.slice B1 f.f1.length d1)).setCell ⟨q, 2, none⟩ (.int .i64 f.f2)).setCell ⟨q, 3, none⟩ (.slice B3 f.f3.length d3)).setCell ⟨q, 4, none⟩ (.slice B4 f.f4.length d4)).heap[q]? = some (.cells #[.string f.f0, .slice B1 f.f1.length d1, .int .i64 f.f2, .slice B3 f.f3.length d3, .slice B4 f.f4.length d4] 54 (0, 0))) := ⟨by refine blk_put (cs := #[.string f.f0, .slice B1 f.f1.length d1, .int .i64 f.f2, .slice B3 f.f3.length d3, .slice none 0 0]) ?_ 4 _ rfl; refine blk_put (cs := #[.string f.f0, .slice B1 f.f1.length d1, .int .i64 f.f2, .slice none 0 0, .slice none 0 0]) ?_ 3 _ rfl; refine blk_put (cs := #[.string f.f0, .slice B1 f.f1.length d1, .int .i64 0, .slice none 0 0, .slice none 0 0]) ?_ 2 _ rfl; refine blk_put (cs := #[.string f.f0, .slice none 0 0, .int .i64 0, .slice none 0 0, .slice none 0 0]) ?_ 1 _ rfl; refine blk_put (cs := #[.string (⟨#[]⟩ : ByteArray), .slice none 0 0, .int .i64 0, .slice none 0 0, .slice none 0 0]) ?_ 0 _ rfl; exact BQ.out⟩
          have m_ : Aside0 ((((((W2.setCell ⟨q, 0, none⟩ (.string f.f0)).setCell ⟨q, 1, none⟩ (.slice B1 f.f1.length d1)).setCell ⟨q, 2, none⟩ (.int .i64 f.f2)).setCell ⟨q, 3, none⟩ (.slice B3 f.f3.length d3)).setCell ⟨q, 4, none⟩ (.slice B4 f.f4.length d4)).heap[p]? = some (.cells #[.slice A0 ng c0, .slice (some ⟨g, 0, none⟩) fs.length c1] 25 (0, 0))) := ⟨(blk_far (p := ⟨q, 4, none⟩) (blk_far (p := ⟨q, 3, none⟩) (blk_far (p := ⟨q, 2, none⟩) (blk_far (p := ⟨q, 1, none⟩) (blk_far (p := ⟨q, 0, none⟩) BP.out NPQ.out _) NPQ.out _) NPQ.out _) NPQ.out _) NPQ.out _)⟩
          have o_ : Aside0 (Shp w (((((W2.setCell ⟨q, 0, none⟩ (.string f.f0)).setCell ⟨q, 1, none⟩ (.slice B1 f.f1.length d1)).setCell ⟨q, 2, none⟩ (.int .i64 f.f2)).setCell ⟨q, 3, none⟩ (.slice B3 f.f3.length d3)).setCell ⟨q, 4, none⟩ (.slice B4 f.f4.length d4))) := ⟨(Shp.set (Shp.set (Shp.set (Shp.set (Shp.set HS.out q 0 _) q 1 _) q 2 _) q 3 _) q 4 _)⟩
          have t_ : Aside0 (Kp w (((((W2.setCell ⟨q, 0, none⟩ (.string f.f0)).setCell ⟨q, 1, none⟩ (.slice B1 f.f1.length d1)).setCell ⟨q, 2, none⟩ (.int .i64 f.f2)).setCell ⟨q, 3, none⟩ (.slice B3 f.f3.length d3)).setCell ⟨q, 4, none⟩ (.slice B4 f.f4.length d4)) (fun k => lo ≤ k ∧ k < hi)) := ⟨(Kp.setCell (p := ⟨q, 4, none⟩) (Kp.setCell (p := ⟨q, 3, none⟩) (Kp.setCell (p := ⟨q, 2, none⟩) (Kp.setCell (p := ⟨q, 1, none⟩) (Kp.setCell (p := ⟨q, 0, none⟩) HK.out (.inr HQ.out) _) (.inr HQ.out) _) (.inr HQ.out) _) (.inr HQ.out) _) (.inr HQ.out) _)⟩
          have s_ : Aside0 (Fz w (((((W2.setCell ⟨q, 0, none⟩ (.string f.f0)).setCell ⟨q, 1, none⟩ (.slice B1 f.f1.length d1)).setCell ⟨q, 2, none⟩ (.int .i64 f.f2)).setCell ⟨q, 3, none⟩ (.slice B3 f.f3.length d3)).setCell ⟨q, 4, none⟩ (.slice B4 f.f4.length d4)) (some ⟨g, 0, none⟩) k) := ⟨(Fz.new (Fz.new (Fz.new (Fz.new (Fz.new HZ.out HQ.out 0 _) HQ.out 1 _) HQ.out 2 _) HQ.out 3 _) HQ.out 4 _)⟩
          clear BQ BP HS HK HZ hcp0 hcp1 hcq0 hfq0 hcq1 hfq1 hcq2 hfq2 hcq3 hfq3 hcq4 hfq4; have BQ := n_; have BP := m_; have HS := o_; have HK := t_; have HZ := s_; clear n_ m_ o_ t_ s_
          generalize (((((W2.setCell ⟨q, 0, none⟩ (.string f.f0)).setCell ⟨q, 1, none⟩ (.slice B1 f.f1.length d1)).setCell ⟨q, 2, none⟩ (.int .i64 f.f2)).setCell ⟨q, 3, none⟩ (.slice B3 f.f3.length d3)).setCell ⟨q, 4, none⟩ (.slice B4 f.f4.length d4)) = W3 at *
          have hcp0 := (blk_cell BP.out 0).trans rfl; have hcp1 := (blk_cell BP.out 1).trans rfl
          have hcq1 := (blk_cell BQ.out 1).trans rfl; have hcq3 := (blk_cell BQ.out 3).trans rfl; have hcq4 := (blk_cell BQ.out 4).trans rfl
          clear hcp0 hcp1 hcq1 hcq3 hcq4
          go_loopw [3, 7] (fun vm vi wr => ∃ (k2 : Nat) (m2 : Int), vi = .int .i64 k2 ∧ vm = .int .i64 m2 ∧ Aside0 (0 ≤ m2 ∧ m2 ≤ 64 + 32768 * k + k2) ∧ Aside0 (k2 ≤ f.f4.length) ∧ Aside0 (Shp w wr) ∧ Aside0 (Kp w wr (fun k => lo ≤ k ∧ k < hi)) ∧ Aside0 (Fz w wr (some ⟨g, 0, none⟩) k) ∧ Aside0 (wr.heap[p]? = some (.cells #[.slice A0 ng c0, .slice (some ⟨g, 0, none⟩) fs.length c1] 25 (0, 0))) ∧ Aside0 (wr.heap[q]? = some (.cells #[.string f.f0, .slice B1 f.f1.length d1, .int .i64 f.f2, .slice B3 f.f3.length d3, .slice B4 f.f4.length d4] 54 (0, 0)))) (fun _ v _ => f.f4.length - (intOf v).toNat)
          case atStart => exact ⟨0, m, rfl, rfl, ⟨by have := HM.out; omega⟩, ⟨Nat.zero_le _⟩, HS, HK, HZ, BP, BQ⟩
          case round =>
            clear HS HK BP HZ BQ
            obtain ⟨k2, m2, rfl, rfl, HM2, HK2, HS, HK, HZ, BP, BQ⟩ := hrel
            have hk := HK2.out
            have hcp0 := (blk_cell BP.out 0).trans rfl; have hcp1 := (blk_cell BP.out 1).trans rfl
            have hcq1 := (blk_cell BQ.out 1).trans rfl; have hcq3 := (blk_cell BQ.out 3).trans rfl; have hcq4 := (blk_cell BQ.out 4).trans rfl
            by_cases hlt : k2 < f.f4.length
            · have z1 : decide ((k2 : Int) < (f.f4.length : Int)) = true := decide_eq_true (by omega)
              have HLT2 := Aside0.mk hlt
              obtain ⟨g2, cap, cur, hv, hlo, hhi, hh, hsz⟩ := (R4.out.shp HS.out).resolve_left (by omega)
              cases hv
              have hkk := Nat.mul_le_mul_right 3 (show k2 + 1 ≤ f.f4.length from hlt)
              obtain ⟨u0, hu0⟩ := has_cell (cs := cur) (o := k2 * 3) (by omega)
              have hc0 : wr.cell? ⟨g2, k2 * 3, none⟩ = some u0 := (blk_cell hh _).trans hu0
              have hf0 := blk_frozen hh (k2 * 3)
              obtain ⟨u1, hu1⟩ := has_cell (cs := cur) (o := k2 * 3 + 1) (by omega)
              have hc1 : wr.cell? ⟨g2, k2 * 3 + 1, none⟩ = some u1 := (blk_cell hh _).trans hu1
              have hf1 := blk_frozen hh (k2 * 3 + 1)
              obtain ⟨u2, hu2⟩ := has_cell (cs := cur) (o := k2 * 3 + 2) (by omega)
              have hc2 : wr.cell? ⟨g2, k2 * 3 + 2, none⟩ = some u2 := (blk_cell hh _).trans hu2
              have hf2 := blk_frozen hh (k2 * 3 + 2)
              have q1 : (0 ≤ (k2 : Int)) = True := eq_true (by omega)
              have q2 : ((k2 : Int) < (f.f4.length : Int)) = True := eq_true (by omega)
              have HH := Aside0.mk hh; have HB := Aside0.mk (And.intro hlo hhi)
              have NPG : Aside0 (p ≠ g2) := ⟨blk_ne BP.out hh (by decide)⟩; have NQG : Aside0 (q ≠ g2) := ⟨blk_ne BQ.out hh (by decide)⟩
              have hw2_ := w64_succ k2 (by have := HFC.out; omega)
              clear hu0 hu1 hu2 hh hlo hhi hsz hkk hlt hk
              have hm_ : 0 ≤ m2 ∧ m2 ≤ 9000000 := by have := HM2.out; have := HLT2.out; have := HFC.out.2.2; have := HLT.out; have := HLF.out; omega
              have hw_ : wrap64 (m2 + 1) = m2 + 1 := by simp only [wrap64]; omega
              clear hm_
              go_wp2
              rw [hw2_, hw_]
              exact ⟨⟨k2 + 1, m2 + 1, rfl, rfl, ⟨by have := HM2.out; omega⟩, ⟨HLT2.out⟩, ⟨(Shp.set (Shp.set (Shp.set HS.out g2 (k2 * 3) _) g2 (k2 * 3 + 1) _) g2 (k2 * 3 + 2) _)⟩, ⟨(Kp.set (o := k2 * 3 + 2) (Kp.set (o := k2 * 3 + 1) (Kp.set (o := k2 * 3) HK.out HB.out _) HB.out _) HB.out _)⟩, ⟨(Fz.far (Fz.far (Fz.far HZ.out HH.out (by decide) (k2 * 3) _) (blk_put HH.out (k2 * 3) _ rfl) (by decide) (k2 * 3 + 1) _) (blk_put (blk_put HH.out (k2 * 3) _ rfl) (k2 * 3 + 1) _ rfl) (by decide) (k2 * 3 + 2) _)⟩, ⟨(blk_far (p := ⟨g2, k2 * 3 + 2, none⟩) (blk_far (p := ⟨g2, k2 * 3 + 1, none⟩) (blk_far (p := ⟨g2, k2 * 3, none⟩) BP.out NPG.out _) NPG.out _) NPG.out _)⟩, ⟨(blk_far (p := ⟨g2, k2 * 3 + 2, none⟩) (blk_far (p := ⟨g2, k2 * 3 + 1, none⟩) (blk_far (p := ⟨g2, k2 * 3, none⟩) BQ.out NQG.out _) NQG.out _) NQG.out _)⟩⟩, by have := HLT2.out; simp only [intOf, Int.toNat_natCast]; omega⟩
            · have z1 : decide ((k2 : Int) < (f.f4.length : Int)) = false := decide_eq_false (by omega)
              obtain rfl : k2 = f.f4.length := by have := HK2.out; omega
              have HM3 : Aside0 (0 ≤ m2 ∧ m2 ≤ 64 + 32768 * ((k + 1 : Nat) : Int)) := ⟨by have := HM2.out; have := HFC.out.2.2; have := HK2.out; omega⟩
              clear HM2
              clear hlt hk HK2
              go_wp2_with fail
              clear z1
              clear hcp0 hcp1 hcq1 hcq3 hcq4
              go_loopw [8] (fun vi wr => ∃ (k2 : Nat), vi = .int .i64 k2 ∧ Aside0 (k2 ≤ f.f3.length) ∧ Aside0 (Shp w wr) ∧ Aside0 (Kp w wr (fun k => lo ≤ k ∧ k < hi)) ∧ Aside0 (Fz w wr (some ⟨g, 0, none⟩) k) ∧ Aside0 (wr.heap[p]? = some (.cells #[.slice A0 ng c0, .slice (some ⟨g, 0, none⟩) fs.length c1] 25 (0, 0))) ∧ Aside0 (wr.heap[q]? = some (.cells #[.string f.f0, .slice B1 f.f1.length d1, .int .i64 f.f2, .slice B3 f.f3.length d3, .slice B4 f.f4.length d4] 54 (0, 0)))) (fun v _ => f.f3.length - (intOf v).toNat)
              case atStart => exact ⟨0, rfl, ⟨Nat.zero_le _⟩, HS, HK, HZ, BP, BQ⟩
              case round =>
                clear HS HK BP HZ BQ
                obtain ⟨k2, rfl, HK2, HS, HK, HZ, BP, BQ⟩ := hrel
                have hk := HK2.out
                have hcp0 := (blk_cell BP.out 0).trans rfl; have hcp1 := (blk_cell BP.out 1).trans rfl
                have hcq1 := (blk_cell BQ.out 1).trans rfl; have hcq3 := (blk_cell BQ.out 3).trans rfl; have hcq4 := (blk_cell BQ.out 4).trans rfl
                by_cases hlt : k2 < f.f3.length
                · have z1 : decide ((k2 : Int) < (f.f3.length : Int)) = true := decide_eq_true (by omega)
                  have HLT2 := Aside0.mk hlt
                  obtain ⟨g2, cap, cur, hv, hlo, hhi, hh, hsz⟩ := (R3.out.shp HS.out).resolve_left (by omega)
                  cases hv
                  have hkk := Nat.mul_le_mul_right 1 (show k2 + 1 ≤ f.f3.length from hlt)
                  obtain ⟨u0, hu0⟩ := has_cell (cs := cur) (o := k2) (by omega)
                  have hc0 : wr.cell? ⟨g2, k2, none⟩ = some u0 := (blk_cell hh _).trans hu0
                  have hf0 := blk_frozen hh (k2)
                  have q1 : (0 ≤ (k2 : Int)) = True := eq_true (by omega)
                  have q2 : ((k2 : Int) < (f.f3.length : Int)) = True := eq_true (by omega)
                  have HH := Aside0.mk hh; have HB := Aside0.mk (And.intro hlo hhi)
                  have NPG : Aside0 (p ≠ g2) := ⟨blk_ne BP.out hh (by decide)⟩; have NQG : Aside0 (q ≠ g2) := ⟨blk_ne BQ.out hh (by decide)⟩
                  have hw2_ := w64_succ k2 (by have := HFC.out; omega)
                  clear hu0 hh hlo hhi hsz hkk hlt hk
                  go_wp2
                  rw [hw2_]
                  exact ⟨⟨k2 + 1, rfl, ⟨HLT2.out⟩, ⟨(Shp.set HS.out g2 (k2) _)⟩, ⟨(Kp.set (o := k2) HK.out HB.out _)⟩, ⟨(Fz.far HZ.out HH.out (by decide) (k2) _)⟩, ⟨(blk_far (p := ⟨g2, k2, none⟩) BP.out NPG.out _)⟩, ⟨(blk_far (p := ⟨g2, k2, none⟩) BQ.out NQG.out _)⟩⟩, by have := HLT2.out; simp only [intOf, Int.toNat_natCast]; omega⟩
                · have z1 : decide ((k2 : Int) < (f.f3.length : Int)) = false := decide_eq_false (by omega)
                  obtain rfl : k2 = f.f3.length := by have := HK2.out; omega
                  clear hlt hk HK2
                  go_wp2_with fail
                  clear z1
                  clear hcp0 hcp1 hcq1 hcq3 hcq4
                  go_loopw [9] (fun vi wr => ∃ (k2 : Nat), vi = .int .i64 k2 ∧ Aside0 (k2 ≤ f.f1.length) ∧ Aside0 (Shp w wr) ∧ Aside0 (Kp w wr (fun k => lo ≤ k ∧ k < hi)) ∧ Aside0 (Fz w wr (some ⟨g, 0, none⟩) k) ∧ Aside0 (wr.heap[p]? = some (.cells #[.slice A0 ng c0, .slice (some ⟨g, 0, none⟩) fs.length c1] 25 (0, 0))) ∧ Aside0 (wr.heap[q]? = some (.cells #[.string f.f0, .slice B1 f.f1.length d1, .int .i64 f.f2, .slice B3 f.f3.length d3, .slice B4 f.f4.length d4] 54 (0, 0)))) (fun v _ => f.f1.length - (intOf v).toNat)
                  case atStart => exact ⟨0, rfl, ⟨Nat.zero_le _⟩, HS, HK, HZ, BP, BQ⟩
                  case round =>
                    clear HS HK BP HZ BQ
                    obtain ⟨k2, rfl, HK2, HS, HK, HZ, BP, BQ⟩ := hrel
                    have hk := HK2.out
                    have hcp0 := (blk_cell BP.out 0).trans rfl; have hcp1 := (blk_cell BP.out 1).trans rfl
                    have hcq1 := (blk_cell BQ.out 1).trans rfl; have hcq3 := (blk_cell BQ.out 3).trans rfl; have hcq4 := (blk_cell BQ.out 4).trans rfl
                    by_cases hlt : k2 < f.f1.length
                    · have z1 : decide ((k2 : Int) < (f.f1.length : Int)) = true := decide_eq_true (by omega)
                      have HLT2 := Aside0.mk hlt
                      obtain ⟨g2, cap, cur, hv, hlo, hhi, hh, hsz⟩ := (R1.out.shp HS.out).resolve_left (by omega)
                      cases hv
                      have hkk := Nat.mul_le_mul_right 1 (show k2 + 1 ≤ f.f1.length from hlt)
                      obtain ⟨u0, hu0⟩ := has_cell (cs := cur) (o := k2) (by omega)
                      have hc0 : wr.cell? ⟨g2, k2, none⟩ = some u0 := (blk_cell hh _).trans hu0
                      have hf0 := blk_frozen hh (k2)
                      have q1 : (0 ≤ (k2 : Int)) = True := eq_true (by omega)
                      have q2 : ((k2 : Int) < (f.f1.length : Int)) = True := eq_true (by omega)
                      have HH := Aside0.mk hh; have HB := Aside0.mk (And.intro hlo hhi)
                      have NPG : Aside0 (p ≠ g2) := ⟨blk_ne BP.out hh (by decide)⟩; have NQG : Aside0 (q ≠ g2) := ⟨blk_ne BQ.out hh (by decide)⟩
                      have hw2_ := w64_succ k2 (by have := HFC.out; omega)
                      clear hu0 hh hlo hhi hsz hkk hlt hk
                      go_wp2
                      rw [hw2_]
                      exact ⟨⟨k2 + 1, rfl, ⟨HLT2.out⟩, ⟨(Shp.set HS.out g2 (k2) _)⟩, ⟨(Kp.set (o := k2) HK.out HB.out _)⟩, ⟨(Fz.far HZ.out HH.out (by decide) (k2) _)⟩, ⟨(blk_far (p := ⟨g2, k2, none⟩) BP.out NPG.out _)⟩, ⟨(blk_far (p := ⟨g2, k2, none⟩) BQ.out NQG.out _)⟩⟩, by have := HLT2.out; simp only [intOf, Int.toNat_natCast]; omega⟩
                    · have z1 : decide ((k2 : Int) < (f.f1.length : Int)) = false := decide_eq_false (by omega)
                      obtain rfl : k2 = f.f1.length := by have := HK2.out; omega
                      clear hlt hk HK2
                      obtain ⟨g9, _, _, _, _, _, _, cs9, ha9, _, _, hh, hcz, e0, e1, e2, e3, e4, _, _, _⟩ := fz_elem HR1.out HZ.out HFF.out
                      cases ha9
                      have NPF9 : Aside0 (p ≠ g) := NPF
                      have hc0 : wr.cell? ⟨g, k * 5, none⟩ = some (.string f.f0) := (blk_cell hh _).trans e0
                      have hf0 := blk_frozen hh (k * 5)
                      have hc1 : wr.cell? ⟨g, k * 5 + 1, none⟩ = some (_) := (blk_cell hh _).trans e1
                      have hf1 := blk_frozen hh (k * 5 + 1)
                      have hc2 : wr.cell? ⟨g, k * 5 + 2, none⟩ = some (.int .i64 f.f2) := (blk_cell hh _).trans e2
                      have hf2 := blk_frozen hh (k * 5 + 2)
                      have hc3 : wr.cell? ⟨g, k * 5 + 3, none⟩ = some (_) := (blk_cell hh _).trans e3
                      have hf3 := blk_frozen hh (k * 5 + 3)
                      have hc4 : wr.cell? ⟨g, k * 5 + 4, none⟩ = some (_) := (blk_cell hh _).trans e4
                      have hf4 := blk_frozen hh (k * 5 + 4)
                      have q1 : (0 ≤ (k : Int)) = True := eq_true (by omega)
                      have q2 : ((k : Int) < (fs.length : Int)) = True := eq_true (by have := HLT.out; omega)
                      have HHF := Aside0.mk hh
                      have hw3_ := w64_succ k (by have := HLF.out; have := HLT.out; omega)
                      clear e0 e1 e2 e3 e4 hh hcz
                      go_wp2
                      rw [hw3_]
                      exact ⟨⟨k + 1, _, rfl, rfl, ⟨HLT.out⟩, HM3, ⟨(Shp.set (Shp.set (Shp.set (Shp.set (Shp.set HS.out g (k * 5) _) g (k * 5 + 1) _) g (k * 5 + 2) _) g (k * 5 + 3) _) g (k * 5 + 4) _)⟩, ⟨(Kp.set (o := k * 5 + 4) (Kp.set (o := k * 5 + 3) (Kp.set (o := k * 5 + 2) (Kp.set (o := k * 5 + 1) (Kp.set (o := k * 5) HK.out HG.out _) HG.out _) HG.out _) HG.out _) HG.out _)⟩, ⟨(Fz.low (o := k * 5 + 4) (Fz.low (o := k * 5 + 3) (Fz.low (o := k * 5 + 2) (Fz.low (o := k * 5 + 1) (Fz.low (o := k * 5) HZ.out.next (by omega) _) (by omega) _) (by omega) _) (by omega) _) (by omega) _)⟩, ⟨(blk_far (p := ⟨g, k * 5 + 4, none⟩) (blk_far (p := ⟨g, k * 5 + 3, none⟩) (blk_far (p := ⟨g, k * 5 + 2, none⟩) (blk_far (p := ⟨g, k * 5 + 1, none⟩) (blk_far (p := ⟨g, k * 5, none⟩) BP.out NPF.out _) NPF.out _) NPF.out _) NPF.out _) NPF.out _)⟩⟩, by have := HLT.out; simp only [intOf, Int.toNat_natCast]; omega⟩
        · have z1 : decide ((k : Int) < (fs.length : Int)) = false := decide_eq_false (by omega)
          obtain rfl : k = fs.length := by have := HKN.out; omega
          clear hlt hk HKN
          go_wp2
          go_ret
          exact ⟨m, rfl, HM.out.1, HK.out⟩
end Go.Proofs.YteidgpaakoeefaaDoor
namespace Go.Proofs.YteidgpaakoeefaaDoor
open Go.RowKit Go.Proofs.YteidgpaakoeefaaDoorW.PrintWords Go.Proofs.YteidgpaakoeefaaDoorW.PrintLast Go.Proofs.YteidgpaakoeefaaDoorW.PrintMore
set_option linter.unusedVariables false
set_option linter.unusedSimpArgs false
theorem lent_reads {W : World} {g : Nat} {l0 : List Int} (hl : l0.length ≤ 9223372036854775807) (h : W.heap[g]? = some (.cells (spareC l0 3) 5 (0, 0))) : Kd.C (Kd.int .u8) W (some ⟨g, 0, none⟩) l0.length l0 := by
  refine C_of_cells hl (fun j x hx => ?_)
  have hj : j < l0.length := (List.getElem?_eq_some_iff.1 hx).1
  rw [blk_cell h, spare3_lo l0 j hj, rd_get hj, (List.getElem?_eq_some_iff.1 hx).2]
set_option maxHeartbeats 4000000 in
set_option maxRecDepth 100000 in
theorem Kept_callsG (g : Nat) (A1 : Option Addr) (c1 : Nat) (l0 : List Int) (w0 w : World) (hg : w0.heap.size ≤ g) (hB : Below w0.heap.size w0 w)
    (hbk : w.heap[g]? = some (.cells (spareC l0 3) 5 (0, 0))) (hr : Kd.C (Kd.int .u8) w0 A1 l0.length l0) (hl : l0.length ≤ 140737488355318) :
    Calls Tryd.prog 18 #[.slice (some ⟨g, 0, none⟩) l0.length (l0.length + 3), .slice A1 l0.length c1] w
      fun e w' => e = .returned (.bool true) ∧ Below w0.heap.size w0 w' ∧ w.grownBy w' (some g) := by
  have HGR := Aside0.mk (World.grownBy.refl w (some g))
  have HR := Aside0.mk hr; have HB := Aside0.mk hB; have BK := Aside0.mk hbk; have HG := Aside0.mk hg
  clear hr hB hbk hg
  obtain ⟨n, hn⟩ : ∃ n, n = l0.length := ⟨_, rfl⟩
  rw [← hn] at hl ⊢
  have HN := Aside0.mk hn; clear hn
  have d1 : decide ((n : Int) + 3 ≤ ((n + 3 : Nat) : Int)) = true := decide_eq_true (by omega)
  go_enter Tryd.func18, Tryd.ntmps18
  go_wp2
  go_loopw [7] (fun v wr => ∃ i : Int, v = .int .i64 i ∧ 0 ≤ i ∧ i ≤ (n : Int) + 3 ∧ Aside0 (∃ cs, wr.heap[g]? = some (.cells cs 5 (0, 0)) ∧ ∀ j : Nat, i ≤ (j : Int) → cs[j]? = (spareC l0 3)[j]?) ∧ Aside0 (Below w0.heap.size w0 wr) ∧ Aside0 (w.grownBy wr (some g))) (fun v _ => ((n : Int) + 3 - intOf v).toNat)
  case atStart => exact ⟨0, rfl, by omega, by omega, ⟨_, BK.out, fun j _ => rfl⟩, HB, HGR⟩
  case round =>
    clear HB BK HGR
    obtain ⟨i, rfl, hi0, hi1, BK, HB, HGR⟩ := hrel
    by_cases hx : i < (n : Int) + 3
    · have dx : decide (i < (n : Int) + 3) = true := decide_eq_true hx
      obtain ⟨cs, hcs, hrest⟩ := BK.out
      by_cases hin : i < (n : Int)
      · have dn : decide (i < (n : Int)) = true := decide_eq_true hin
        have dn2 : decide ((n : Int) ≤ i) = false := decide_eq_false (by omega)
        obtain ⟨x, hxx⟩ : ∃ x, x = rd l0 i := ⟨_, rfl⟩
        have hcl : wr.cell? ⟨g, i.toNat, none⟩ = some (.int .u8 x) := by
          rw [blk_cell hcs, hrest _ (by omega), spare3_lo l0 i.toNat (by have := HN.out; omega), Int.toNat_of_nonneg hi0, hxx]
        have hfr := blk_frozen hcs i.toNat
        have hrc := Kd.C_below HR.out HB.out
        rw [← HN.out] at hrc
        obtain ⟨ad, e, hcell⟩ := Kd.at_int hrc i hi0 hin
        cases e
        rw [← hxx] at hcell
        have hcs2 := Aside0.mk hcs; have hrest2 := Aside0.mk hrest
        clear hcs hrest BK hrc hxx
        go_wp2
        go_quiet (fail)
        go_wp2
        exact ⟨⟨i + 1, rfl, by omega, by omega, ⟨_, blk_put (w := wr.drewN nq) hcs2.out i.toNat _ rfl, fun j hj => by rw [Array.getElem?_setIfInBounds_ne (by omega)]; exact hrest2.out j (by omega)⟩, ⟨Below.setCell (pw_below_drewN HB.out nq) HG.out _⟩, ⟨grown_set (grown_drewN HGR.out nq)⟩⟩, by simp only [intOf]; omega⟩
      · have dn : decide (i < (n : Int)) = false := decide_eq_false hin
        have dn2 : decide ((n : Int) ≤ i) = true := decide_eq_true (by omega)
        have hcl : wr.cell? ⟨g, i.toNat, none⟩ = some (.int .u8 77) := by
          rw [blk_cell hcs, hrest _ (by omega), spare3_hi l0 i.toNat (by have := HN.out; omega) (by have := HN.out; omega)]
        have hfr := blk_frozen hcs i.toNat
        have hcs2 := Aside0.mk hcs; have hrest2 := Aside0.mk hrest
        clear hcs hrest BK
        go_wp2
        go_quiet (fail)
        go_wp2
        exact ⟨⟨i + 1, rfl, by omega, by omega, ⟨_, blk_put (w := wr.drewN nq) hcs2.out i.toNat _ rfl, fun j hj => by rw [Array.getElem?_setIfInBounds_ne (by omega)]; exact hrest2.out j (by omega)⟩, ⟨Below.setCell (pw_below_drewN HB.out nq) HG.out _⟩, ⟨grown_set (grown_drewN HGR.out nq)⟩⟩, by simp only [intOf]; omega⟩
    · have dx : decide (i < (n : Int) + 3) = false := decide_eq_false hx
      go_wp2
      go_ret
      exact ⟨rfl, HB.out, HGR.out⟩
end Go.Proofs.YteidgpaakoeefaaDoor
namespace Go.Proofs.YteidgpaakoeefaaDoor.PIm
open Go.RowKit Go.Proofs.YteidgpaakoeefaaDoorW.PrintWords Go.Proofs.YteidgpaakoeefaaDoorW.PrintLast Go.Proofs.YteidgpaakoeefaaDoorW.PrintMore
attribute [local go_sem] max2_int min2_int max_two min_two max_three min_three max_four min_four   -- for this text's walks alone
set_option linter.unusedVariables false
set_option linter.unusedSimpArgs false
def tiltyardlaw15_awake.f (k : Nat)  : Option (Bool) := (some (([(⟨1, 0, (-3)⟩ : S48)] : List (S48)) : List (S48))).bind fun y203 => ((some (([(⟨(⟨#[102]⟩ : ByteArray), ([] : List Int), 0, ([] : List Int), (([(⟨32, 0, 0⟩ : S50)] : List (S50)))⟩ : S54)] : List (S54)) : List (S54))).bind fun y209 => ((image_Encode.f y203 y209).bind fun bt213 => ((image_Decode.f bt213.1).bind fun bt217 => ((tiltyardref14_Same.f k y203 y209 bt217.1 bt217.2.1).bind fun t225 => ((wire_Open.f bt213.1).bind fun bt226 => ((image_Decode.f (([84, 73, 76, 84] : List Int))).bind fun bt233 => (if bt213.2 = 0 then (if bt226.2 = true then (if (strOfNums bt226.1).toList = ([84, 73, 76, 84, 1, 1, 0, 5, 1, 1, 102, 0, 0, 0, 1, 32, 0, 0] : List UInt8) then (if bt217.2.2 = 0 then (if t225 = true then (if bt233.2.2 = 150 then ((image_Right.f ([] : List (S48)) (([(⟨(⟨#[]⟩ : ByteArray), ([] : List Int), 0, ([] : List Int), ([] : List (S50))⟩ : S54)] : List (S54)))).bind fun t244 => (some (t244 == 150))) else (some false)) else (some false)) else (some false)) else (some false)) else (some false)) else (some false))))))))
theorem tiltyardlaw15_awake.mono : ∀ k, LeO (tiltyardlaw15_awake.f k ) (tiltyardlaw15_awake.f (k + 1) ) := by
  intro  k
  unfold tiltyardlaw15_awake.f
  repeat' first
      | (with_reducible exact tiltyardref14_Same.mono _ _ _ _ _)
      | (with_reducible exact LeO.refl _)
      | (with_reducible exact LeO.none _)
      | (with_reducible refine LeO.ite ?_ ?_)
      | (with_reducible refine LeO.bind ?_ (fun _ => ?_))
      | exact tiltyardref14_Same.mono _ _ _ _ _
      | exact LeO.none _
      | refine LeO.ite ?_ ?_
      | refine LeO.bind ?_ (fun _ => ?_)
set_option maxHeartbeats 8000000 in
set_option maxRecDepth 100000 in
theorem tiltyardlaw15_awake.calls_true (k : Nat) (w : World) (h : tiltyardlaw15_awake.f k  = some true) (hW : Tab w) :
    Calls Tryd.prog 8 #[] w fun e w' => e = .returned (.bool true) ∧ Below w.heap.size w w' := by
  have hu48 := Tryd.underlying48
  have hu50 := Tryd.underlying50
  have hu54 := Tryd.underlying54
  have hu25 := Tryd.underlying25
  have HB := Aside0.mk (Below.refl w.heap.size w)
  have HWX := Aside0.mk hW
  clear hW
  have H : ((some (([(⟨1, 0, (-3)⟩ : S48)] : List (S48)) : List (S48))).bind fun y203 => ((some (([(⟨(⟨#[102]⟩ : ByteArray), ([] : List Int), 0, ([] : List Int), (([(⟨32, 0, 0⟩ : S50)] : List (S50)))⟩ : S54)] : List (S54)) : List (S54))).bind fun y209 => ((image_Encode.f y203 y209).bind fun bt213 => ((image_Decode.f bt213.1).bind fun bt217 => ((tiltyardref14_Same.f k y203 y209 bt217.1 bt217.2.1).bind fun t225 => ((wire_Open.f bt213.1).bind fun bt226 => ((image_Decode.f (([84, 73, 76, 84] : List Int))).bind fun bt233 => (if bt213.2 = 0 then (if bt226.2 = true then (if (strOfNums bt226.1).toList = ([84, 73, 76, 84, 1, 1, 0, 5, 1, 1, 102, 0, 0, 0, 1, 32, 0, 0] : List UInt8) then (if bt217.2.2 = 0 then (if t225 = true then (if bt233.2.2 = 150 then ((image_Right.f ([] : List (S48)) (([(⟨(⟨#[]⟩ : ByteArray), ([] : List Int), 0, ([] : List Int), ([] : List (S50))⟩ : S54)] : List (S54)))).bind fun t244 => (some (t244 == 150))) else (some false)) else (some false)) else (some false)) else (some false)) else (some false)) else (some false))))))))) = some true := h
  clear h
  obtain ⟨y203, hy203⟩ : ∃ y_ : List (S48), y_ = (([(⟨1, 0, (-3)⟩ : S48)] : List (S48))) := ⟨_, rfl⟩
  replace H : ((some (([(⟨(⟨#[102]⟩ : ByteArray), ([] : List Int), 0, ([] : List Int), (([(⟨32, 0, 0⟩ : S50)] : List (S50)))⟩ : S54)] : List (S54)) : List (S54))).bind fun y209 => ((image_Encode.f y203 y209).bind fun bt213 => ((image_Decode.f bt213.1).bind fun bt217 => ((tiltyardref14_Same.f k y203 y209 bt217.1 bt217.2.1).bind fun t225 => ((wire_Open.f bt213.1).bind fun bt226 => ((image_Decode.f (([84, 73, 76, 84] : List Int))).bind fun bt233 => (if bt213.2 = 0 then (if bt226.2 = true then (if (strOfNums bt226.1).toList = ([84, 73, 76, 84, 1, 1, 0, 5, 1, 1, 102, 0, 0, 0, 1, 32, 0, 0] : List UInt8) then (if bt217.2.2 = 0 then (if t225 = true then (if bt233.2.2 = 150 then ((image_Right.f ([] : List (S48)) (([(⟨(⟨#[]⟩ : ByteArray), ([] : List Int), 0, ([] : List Int), ([] : List (S50))⟩ : S54)] : List (S54)))).bind fun t244 => (some (t244 == 150))) else (some false)) else (some false)) else (some false)) else (some false)) else (some false)) else (some false)))))))) = some true := by first | (rw [hy203]; with_reducible exact H) | (have H2_ := (Option.bind_some _ _).symm.trans H; rw [hy203]; with_reducible exact H2_) | (have H2_ := (Option.bind_some _ _).symm.trans H; with_reducible exact H2_) | with_reducible exact H | (rw [hy203]; exact H) | exact H
  have Ny203 := Aside0.mk hy203
  clear hy203
  obtain ⟨y206, hy206⟩ : ∃ y_ : List (S50), y_ = (([(⟨32, 0, 0⟩ : S50)] : List (S50))) := ⟨_, rfl⟩
  replace H : ((some (([(⟨(⟨#[102]⟩ : ByteArray), ([] : List Int), 0, ([] : List Int), y206⟩ : S54)] : List (S54)) : List (S54))).bind fun y209 => ((image_Encode.f y203 y209).bind fun bt213 => ((image_Decode.f bt213.1).bind fun bt217 => ((tiltyardref14_Same.f k y203 y209 bt217.1 bt217.2.1).bind fun t225 => ((wire_Open.f bt213.1).bind fun bt226 => ((image_Decode.f (([84, 73, 76, 84] : List Int))).bind fun bt233 => (if bt213.2 = 0 then (if bt226.2 = true then (if (strOfNums bt226.1).toList = ([84, 73, 76, 84, 1, 1, 0, 5, 1, 1, 102, 0, 0, 0, 1, 32, 0, 0] : List UInt8) then (if bt217.2.2 = 0 then (if t225 = true then (if bt233.2.2 = 150 then ((image_Right.f ([] : List (S48)) (([(⟨(⟨#[]⟩ : ByteArray), ([] : List Int), 0, ([] : List Int), ([] : List (S50))⟩ : S54)] : List (S54)))).bind fun t244 => (some (t244 == 150))) else (some false)) else (some false)) else (some false)) else (some false)) else (some false)) else (some false)))))))) = some true := by first | (rw [hy206]; with_reducible exact H) | (have H2_ := (Option.bind_some _ _).symm.trans H; rw [hy206]; with_reducible exact H2_) | (have H2_ := (Option.bind_some _ _).symm.trans H; with_reducible exact H2_) | with_reducible exact H | (rw [hy206]; exact H) | exact H
  have Ny206 := Aside0.mk hy206
  clear hy206
  obtain ⟨y209, hy209⟩ : ∃ y_ : List (S54), y_ = (([(⟨(⟨#[102]⟩ : ByteArray), ([] : List Int), 0, ([] : List Int), y206⟩ : S54)] : List (S54))) := ⟨_, rfl⟩
  replace H : ((image_Encode.f y203 y209).bind fun bt213 => ((image_Decode.f bt213.1).bind fun bt217 => ((tiltyardref14_Same.f k y203 y209 bt217.1 bt217.2.1).bind fun t225 => ((wire_Open.f bt213.1).bind fun bt226 => ((image_Decode.f (([84, 73, 76, 84] : List Int))).bind fun bt233 => (if bt213.2 = 0 then (if bt226.2 = true then (if (strOfNums bt226.1).toList = ([84, 73, 76, 84, 1, 1, 0, 5, 1, 1, 102, 0, 0, 0, 1, 32, 0, 0] : List UInt8) then (if bt217.2.2 = 0 then (if t225 = true then (if bt233.2.2 = 150 then ((image_Right.f ([] : List (S48)) (([(⟨(⟨#[]⟩ : ByteArray), ([] : List Int), 0, ([] : List Int), ([] : List (S50))⟩ : S54)] : List (S54)))).bind fun t244 => (some (t244 == 150))) else (some false)) else (some false)) else (some false)) else (some false)) else (some false)) else (some false))))))) = some true := by first | (rw [hy209]; with_reducible exact H) | (have H2_ := (Option.bind_some _ _).symm.trans H; rw [hy209]; with_reducible exact H2_) | (have H2_ := (Option.bind_some _ _).symm.trans H; with_reducible exact H2_) | with_reducible exact H | (rw [hy209]; exact H) | exact H
  have Ny209 := Aside0.mk hy209
  clear hy209
  replace H := Option.bind_eq_some_iff.mp H
  obtain ⟨⟨t213, t216⟩, A10, H⟩ := H
  replace H : ((image_Decode.f t213).bind fun bt217 => ((tiltyardref14_Same.f k y203 y209 bt217.1 bt217.2.1).bind fun t225 => ((wire_Open.f t213).bind fun bt226 => ((image_Decode.f (([84, 73, 76, 84] : List Int))).bind fun bt233 => (if t216 = 0 then (if bt226.2 = true then (if (strOfNums bt226.1).toList = ([84, 73, 76, 84, 1, 1, 0, 5, 1, 1, 102, 0, 0, 0, 1, 32, 0, 0] : List UInt8) then (if bt217.2.2 = 0 then (if t225 = true then (if bt233.2.2 = 150 then ((image_Right.f ([] : List (S48)) (([(⟨(⟨#[]⟩ : ByteArray), ([] : List Int), 0, ([] : List Int), ([] : List (S50))⟩ : S54)] : List (S54)))).bind fun t244 => (some (t244 == 150))) else (some false)) else (some false)) else (some false)) else (some false)) else (some false)) else (some false)))))) = some true := H
  have A1 := Aside0.mk A10
  clear A10
  replace H := Option.bind_eq_some_iff.mp H
  obtain ⟨⟨t217, t220, t223⟩, A20, H⟩ := H
  replace H : ((tiltyardref14_Same.f k y203 y209 t217 t220).bind fun t225 => ((wire_Open.f t213).bind fun bt226 => ((image_Decode.f (([84, 73, 76, 84] : List Int))).bind fun bt233 => (if t216 = 0 then (if bt226.2 = true then (if (strOfNums bt226.1).toList = ([84, 73, 76, 84, 1, 1, 0, 5, 1, 1, 102, 0, 0, 0, 1, 32, 0, 0] : List UInt8) then (if t223 = 0 then (if t225 = true then (if bt233.2.2 = 150 then ((image_Right.f ([] : List (S48)) (([(⟨(⟨#[]⟩ : ByteArray), ([] : List Int), 0, ([] : List Int), ([] : List (S50))⟩ : S54)] : List (S54)))).bind fun t244 => (some (t244 == 150))) else (some false)) else (some false)) else (some false)) else (some false)) else (some false)) else (some false))))) = some true := H
  have A2 := Aside0.mk A20
  clear A20
  replace H := Option.bind_eq_some_iff.mp H
  obtain ⟨t225, A30, H⟩ := H
  replace H : ((wire_Open.f t213).bind fun bt226 => ((image_Decode.f (([84, 73, 76, 84] : List Int))).bind fun bt233 => (if t216 = 0 then (if bt226.2 = true then (if (strOfNums bt226.1).toList = ([84, 73, 76, 84, 1, 1, 0, 5, 1, 1, 102, 0, 0, 0, 1, 32, 0, 0] : List UInt8) then (if t223 = 0 then (if t225 = true then (if bt233.2.2 = 150 then ((image_Right.f ([] : List (S48)) (([(⟨(⟨#[]⟩ : ByteArray), ([] : List Int), 0, ([] : List Int), ([] : List (S50))⟩ : S54)] : List (S54)))).bind fun t244 => (some (t244 == 150))) else (some false)) else (some false)) else (some false)) else (some false)) else (some false)) else (some false)))) = some true := H
  have A3 := Aside0.mk A30
  clear A30
  replace H := Option.bind_eq_some_iff.mp H
  obtain ⟨⟨t226, t227⟩, A40, H⟩ := H
  replace H : ((image_Decode.f (([84, 73, 76, 84] : List Int))).bind fun bt233 => (if t216 = 0 then (if t227 = true then (if (strOfNums t226).toList = ([84, 73, 76, 84, 1, 1, 0, 5, 1, 1, 102, 0, 0, 0, 1, 32, 0, 0] : List UInt8) then (if t223 = 0 then (if t225 = true then (if bt233.2.2 = 150 then ((image_Right.f ([] : List (S48)) (([(⟨(⟨#[]⟩ : ByteArray), ([] : List Int), 0, ([] : List Int), ([] : List (S50))⟩ : S54)] : List (S54)))).bind fun t244 => (some (t244 == 150))) else (some false)) else (some false)) else (some false)) else (some false)) else (some false)) else (some false))) = some true := H
  have A4 := Aside0.mk A40
  clear A40
  obtain ⟨y230, hy230⟩ : ∃ y_ : List Int, y_ = (([84, 73, 76, 84] : List Int)) := ⟨_, rfl⟩
  replace H : ((image_Decode.f y230).bind fun bt233 => (if t216 = 0 then (if t227 = true then (if (strOfNums t226).toList = ([84, 73, 76, 84, 1, 1, 0, 5, 1, 1, 102, 0, 0, 0, 1, 32, 0, 0] : List UInt8) then (if t223 = 0 then (if t225 = true then (if bt233.2.2 = 150 then ((image_Right.f ([] : List (S48)) (([(⟨(⟨#[]⟩ : ByteArray), ([] : List Int), 0, ([] : List Int), ([] : List (S50))⟩ : S54)] : List (S54)))).bind fun t244 => (some (t244 == 150))) else (some false)) else (some false)) else (some false)) else (some false)) else (some false)) else (some false))) = some true := by first | (rw [hy230]; with_reducible exact H) | (have H2_ := (Option.bind_some _ _).symm.trans H; rw [hy230]; with_reducible exact H2_) | (have H2_ := (Option.bind_some _ _).symm.trans H; with_reducible exact H2_) | with_reducible exact H | (rw [hy230]; exact H) | exact H
  have Ny230 := Aside0.mk hy230
  clear hy230
  replace H := Option.bind_eq_some_iff.mp H
  obtain ⟨⟨t233, t236, t239⟩, A50, H⟩ := H
  replace H : (if t216 = 0 then (if t227 = true then (if (strOfNums t226).toList = ([84, 73, 76, 84, 1, 1, 0, 5, 1, 1, 102, 0, 0, 0, 1, 32, 0, 0] : List UInt8) then (if t223 = 0 then (if t225 = true then (if t239 = 150 then ((image_Right.f ([] : List (S48)) (([(⟨(⟨#[]⟩ : ByteArray), ([] : List Int), 0, ([] : List Int), ([] : List (S50))⟩ : S54)] : List (S54)))).bind fun t244 => (some (t244 == 150))) else (some false)) else (some false)) else (some false)) else (some false)) else (some false)) else (some false)) = some true := H
  have A5 := Aside0.mk A50
  clear A50
  by_cases c6 : t216 = 0
  · rw [if_pos c6] at H
    have c6b0 : (t216 == 0) = true := beq_iff_eq.mpr c6
    have c6b1 : (t216 != 0) = false := bne_eq_false_iff_eq.mpr c6
    clear c6
    by_cases c7 : t227 = true
    · subst c7
      have H1 : (if (strOfNums t226).toList = ([84, 73, 76, 84, 1, 1, 0, 5, 1, 1, 102, 0, 0, 0, 1, 32, 0, 0] : List UInt8) then (if t223 = 0 then (if t225 = true then (if t239 = 150 then ((image_Right.f ([] : List (S48)) (([(⟨(⟨#[]⟩ : ByteArray), ([] : List Int), 0, ([] : List Int), ([] : List (S50))⟩ : S54)] : List (S54)))).bind fun t244 => (some (t244 == 150))) else (some false)) else (some false)) else (some false)) else (some false)) = some true := by rw [if_pos rfl] at H; exact H
      clear H
      have H := H1
      clear H1
      by_cases c8 : (strOfNums t226).toList = ([84, 73, 76, 84, 1, 1, 0, 5, 1, 1, 102, 0, 0, 0, 1, 32, 0, 0] : List UInt8)
      · rw [if_pos c8] at H
        have c8b0 : ((strOfNums t226).toList == ([84, 73, 76, 84, 1, 1, 0, 5, 1, 1, 102, 0, 0, 0, 1, 32, 0, 0] : List UInt8)) = true := beq_iff_eq.mpr c8
        have c8b1 : ((strOfNums t226).toList != ([84, 73, 76, 84, 1, 1, 0, 5, 1, 1, 102, 0, 0, 0, 1, 32, 0, 0] : List UInt8)) = false := bne_eq_false_iff_eq.mpr c8
        clear c8
        by_cases c9 : t223 = 0
        · rw [if_pos c9] at H
          have c9b0 : (t223 == 0) = true := beq_iff_eq.mpr c9
          have c9b1 : (t223 != 0) = false := bne_eq_false_iff_eq.mpr c9
          clear c9
          by_cases c10 : t225 = true
          · subst c10
            have H1 : (if t239 = 150 then ((image_Right.f ([] : List (S48)) (([(⟨(⟨#[]⟩ : ByteArray), ([] : List Int), 0, ([] : List Int), ([] : List (S50))⟩ : S54)] : List (S54)))).bind fun t244 => (some (t244 == 150))) else (some false)) = some true := by rw [if_pos rfl] at H; exact H
            clear H
            have H := H1
            clear H1
            by_cases c11 : t239 = 150
            · rw [if_pos c11] at H
              have c11b0 : (t239 == 150) = true := beq_iff_eq.mpr c11
              have c11b1 : (t239 != 150) = false := bne_eq_false_iff_eq.mpr c11
              clear c11
              obtain ⟨y241, hy241⟩ : ∃ y_ : List (S54), y_ = (([(⟨(⟨#[]⟩ : ByteArray), ([] : List Int), 0, ([] : List Int), ([] : List (S50))⟩ : S54)] : List (S54))) := ⟨_, rfl⟩
              replace H : ((image_Right.f ([] : List (S48)) y241).bind fun t244 => (some (t244 == 150))) = some true := by first | (rw [hy241]; with_reducible exact H) | (have H2_ := (Option.bind_some _ _).symm.trans H; rw [hy241]; with_reducible exact H2_) | (have H2_ := (Option.bind_some _ _).symm.trans H; with_reducible exact H2_) | with_reducible exact H | (rw [hy241]; exact H) | exact H
              have Ny241 := Aside0.mk hy241
              clear hy241
              replace H := Option.bind_eq_some_iff.mp H
              obtain ⟨t244, A120, H⟩ := H
              replace H : (some (t244 == 150)) = some true := H
              have A12 := Aside0.mk A120
              clear A120
              have h150 := Option.some.inj H
              have hcm := fun W => conv_mark W #[.int .u8 84, .int .u8 73, .int .u8 76, .int .u8 84] 4
              go_enter Tryd.func8, Tryd.ntmps8
              go_wp2_with (first | ((with_reducible refine gate_dst (N := 12) rfl ?_); (try (refine gate_guard (by rfl) ?_; dsimp only)); refine Kd.R_lit k48 _ 48 ?hg (N := 12) ?hd (xs := ([(⟨1, 0, (-3)⟩ : S48)] : List (S48))) (inner := [.int .i64 1, .int .i64 0, .int .i64 (-3)]) (ok := fun _ => True) (okp := fun _ => True) ?hr ?hp (fun _ hk => hk) trivial (Below.refl _ _) (Nat.le_refl _) (by simp) ?_; (case hd => rfl); (case hg => rfl); (case hr => first | (go_simp; done) | (go_simp; rfl)); (case hp => exact (Reps.c3 (show Kd.M k48 _ _ _ (⟨1, 0, (-3)⟩ : S48) [.int .i64 1, .int .i64 0, .int .i64 (-3)] from (k48_mkM _ _ _ (⟨1, 0, (-3)⟩ : S48) )) (Reps.none _ _))); intro v204 w13 ho14 hb hg_ hnew_; clear hg_ hnew_; (first | rw [← Ny203.out] at ho14 | (simp only [Int.reduceToNat] at ho14; rw [← Ny203.out] at ho14)); have n0_ := Aside0.mk (Kd.R_lower ho14 (below_size (by repeat (first | (with_reducible first | exact HB.out | apply below_alloc | apply pw_below_drewN | apply below_drew1) | exact HB.out)))); have n1_ := Aside0.mk (below_step (by repeat (first | (with_reducible first | exact HB.out | apply below_alloc | apply pw_below_drewN | apply below_drew1) | exact HB.out)) hb); clear HB; have HO205 := n0_; have HB := n1_; clear n0_ n1_; clear hb ho14) | ((with_reducible refine gate_dst (N := 14) rfl ?_); (try (refine gate_guard (by rfl) ?_; dsimp only)); refine Kd.R_lit k50 _ 50 ?hg (N := 14) ?hd (xs := ([(⟨32, 0, 0⟩ : S50)] : List (S50))) (inner := [.int .i64 32, .int .i64 0, .int .i64 0]) (ok := fun _ => True) (okp := fun _ => True) ?hr ?hp (fun _ hk => hk) trivial (Below.refl _ _) (Nat.le_refl _) (by simp) ?_; (case hd => rfl); (case hg => rfl); (case hr => first | (go_simp; done) | (go_simp; rfl)); (case hp => exact (Reps.c3 (show Kd.M k50 _ _ _ (⟨32, 0, 0⟩ : S50) [.int .i64 32, .int .i64 0, .int .i64 0] from (k50_mkM _ _ _ (⟨32, 0, 0⟩ : S50) )) (Reps.none _ _))); intro v207 w15 ho16 hb hg_ hnew_; clear hg_ hnew_; (first | rw [← Ny206.out] at ho16 | (simp only [Int.reduceToNat] at ho16; rw [← Ny206.out] at ho16)); have n0_ := Aside0.mk (Kd.R_below (by (with_reducible repeat (first | apply Kd.R_alloc | apply Kd.R_drewN | apply Kd.R_drew)); exact HO205.out) hb); have n1_ := Aside0.mk (Kd.R_lower ho16 (below_size (by repeat (first | (with_reducible first | exact HB.out | apply below_alloc | apply pw_below_drewN | apply below_drew1) | exact HB.out)))); have n2_ := Aside0.mk (below_step (by repeat (first | (with_reducible first | exact HB.out | apply below_alloc | apply pw_below_drewN | apply below_drew1) | exact HB.out)) hb); clear HO205; clear HB; have HO205 := n0_; have HO208 := n1_; have HB := n2_; clear n0_ n1_ n2_; clear hb ho16; obtain ⟨Ao17, co17, eo17⟩ := Kd.R_slice HO208.out; subst eo17) | ((with_reducible refine gate_dst (N := 16) rfl ?_); (try (refine gate_guard (by rfl) ?_; dsimp only)); refine Kd.N_lit k54 _ 54 ?hg (N' := 16) ?hd (xs := ([(⟨(⟨#[102]⟩ : ByteArray), ([] : List Int), 0, ([] : List Int), y206⟩ : S54)] : List (S54))) (inner := [.string (⟨#[102]⟩ : ByteArray), .slice none 0 0, .int .i64 0, .slice none 0 0, .slice Ao17 y206.length co17]) (ok := (fun k_ => some k_ ≠ (v204 : Value).ownBlock)) (okp := (fun k_ => some k_ ≠ (v204 : Value).ownBlock)) ?hr ?hp (fun _ hk => hk) ((show ∀ k_, w15.heap.size ≤ k_ → (fun k_ => some k_ ≠ (v204 : Value).ownBlock) k_ from fun k_ hk => Kd.fresh' (Kd.R_lt (by (with_reducible repeat (first | apply Kd.R_alloc | apply Kd.R_drewN | apply Kd.R_drew)); exact HO205.out)) k_ hk) _ (Nat.le_refl _)) (Below.refl _ _) (Nat.le_refl _) (by simp) ?_; (case hd => rfl); (case hg => rfl); (case hr => first | (go_simp; done) | (go_simp; rfl)); (case hp => exact (Reps.c5 (show Kd.FK k54 _ _ (⟨(⟨#[102]⟩ : ByteArray), ([] : List Int), 0, ([] : List Int), y206⟩ : S54) [.string (⟨#[102]⟩ : ByteArray), .slice none 0 0, .int .i64 0, .slice none 0 0, .slice Ao17 y206.length co17] from (k54_mkF _ _ (⟨(⟨#[102]⟩ : ByteArray), ([] : List Int), 0, ([] : List Int), y206⟩ : S54) (Nat.le_refl _) (Kd.F_nil _ _ _) (Nat.le_refl _) (Kd.F_nil _ _ _) (Kd.R_reads' (Kd.R_mono (ok' := (fun k_ => some k_ ≠ (v204 : Value).ownBlock)) (Kd.R_apart' (HO208.out) (Kd.R_typed HO205.out) (by decide)) (fun k_ hk => hk.2))).2.1 (Kd.R_F (Kd.R_mono (ok' := (fun k_ => some k_ ≠ (v204 : Value).ownBlock)) (Kd.R_apart' (HO208.out) (Kd.R_typed HO205.out) (by decide)) (fun k_ hk => hk.2))))) (Reps.none _ _))); intro v210 w18 ho19 hb hg_ hnew_; clear hg_ hnew_; (first | rw [← Ny209.out] at ho19 | (simp only [Int.reduceToNat] at ho19; rw [← Ny209.out] at ho19)); have n0_ := Aside0.mk (Kd.R_below (by (with_reducible repeat (first | apply Kd.R_alloc | apply Kd.R_drewN | apply Kd.R_drew)); exact HO205.out) hb); have n1_ := Aside0.mk (Kd.N_lower ho19 (below_size (by repeat (first | (with_reducible first | exact HB.out | apply below_alloc | apply pw_below_drewN | apply below_drew1) | exact HB.out)))); have n2_ := Aside0.mk (below_step (by repeat (first | (with_reducible first | exact HB.out | apply below_alloc | apply pw_below_drewN | apply below_drew1) | exact HB.out)) hb); clear HO205; clear HB; clear HO208; have HO205 := n0_; have HO211 := n1_; have HB := n2_; clear n0_ n1_ n2_; clear hb ho19; obtain ⟨Ao20, co20, eo20⟩ := Kd.N_slice HO211.out; subst eo20; obtain ⟨Ao21, co21, eo21⟩ := Kd.R_slice HO205.out; subst eo21) | ((with_reducible refine gate_dst (N := 1) rfl ?_); (try (refine gate_guard (by rfl) ?_; dsimp only)); refine box_event ?hg (N := 1) ?hd (cs := #[.slice none 0 0, .slice none 0 0]) (t := 25) ?hr ?_; (case hd => rfl); (case hg => rfl); (case hr => first | (go_simp; done) | (go_simp; rfl)); intro gb212 hg w22 hbox hb; have n0_ := Aside0.mk (Kd.R_below (by (with_reducible repeat (first | apply Kd.R_alloc | apply Kd.R_drewN | apply Kd.R_drew)); exact HO205.out) hb); have n1_ := Aside0.mk (Kd.N_below (Kd.N_elderB (by (with_reducible repeat (first | apply Kd.N_alloc | apply Kd.N_drewN | apply Kd.N_drew)); exact HO211.out) gb212 (Nat.le_of_eq hg.symm)) hb); have n2_ := Aside0.mk (below_step (by repeat (first | (with_reducible first | exact HB.out | apply below_alloc | apply pw_below_drewN | apply below_drew1) | exact HB.out)) hb); have n3_ := Aside0.mk (hbox); have n4_ := Aside0.mk ((by rw [hg]; exact (below_size (by repeat (first | (with_reducible first | exact HB.out | apply below_alloc | apply pw_below_drewN | apply below_drew1) | exact HB.out))) : w.heap.size ≤ gb212)); have n5_ := Aside0.mk ((by rw [hg]; exact (below_size (by repeat (first | (with_reducible first | exact HB.out | apply below_alloc | apply pw_below_drewN | apply below_drew1) | exact HB.out))) : w.heap.size ≤ gb212)); clear HO205; clear HO211; clear HB; have HO205 := n0_; have HO211 := n1_; have HB := n2_; have BK212 := n3_; have GW212 := n4_; have GE212 := n5_; clear n0_ n1_ n2_ n3_ n4_ n5_; clear hb hbox hg; have hcz23_0 : w22.cell? ⟨gb212, 0, none⟩ = some (.slice none 0 0) := (blk_cell BK212.out 0).trans rfl; have hcz23_1 : w22.cell? ⟨gb212, 1, none⟩ = some (.slice none 0 0) := (blk_cell BK212.out 1).trans rfl; have hfz23_0 := blk_frozen BK212.out 0; have hfz23_1 := blk_frozen BK212.out 1) | ((with_reducible refine gate_callee (f := 11) rfl ?_); refine goesL_ (some 20) rfl rfl Tryd.func11 (by kernel_rfl) rfl #[.agg #[.slice Ao21 y203.length co21, .slice Ao20 y209.length co20]] rfl (by (try simp only [List.map_toArray, List.map_cons, List.map_nil]); first | done | rfl | (simp only [List.length_drop, List.length_take]; rfl)) ?_; (with_reducible refine (image_Encode.calls _ _ y203 _ _ y209 t213 t216 _ ?side1 ?side2 ?side3 ?side4 A1.out (HWX.out.below (by repeat (first | (with_reducible first | exact HB.out | apply below_alloc | apply pw_below_drewN | apply below_drew1 | refine below_set ?_ GE212.out) | exact HB.out)))).mono ?_); (case side1 => refine (Kd.R_reads' (e := 48) (base := w.heap.size) (ok := fun k_ => True) (n := y203.length) (c := co21) ?_).2.2; exact (by (with_reducible repeat (first | apply Kd.R_alloc | apply Kd.R_drewN | apply Kd.R_drew)); exact (Kd.R_mono (Kd.R_far (p := ⟨gb212, 1, none⟩) (Kd.R_far (p := ⟨gb212, 0, none⟩) (Kd.R_types HO205.out BK212.out (by decide)) (fun _ hk => hk.2) (.slice Ao21 y203.length co21)) (fun _ hk => hk.2) (.slice Ao20 y209.length co20)) (fun _ h_ => h_.1)))); (case side2 => exact (Kd.R_reads' HO205.out).2.1); (case side3 => refine (Kd.N_reads' (e := 54) (base := w.heap.size) (ok := fun k_ => (some k_ ≠ (.slice Ao21 y203.length co21 : Value).ownBlock ∧ k_ ≠ gb212)) (n := y209.length) (c := co20) ?_).2.2; exact (by (with_reducible repeat (first | apply Kd.N_alloc | apply Kd.N_drewN | apply Kd.N_drew)); exact (Kd.N_mono (Kd.N_far (p := ⟨gb212, 1, none⟩) (Kd.N_far (p := ⟨gb212, 0, none⟩) (Kd.N_mono HO211.out (fun k_ hk => (⟨hk, hk.2⟩ : _ ∧ k_ ≠ gb212))) (fun _ hk => hk.2) (.slice Ao21 y203.length co21)) (fun _ hk => hk.2) (.slice Ao20 y209.length co20)) (fun _ h_ => h_.1)))); (case side4 => exact (Kd.N_reads' HO211.out).2.1); rintro e w24 ⟨v214, rfl, ho0, hb⟩; refine ⟨_, rfl, ?_⟩; have n0_ := Aside0.mk (Kd.R_below (by (with_reducible repeat (first | apply Kd.R_alloc | apply Kd.R_drewN | apply Kd.R_drew)); exact (Kd.R_mono (Kd.R_far (p := ⟨gb212, 1, none⟩) (Kd.R_far (p := ⟨gb212, 0, none⟩) (Kd.R_types HO205.out BK212.out (by decide)) (fun _ hk => hk.2) (.slice Ao21 y203.length co21)) (fun _ hk => hk.2) (.slice Ao20 y209.length co20)) (fun _ h_ => h_.1))) hb); have n1_ := Aside0.mk (Kd.N_elder' (by (with_reducible repeat (first | apply Kd.N_alloc | apply Kd.N_drewN | apply Kd.N_drew)); exact (Kd.N_mono (Kd.N_far (p := ⟨gb212, 1, none⟩) (Kd.N_far (p := ⟨gb212, 0, none⟩) (Kd.N_mono HO211.out (fun k_ hk => (⟨hk, hk.2⟩ : _ ∧ k_ ≠ gb212))) (fun _ hk => hk.2) (.slice Ao21 y203.length co21)) (fun _ hk => hk.2) (.slice Ao20 y209.length co20)) (fun _ h_ => h_.1))) (Kd.R_base ho0) hb); have n2_ := Aside0.mk (Kd.R_lower ho0 (below_size (by repeat (first | (with_reducible first | exact HB.out | apply below_alloc | apply pw_below_drewN | apply below_drew1 | refine below_set ?_ GE212.out) | exact HB.out)))); have n3_ := Aside0.mk (blk_below (g := gb212) (o := .cells #[.slice Ao21 y203.length co21, .slice Ao20 y209.length co20] 25 (0, 0)) (by (with_reducible repeat (first | refine blk_drewN ?_ _ | refine blk_drew ?_ | refine blk_alloc ?_ _)); refine blk_put (cs := #[.slice Ao21 y203.length co21, .slice none 0 0]) ?_ 1 _ rfl; (with_reducible repeat (first | refine blk_drewN ?_ _ | refine blk_drew ?_ | refine blk_alloc ?_ _)); refine blk_put (cs := #[.slice none 0 0, .slice none 0 0]) ?_ 0 _ rfl; (with_reducible repeat (first | refine blk_drewN ?_ _ | refine blk_drew ?_ | refine blk_alloc ?_ _)); exact BK212.out) hb); have n4_ := Aside0.mk (below_step (by repeat (first | (with_reducible first | exact HB.out | apply below_alloc | apply pw_below_drewN | apply below_drew1 | refine below_set ?_ GE212.out) | exact HB.out)) hb); clear HO205; clear HO211; clear BK212; clear HB; have HO205 := n0_; have HO211 := n1_; have HO215 := n2_; have BK212 := n3_; have HB := n4_; clear n0_ n1_ n2_ n3_ n4_; (try clear hb); (try clear hb2); (try clear hk); (try clear hi); (try clear ho0); obtain ⟨Ao25, co25, eo25⟩ := Kd.R_slice HO215.out; subst eo25) | ((with_reducible refine gate_callee (f := 17) rfl ?_); refine goesL_ (some 25) rfl rfl Tryd.func17 (by kernel_rfl) rfl #[.slice Ao25 t213.length co25] rfl (by (try simp only [List.map_toArray, List.map_cons, List.map_nil]); first | done | rfl | (simp only [List.length_drop, List.length_take]; rfl)) ?_; (with_reducible refine (image_Decode.calls _ _ t213 t217 t220 t223 _ ?side1 ?side2 A2.out (HWX.out.below (by repeat (first | (with_reducible first | exact HB.out | apply below_alloc | apply pw_below_drewN | apply below_drew1 | refine below_set ?_ GE212.out) | exact HB.out)))).mono ?_); (case side1 => repeat (first | exact (Kd.R_reads' HO215.out).2.2 | (with_reducible refine Kd.C_alloc ?_ _) | (with_reducible refine Kd.C_drewN ?_ _) | (with_reducible refine Kd.C_drew ?_))); (case side2 => exact (Kd.R_reads' HO215.out).2.1); rintro e w26 ⟨v218, v221, rfl, ho0, ho1, hb⟩; refine ⟨_, rfl, ?_⟩; have n0_ := Aside0.mk (Kd.R_elder' (by (with_reducible repeat (first | apply Kd.R_alloc | apply Kd.R_drewN | apply Kd.R_drew)); exact HO205.out) (Kd.R_base ho0) hb); have n1_ := Aside0.mk (Kd.N_mono (Kd.N_told (Kd.N_told (Kd.N_old (by (with_reducible repeat (first | apply Kd.N_alloc | apply Kd.N_drewN | apply Kd.N_drew)); exact HO211.out) hb) (Kd.R_base ho0)) (Kd.N_base (Kd.S_N ho1))) (fun _ h_ => h_.1)); have n2_ := Aside0.mk (Kd.R_below (by (with_reducible repeat (first | apply Kd.R_alloc | apply Kd.R_drewN | apply Kd.R_drew)); exact HO215.out) hb); have n3_ := Aside0.mk (Kd.R_lower (Kd.R_new' ho0 (Kd.R_lt (by (with_reducible repeat (first | apply Kd.R_alloc | apply Kd.R_drewN | apply Kd.R_drew)); exact HO205.out))) (below_size (by repeat (first | (with_reducible first | exact HB.out | apply below_alloc | apply pw_below_drewN | apply below_drew1 | refine below_set ?_ GE212.out) | exact HB.out)))); have n4_ := Aside0.mk (Kd.N_lower (Kd.N_mono (ok' := fun k_ => some k_ ≠ (v218 : Value).ownBlock ∧ some k_ ≠ (.slice Ao21 y203.length co21 : Value).ownBlock ∧ some k_ ≠ (.slice Ao20 y209.length co20 : Value).ownBlock ∧ some k_ ≠ (.slice Ao25 t213.length co25 : Value).ownBlock ∧ k_ ≠ gb212) (Kd.S_N (Kd.S_bound (Kd.S_apart' ho1 (Kd.R_typed ho0) (by decide)))) (fun k_ hk_ => ⟨hk_.1.2, (Kd.fresh' (Kd.R_lt (by (with_reducible repeat (first | apply Kd.R_alloc | apply Kd.R_drewN | apply Kd.R_drew)); exact HO205.out)) k_ hk_.2.1), (Kd.fresh' (Kd.N_lt (by (with_reducible repeat (first | apply Kd.N_alloc | apply Kd.N_drewN | apply Kd.N_drew)); exact HO211.out)) k_ hk_.2.1), (Kd.fresh' (Kd.R_lt (by (with_reducible repeat (first | apply Kd.R_alloc | apply Kd.R_drewN | apply Kd.R_drew)); exact HO215.out)) k_ hk_.2.1), (Kd.freshB (g := gb212) (o := .cells #[.slice Ao21 y203.length co21, .slice Ao20 y209.length co20] 25 (0, 0)) (by (with_reducible repeat (first | refine blk_drewN ?_ _ | refine blk_drew ?_ | refine blk_alloc ?_ _)); exact BK212.out) k_ hk_.2.1)⟩)) (below_size (by repeat (first | (with_reducible first | exact HB.out | apply below_alloc | apply pw_below_drewN | apply below_drew1 | refine below_set ?_ GE212.out) | exact HB.out)))); have n5_ := Aside0.mk (blk_below (g := gb212) (o := .cells #[.slice Ao21 y203.length co21, .slice Ao20 y209.length co20] 25 (0, 0)) (by (with_reducible repeat (first | refine blk_drewN ?_ _ | refine blk_drew ?_ | refine blk_alloc ?_ _)); exact BK212.out) hb); have n6_ := Aside0.mk (below_step (by repeat (first | (with_reducible first | exact HB.out | apply below_alloc | apply pw_below_drewN | apply below_drew1 | refine below_set ?_ GE212.out) | exact HB.out)) hb); clear HO205; clear HO211; clear HO215; clear BK212; clear HB; have HO205 := n0_; have HO211 := n1_; have HO215 := n2_; have HO219 := n3_; have HO222 := n4_; have BK212 := n5_; have HB := n6_; clear n0_ n1_ n2_ n3_ n4_ n5_ n6_; (try clear hb); (try clear hb2); (try clear hk); (try clear hi); (try clear ho0); (try clear ho1)) | ((with_reducible refine gate_dst (N := 4) rfl ?_); (try (refine gate_guard (by rfl) ?_; dsimp only)); refine box_event ?hg (N := 4) ?hd (cs := #[.slice none 0 0, .slice none 0 0]) (t := 25) ?hr ?_; (case hd => rfl); (case hg => rfl); (case hr => first | (go_simp; done) | (go_simp; rfl)); intro gb224 hg w27 hbox hb; have n0_ := Aside0.mk (Kd.R_below (by (with_reducible repeat (first | apply Kd.R_alloc | apply Kd.R_drewN | apply Kd.R_drew)); exact HO205.out) hb); have n1_ := Aside0.mk (Kd.N_below (Kd.N_elderB (by (with_reducible repeat (first | apply Kd.N_alloc | apply Kd.N_drewN | apply Kd.N_drew)); exact HO211.out) gb224 (Nat.le_of_eq hg.symm)) hb); have n2_ := Aside0.mk (Kd.R_below (by (with_reducible repeat (first | apply Kd.R_alloc | apply Kd.R_drewN | apply Kd.R_drew)); exact HO215.out) hb); have n3_ := Aside0.mk (Kd.R_below (by (with_reducible repeat (first | apply Kd.R_alloc | apply Kd.R_drewN | apply Kd.R_drew)); exact HO219.out) hb); have n4_ := Aside0.mk (Kd.N_below (Kd.N_elderB (by (with_reducible repeat (first | apply Kd.N_alloc | apply Kd.N_drewN | apply Kd.N_drew)); exact HO222.out) gb224 (Nat.le_of_eq hg.symm)) hb); have n5_ := Aside0.mk (blk_below (g := gb212) (o := .cells #[.slice Ao21 y203.length co21, .slice Ao20 y209.length co20] 25 (0, 0)) (by (with_reducible repeat (first | refine blk_drewN ?_ _ | refine blk_drew ?_ | refine blk_alloc ?_ _)); exact BK212.out) hb); have n6_ := Aside0.mk (below_step (by repeat (first | (with_reducible first | exact HB.out | apply below_alloc | apply pw_below_drewN | apply below_drew1 | refine below_set ?_ GE212.out) | exact HB.out)) hb); have n7_ := Aside0.mk (hbox); have n8_ := Aside0.mk ((by rw [hg]; exact (below_size (by repeat (first | (with_reducible first | exact HB.out | apply below_alloc | apply pw_below_drewN | apply below_drew1 | refine below_set ?_ GE212.out) | exact HB.out))) : w.heap.size ≤ gb224)); have n9_ := Aside0.mk ((by rw [hg]; exact (below_size (by repeat (first | (with_reducible first | exact HB.out | apply below_alloc | apply pw_below_drewN | apply below_drew1 | refine below_set ?_ GE212.out) | exact HB.out))) : w.heap.size ≤ gb224)); have n10_ := Aside0.mk ((by rw [hg]; exact Nat.ne_of_lt (blk_lt (g := gb212) (o := .cells #[.slice Ao21 y203.length co21, .slice Ao20 y209.length co20] 25 (0, 0)) (by (with_reducible repeat (first | refine blk_drewN ?_ _ | refine blk_drew ?_ | refine blk_alloc ?_ _)); exact BK212.out)) : gb212 ≠ gb224)); have n11_ := Aside0.mk ((by rw [hg]; exact Nat.ne_of_gt (blk_lt (g := gb212) (o := .cells #[.slice Ao21 y203.length co21, .slice Ao20 y209.length co20] 25 (0, 0)) (by (with_reducible repeat (first | refine blk_drewN ?_ _ | refine blk_drew ?_ | refine blk_alloc ?_ _)); exact BK212.out)) : gb224 ≠ gb212)); clear HO205; clear HO211; clear HO215; clear HO219; clear HO222; clear BK212; clear HB; have HO205 := n0_; have HO211 := n1_; have HO215 := n2_; have HO219 := n3_; have HO222 := n4_; have BK212 := n5_; have HB := n6_; have BK224 := n7_; have GW224 := n8_; have GE224 := n9_; have NB212_224 := n10_; have NB224_212 := n11_; clear n0_ n1_ n2_ n3_ n4_ n5_ n6_ n7_ n8_ n9_ n10_ n11_; clear hb hbox hg; obtain ⟨Ao28, co28, eo28⟩ := Kd.R_slice HO219.out; subst eo28; have hnb29 := NB224_212.out; have hnc29 := NB212_224.out; have hcz30_0 : w27.cell? ⟨gb224, 0, none⟩ = some (.slice none 0 0) := (blk_cell BK224.out 0).trans rfl; have hcz30_1 : w27.cell? ⟨gb224, 1, none⟩ = some (.slice none 0 0) := (blk_cell BK224.out 1).trans rfl; have hfz30_0 := blk_frozen BK224.out 0; have hfz30_1 := blk_frozen BK224.out 1; obtain ⟨Ao31, co31, eo31⟩ := Kd.N_slice HO222.out; subst eo31; have hcz32_0 : w27.cell? ⟨gb212, 0, none⟩ = some (.slice Ao21 y203.length co21) := (blk_cell BK212.out 0).trans rfl; have hcz32_1 : w27.cell? ⟨gb212, 1, none⟩ = some (.slice Ao20 y209.length co20) := (blk_cell BK212.out 1).trans rfl; have hfz32_0 := blk_frozen BK212.out 0; have hfz32_1 := blk_frozen BK212.out 1) | ((with_reducible refine gate_callee (f := 12) rfl ?_); refine goesL_ (some 30) rfl rfl Tryd.func12 (by kernel_rfl) rfl #[.agg #[.slice Ao21 y203.length co21, .slice Ao20 y209.length co20], .agg #[.slice Ao28 t217.length co28, .slice Ao31 t220.length co31]] rfl (by (try simp only [List.map_toArray, List.map_cons, List.map_nil]); first | done | rfl | (simp only [List.length_drop, List.length_take]; rfl)) ?_; (with_reducible refine (tiltyardref14_Same.calls k _ _ y203 _ _ y209 _ _ t217 _ _ t220 true _ ?side1 ?side2 ?side3 ?side4 ?side5 ?side6 ?side7 ?side8 A3.out).mono ?_); (case side1 => refine (Kd.R_reads' (e := 48) (base := w.heap.size) (ok := fun k_ => (True ∧ some k_ ≠ (.slice Ao28 t217.length co28 : Value).ownBlock)) (n := y203.length) (c := co21) ?_).2.2; exact (by (with_reducible repeat (first | apply Kd.R_alloc | apply Kd.R_drewN | apply Kd.R_drew)); exact (Kd.R_mono (Kd.R_far (p := ⟨gb224, 1, none⟩) (Kd.R_far (p := ⟨gb224, 0, none⟩) (Kd.R_types HO205.out BK224.out (by decide)) (fun _ hk => hk.2) (.slice Ao28 t217.length co28)) (fun _ hk => hk.2) (.slice Ao31 t220.length co31)) (fun _ h_ => h_.1)))); (case side2 => exact (Kd.R_reads' HO205.out).2.1); (case side3 => refine (Kd.N_reads' (e := 54) (base := w.heap.size) (ok := fun k_ => (((((some k_ ≠ (.slice Ao21 y203.length co21 : Value).ownBlock ∧ k_ ≠ gb212) ∧ some k_ ≠ (.slice Ao25 t213.length co25 : Value).ownBlock) ∧ some k_ ≠ (.slice Ao28 t217.length co28 : Value).ownBlock) ∧ some k_ ≠ (.slice Ao31 t220.length co31 : Value).ownBlock) ∧ k_ ≠ gb224)) (n := y209.length) (c := co20) ?_).2.2; exact (by (with_reducible repeat (first | apply Kd.N_alloc | apply Kd.N_drewN | apply Kd.N_drew)); exact (Kd.N_mono (Kd.N_far (p := ⟨gb224, 1, none⟩) (Kd.N_far (p := ⟨gb224, 0, none⟩) (Kd.N_mono HO211.out (fun k_ hk => (⟨hk, hk.2⟩ : _ ∧ k_ ≠ gb224))) (fun _ hk => hk.2) (.slice Ao28 t217.length co28)) (fun _ hk => hk.2) (.slice Ao31 t220.length co31)) (fun _ h_ => h_.1)))); (case side4 => exact (Kd.N_reads' HO211.out).2.1); (case side5 => refine (Kd.R_reads' (e := 48) (base := w.heap.size) (ok := fun k_ => (True ∧ some k_ ≠ (.slice Ao21 y203.length co21 : Value).ownBlock)) (n := t217.length) (c := co28) ?_).2.2; exact (by (with_reducible repeat (first | apply Kd.R_alloc | apply Kd.R_drewN | apply Kd.R_drew)); exact (Kd.R_mono (Kd.R_far (p := ⟨gb224, 1, none⟩) (Kd.R_far (p := ⟨gb224, 0, none⟩) (Kd.R_types HO219.out BK224.out (by decide)) (fun _ hk => hk.2) (.slice Ao28 t217.length co28)) (fun _ hk => hk.2) (.slice Ao31 t220.length co31)) (fun _ h_ => h_.1)))); (case side6 => exact (Kd.R_reads' HO219.out).2.1); (case side7 => refine (Kd.N_reads' (e := 54) (base := w.heap.size) (ok := fun k_ => ((some k_ ≠ (.slice Ao28 t217.length co28 : Value).ownBlock ∧ (some k_ ≠ (.slice Ao21 y203.length co21 : Value).ownBlock ∧ (some k_ ≠ (.slice Ao20 y209.length co20 : Value).ownBlock ∧ (some k_ ≠ (.slice Ao25 t213.length co25 : Value).ownBlock ∧ k_ ≠ gb212)))) ∧ k_ ≠ gb224)) (n := t220.length) (c := co31) ?_).2.2; exact (by (with_reducible repeat (first | apply Kd.N_alloc | apply Kd.N_drewN | apply Kd.N_drew)); exact (Kd.N_mono (Kd.N_far (p := ⟨gb224, 1, none⟩) (Kd.N_far (p := ⟨gb224, 0, none⟩) (Kd.N_mono HO222.out (fun k_ hk => (⟨hk, hk.2⟩ : _ ∧ k_ ≠ gb224))) (fun _ hk => hk.2) (.slice Ao28 t217.length co28)) (fun _ hk => hk.2) (.slice Ao31 t220.length co31)) (fun _ h_ => h_.1)))); (case side8 => exact (Kd.N_reads' HO222.out).2.1); rintro e w33 ⟨rfl, hb⟩; refine ⟨_, rfl, ?_⟩; have n0_ := Aside0.mk (Kd.R_below (by (with_reducible repeat (first | apply Kd.R_alloc | apply Kd.R_drewN | apply Kd.R_drew)); exact (Kd.R_mono (Kd.R_far (p := ⟨gb224, 1, none⟩) (Kd.R_far (p := ⟨gb224, 0, none⟩) (Kd.R_types HO205.out BK224.out (by decide)) (fun _ hk => hk.2) (.slice Ao28 t217.length co28)) (fun _ hk => hk.2) (.slice Ao31 t220.length co31)) (fun _ h_ => h_.1))) hb); have n1_ := Aside0.mk (Kd.N_below (by (with_reducible repeat (first | apply Kd.N_alloc | apply Kd.N_drewN | apply Kd.N_drew)); exact (Kd.N_mono (Kd.N_far (p := ⟨gb224, 1, none⟩) (Kd.N_far (p := ⟨gb224, 0, none⟩) (Kd.N_mono HO211.out (fun k_ hk => (⟨hk, hk.2⟩ : _ ∧ k_ ≠ gb224))) (fun _ hk => hk.2) (.slice Ao28 t217.length co28)) (fun _ hk => hk.2) (.slice Ao31 t220.length co31)) (fun _ h_ => h_.1))) hb); have n2_ := Aside0.mk (Kd.R_below (by (with_reducible repeat (first | apply Kd.R_alloc | apply Kd.R_drewN | apply Kd.R_drew)); exact (Kd.R_mono (Kd.R_far (p := ⟨gb224, 1, none⟩) (Kd.R_far (p := ⟨gb224, 0, none⟩) (Kd.R_types HO215.out BK224.out (by decide)) (fun _ hk => hk.2) (.slice Ao28 t217.length co28)) (fun _ hk => hk.2) (.slice Ao31 t220.length co31)) (fun _ h_ => h_.1))) hb); have n3_ := Aside0.mk (Kd.R_below (by (with_reducible repeat (first | apply Kd.R_alloc | apply Kd.R_drewN | apply Kd.R_drew)); exact (Kd.R_mono (Kd.R_far (p := ⟨gb224, 1, none⟩) (Kd.R_far (p := ⟨gb224, 0, none⟩) (Kd.R_types HO219.out BK224.out (by decide)) (fun _ hk => hk.2) (.slice Ao28 t217.length co28)) (fun _ hk => hk.2) (.slice Ao31 t220.length co31)) (fun _ h_ => h_.1))) hb); have n4_ := Aside0.mk (Kd.N_below (by (with_reducible repeat (first | apply Kd.N_alloc | apply Kd.N_drewN | apply Kd.N_drew)); exact (Kd.N_mono (Kd.N_far (p := ⟨gb224, 1, none⟩) (Kd.N_far (p := ⟨gb224, 0, none⟩) (Kd.N_mono HO222.out (fun k_ hk => (⟨hk, hk.2⟩ : _ ∧ k_ ≠ gb224))) (fun _ hk => hk.2) (.slice Ao28 t217.length co28)) (fun _ hk => hk.2) (.slice Ao31 t220.length co31)) (fun _ h_ => h_.1))) hb); have n5_ := Aside0.mk (blk_below (g := gb212) (o := .cells #[.slice Ao21 y203.length co21, .slice Ao20 y209.length co20] 25 (0, 0)) (by (with_reducible repeat (first | refine blk_drewN ?_ _ | refine blk_drew ?_ | refine blk_alloc ?_ _)); refine blk_far ?_ NB212_224.out _; (with_reducible repeat (first | refine blk_drewN ?_ _ | refine blk_drew ?_ | refine blk_alloc ?_ _)); refine blk_far ?_ NB212_224.out _; (with_reducible repeat (first | refine blk_drewN ?_ _ | refine blk_drew ?_ | refine blk_alloc ?_ _)); exact BK212.out) hb); have n6_ := Aside0.mk (blk_below (g := gb224) (o := .cells #[.slice Ao28 t217.length co28, .slice Ao31 t220.length co31] 25 (0, 0)) (by (with_reducible repeat (first | refine blk_drewN ?_ _ | refine blk_drew ?_ | refine blk_alloc ?_ _)); refine blk_put (cs := #[.slice Ao28 t217.length co28, .slice none 0 0]) ?_ 1 _ rfl; (with_reducible repeat (first | refine blk_drewN ?_ _ | refine blk_drew ?_ | refine blk_alloc ?_ _)); refine blk_put (cs := #[.slice none 0 0, .slice none 0 0]) ?_ 0 _ rfl; (with_reducible repeat (first | refine blk_drewN ?_ _ | refine blk_drew ?_ | refine blk_alloc ?_ _)); exact BK224.out) hb); have n7_ := Aside0.mk (below_step (by repeat (first | (with_reducible first | exact HB.out | apply below_alloc | apply pw_below_drewN | apply below_drew1 | refine below_set ?_ GE212.out | refine below_set ?_ GE224.out) | exact HB.out)) hb); clear HO205; clear HO211; clear HO215; clear HO219; clear HO222; clear BK212; clear BK224; clear HB; have HO205 := n0_; have HO211 := n1_; have HO215 := n2_; have HO219 := n3_; have HO222 := n4_; have BK212 := n5_; have BK224 := n6_; have HB := n7_; clear n0_ n1_ n2_ n3_ n4_ n5_ n6_ n7_; (try clear hb); (try clear hb2); (try clear hk); (try clear hi)) | ((with_reducible refine gate_callee (f := 21) rfl ?_); refine goesL_ (some 33) rfl rfl Tryd.func21 (by kernel_rfl) rfl #[.slice Ao25 t213.length co25] rfl (by (try simp only [List.map_toArray, List.map_cons, List.map_nil]); first | done | rfl | (simp only [List.length_drop, List.length_take]; rfl)) ?_; (with_reducible refine (wire_Open.calls _ _ t213 t226 true _ ?side1 ?side2 A4.out (HWX.out.below (by repeat (first | (with_reducible first | exact HB.out | apply below_alloc | apply pw_below_drewN | apply below_drew1 | refine below_set ?_ GE212.out | refine below_set ?_ GE224.out) | exact HB.out)))).mono ?_); (case side1 => repeat (first | exact (Kd.R_reads' HO215.out).2.2 | (with_reducible refine Kd.C_alloc ?_ _) | (with_reducible refine Kd.C_drewN ?_ _) | (with_reducible refine Kd.C_drew ?_))); (case side2 => exact (Kd.R_reads' HO215.out).2.1); rintro e w34 ⟨v228, rfl, ho0, hb⟩; refine ⟨_, rfl, ?_⟩; have n0_ := Aside0.mk (Kd.R_below (by (with_reducible repeat (first | apply Kd.R_alloc | apply Kd.R_drewN | apply Kd.R_drew)); exact HO205.out) hb); have n1_ := Aside0.mk (Kd.N_elder' (by (with_reducible repeat (first | apply Kd.N_alloc | apply Kd.N_drewN | apply Kd.N_drew)); exact HO211.out) (Kd.R_base ho0) hb); have n2_ := Aside0.mk (Kd.R_elder' (by (with_reducible repeat (first | apply Kd.R_alloc | apply Kd.R_drewN | apply Kd.R_drew)); exact HO215.out) (Kd.R_base ho0) hb); have n3_ := Aside0.mk (Kd.R_below (by (with_reducible repeat (first | apply Kd.R_alloc | apply Kd.R_drewN | apply Kd.R_drew)); exact HO219.out) hb); have n4_ := Aside0.mk (Kd.N_elder' (by (with_reducible repeat (first | apply Kd.N_alloc | apply Kd.N_drewN | apply Kd.N_drew)); exact HO222.out) (Kd.R_base ho0) hb); have n5_ := Aside0.mk (Kd.R_lower (Kd.R_new' ho0 (Kd.R_lt (by (with_reducible repeat (first | apply Kd.R_alloc | apply Kd.R_drewN | apply Kd.R_drew)); exact HO215.out))) (below_size (by repeat (first | (with_reducible first | exact HB.out | apply below_alloc | apply pw_below_drewN | apply below_drew1 | refine below_set ?_ GE212.out | refine below_set ?_ GE224.out) | exact HB.out)))); have n6_ := Aside0.mk (blk_below (g := gb212) (o := .cells #[.slice Ao21 y203.length co21, .slice Ao20 y209.length co20] 25 (0, 0)) (by (with_reducible repeat (first | refine blk_drewN ?_ _ | refine blk_drew ?_ | refine blk_alloc ?_ _)); exact BK212.out) hb); have n7_ := Aside0.mk (blk_below (g := gb224) (o := .cells #[.slice Ao28 t217.length co28, .slice Ao31 t220.length co31] 25 (0, 0)) (by (with_reducible repeat (first | refine blk_drewN ?_ _ | refine blk_drew ?_ | refine blk_alloc ?_ _)); exact BK224.out) hb); have n8_ := Aside0.mk (below_step (by repeat (first | (with_reducible first | exact HB.out | apply below_alloc | apply pw_below_drewN | apply below_drew1 | refine below_set ?_ GE212.out | refine below_set ?_ GE224.out) | exact HB.out)) hb); clear HO205; clear HO211; clear HO215; clear HO219; clear HO222; clear BK212; clear BK224; clear HB; have HO205 := n0_; have HO211 := n1_; have HO215 := n2_; have HO219 := n3_; have HO222 := n4_; have HO229 := n5_; have BK212 := n6_; have BK224 := n7_; have HB := n8_; clear n0_ n1_ n2_ n3_ n4_ n5_ n6_ n7_ n8_; (try clear hb); (try clear hb2); (try clear hk); (try clear hi); (try clear ho0)) | ((with_reducible refine gate_callee (f := 17) rfl ?_); have HO232 := Aside0.mk (Kd.R_nil (Kd.int .u8) 5 w34 w.heap.size (fun _ => True)); refine goesL_ (some 39) rfl rfl Tryd.func17 (by kernel_rfl) rfl #[.slice (some ⟨w34.heap.size, 0, none⟩) 4 4] rfl (by (try simp only [List.map_toArray, List.map_cons, List.map_nil]); first | done | rfl | (simp only [List.length_drop, List.length_take]; rfl)) ?_; (refine (image_Decode.calls (some ⟨w34.heap.size, 0, none⟩) 4 [84, 73, 76, 84] t233 t236 t239 (w34.alloc (.cells #[.int .u8 84, .int .u8 73, .int .u8 76, .int .u8 84] 5 (4, 5))) ?side1 ?side2 (by have q_ := A5.out; rw [Ny230.out] at q_; exact q_) (HWX.out.below (by repeat (first | (with_reducible first | exact HB.out | apply below_alloc | apply pw_below_drewN | apply below_drew1 | refine below_set ?_ GE212.out | refine below_set ?_ GE224.out) | exact HB.out)))).mono ?_); (case side1 => exact (C_preM w34 [84, 73, 76, 84] [] 5 (4, 5) (by simp) _ rfl)); (case side2 => decide); rintro e w38 ⟨v234, v237, rfl, ho0, ho1, hb⟩; refine ⟨_, rfl, ?_⟩; have n0_ := Aside0.mk (Kd.R_elder' (by (with_reducible repeat (first | apply Kd.R_alloc | apply Kd.R_drewN | apply Kd.R_drew)); exact HO205.out) (Kd.R_base ho0) hb); have n1_ := Aside0.mk (Kd.N_mono (Kd.N_told (Kd.N_told (Kd.N_old (by (with_reducible repeat (first | apply Kd.N_alloc | apply Kd.N_drewN | apply Kd.N_drew)); exact HO211.out) hb) (Kd.R_base ho0)) (Kd.N_base (Kd.S_N ho1))) (fun _ h_ => h_.1)); have n2_ := Aside0.mk (Kd.R_below (by (with_reducible repeat (first | apply Kd.R_alloc | apply Kd.R_drewN | apply Kd.R_drew)); exact HO215.out) hb); have n3_ := Aside0.mk (Kd.R_elder' (by (with_reducible repeat (first | apply Kd.R_alloc | apply Kd.R_drewN | apply Kd.R_drew)); exact HO219.out) (Kd.R_base ho0) hb); have n4_ := Aside0.mk (Kd.N_mono (Kd.N_told (Kd.N_told (Kd.N_old (by (with_reducible repeat (first | apply Kd.N_alloc | apply Kd.N_drewN | apply Kd.N_drew)); exact HO222.out) hb) (Kd.R_base ho0)) (Kd.N_base (Kd.S_N ho1))) (fun _ h_ => h_.1)); have n5_ := Aside0.mk (Kd.R_below (by (with_reducible repeat (first | apply Kd.R_alloc | apply Kd.R_drewN | apply Kd.R_drew)); exact HO229.out) hb); have n6_ := Aside0.mk (Kd.R_below (by (with_reducible repeat (first | apply Kd.R_alloc | apply Kd.R_drewN | apply Kd.R_drew)); exact HO232.out) hb); have n7_ := Aside0.mk (Kd.R_lower (Kd.R_new' (Kd.R_new' ho0 (Kd.R_lt (by (with_reducible repeat (first | apply Kd.R_alloc | apply Kd.R_drewN | apply Kd.R_drew)); exact HO205.out))) (Kd.R_lt (by (with_reducible repeat (first | apply Kd.R_alloc | apply Kd.R_drewN | apply Kd.R_drew)); exact HO219.out))) (below_size (by repeat (first | (with_reducible first | exact HB.out | apply below_alloc | apply pw_below_drewN | apply below_drew1 | refine below_set ?_ GE212.out | refine below_set ?_ GE224.out) | exact HB.out)))); have n8_ := Aside0.mk (Kd.N_lower (Kd.N_mono (ok' := fun k_ => some k_ ≠ (v234 : Value).ownBlock ∧ some k_ ≠ (.slice Ao21 y203.length co21 : Value).ownBlock ∧ some k_ ≠ (.slice Ao20 y209.length co20 : Value).ownBlock ∧ some k_ ≠ (.slice Ao25 t213.length co25 : Value).ownBlock ∧ some k_ ≠ (.slice Ao28 t217.length co28 : Value).ownBlock ∧ some k_ ≠ (.slice Ao31 t220.length co31 : Value).ownBlock ∧ some k_ ≠ (v228 : Value).ownBlock ∧ some k_ ≠ (.slice none 0 0 : Value).ownBlock ∧ k_ ≠ gb212 ∧ k_ ≠ gb224) (Kd.S_N (Kd.S_bound (Kd.S_apart' ho1 (Kd.R_typed ho0) (by decide)))) (fun k_ hk_ => ⟨hk_.1.2, (Kd.fresh' (Kd.R_lt (by (with_reducible repeat (first | apply Kd.R_alloc | apply Kd.R_drewN | apply Kd.R_drew)); exact HO205.out)) k_ hk_.2.1), (Kd.fresh' (Kd.N_lt (by (with_reducible repeat (first | apply Kd.N_alloc | apply Kd.N_drewN | apply Kd.N_drew)); exact HO211.out)) k_ hk_.2.1), (Kd.fresh' (Kd.R_lt (by (with_reducible repeat (first | apply Kd.R_alloc | apply Kd.R_drewN | apply Kd.R_drew)); exact HO215.out)) k_ hk_.2.1), (Kd.fresh' (Kd.R_lt (by (with_reducible repeat (first | apply Kd.R_alloc | apply Kd.R_drewN | apply Kd.R_drew)); exact HO219.out)) k_ hk_.2.1), (Kd.fresh' (Kd.N_lt (by (with_reducible repeat (first | apply Kd.N_alloc | apply Kd.N_drewN | apply Kd.N_drew)); exact HO222.out)) k_ hk_.2.1), (Kd.fresh' (Kd.R_lt (by (with_reducible repeat (first | apply Kd.R_alloc | apply Kd.R_drewN | apply Kd.R_drew)); exact HO229.out)) k_ hk_.2.1), (Kd.fresh' (Kd.R_lt (by (with_reducible repeat (first | apply Kd.R_alloc | apply Kd.R_drewN | apply Kd.R_drew)); exact HO232.out)) k_ hk_.2.1), (Kd.freshB (g := gb212) (o := .cells #[.slice Ao21 y203.length co21, .slice Ao20 y209.length co20] 25 (0, 0)) (by (with_reducible repeat (first | refine blk_drewN ?_ _ | refine blk_drew ?_ | refine blk_alloc ?_ _)); exact BK212.out) k_ hk_.2.1), (Kd.freshB (g := gb224) (o := .cells #[.slice Ao28 t217.length co28, .slice Ao31 t220.length co31] 25 (0, 0)) (by (with_reducible repeat (first | refine blk_drewN ?_ _ | refine blk_drew ?_ | refine blk_alloc ?_ _)); exact BK224.out) k_ hk_.2.1)⟩)) (below_size (by repeat (first | (with_reducible first | exact HB.out | apply below_alloc | apply pw_below_drewN | apply below_drew1 | refine below_set ?_ GE212.out | refine below_set ?_ GE224.out) | exact HB.out)))); have n9_ := Aside0.mk (blk_below (g := gb212) (o := .cells #[.slice Ao21 y203.length co21, .slice Ao20 y209.length co20] 25 (0, 0)) (by (with_reducible repeat (first | refine blk_drewN ?_ _ | refine blk_drew ?_ | refine blk_alloc ?_ _)); exact BK212.out) hb); have n10_ := Aside0.mk (blk_below (g := gb224) (o := .cells #[.slice Ao28 t217.length co28, .slice Ao31 t220.length co31] 25 (0, 0)) (by (with_reducible repeat (first | refine blk_drewN ?_ _ | refine blk_drew ?_ | refine blk_alloc ?_ _)); exact BK224.out) hb); have n11_ := Aside0.mk (below_step (by repeat (first | (with_reducible first | exact HB.out | apply below_alloc | apply pw_below_drewN | apply below_drew1 | refine below_set ?_ GE212.out | refine below_set ?_ GE224.out) | exact HB.out)) hb); clear HO205; clear HO211; clear HO215; clear HO219; clear HO222; clear HO229; clear HO232; clear BK212; clear BK224; clear HB; have HO205 := n0_; have HO211 := n1_; have HO215 := n2_; have HO219 := n3_; have HO222 := n4_; have HO229 := n5_; have HO232 := n6_; have HO235 := n7_; have HO238 := n8_; have BK212 := n9_; have BK224 := n10_; have HB := n11_; clear n0_ n1_ n2_ n3_ n4_ n5_ n6_ n7_ n8_ n9_ n10_ n11_; (try clear hb); (try clear hb2); (try clear hk); (try clear hi); (try clear ho0); (try clear ho1)) | ((with_reducible refine gate_dst (N := 9) rfl ?_); (try (refine gate_guard (by rfl) ?_; dsimp only)); refine box_event ?hg (N := 9) ?hd (cs := #[.slice none 0 0, .slice none 0 0]) (t := 25) ?hr ?_; (case hd => rfl); (case hg => rfl); (case hr => first | (go_simp; done) | (go_simp; rfl)); intro gb240 hg w39 hbox hb; have n0_ := Aside0.mk (Kd.R_below (by (with_reducible repeat (first | apply Kd.R_alloc | apply Kd.R_drewN | apply Kd.R_drew)); exact HO205.out) hb); have n1_ := Aside0.mk (Kd.N_below (Kd.N_elderB (by (with_reducible repeat (first | apply Kd.N_alloc | apply Kd.N_drewN | apply Kd.N_drew)); exact HO211.out) gb240 (Nat.le_of_eq hg.symm)) hb); have n2_ := Aside0.mk (Kd.R_below (by (with_reducible repeat (first | apply Kd.R_alloc | apply Kd.R_drewN | apply Kd.R_drew)); exact HO215.out) hb); have n3_ := Aside0.mk (Kd.R_below (by (with_reducible repeat (first | apply Kd.R_alloc | apply Kd.R_drewN | apply Kd.R_drew)); exact HO219.out) hb); have n4_ := Aside0.mk (Kd.N_below (Kd.N_elderB (by (with_reducible repeat (first | apply Kd.N_alloc | apply Kd.N_drewN | apply Kd.N_drew)); exact HO222.out) gb240 (Nat.le_of_eq hg.symm)) hb); have n5_ := Aside0.mk (Kd.R_below (by (with_reducible repeat (first | apply Kd.R_alloc | apply Kd.R_drewN | apply Kd.R_drew)); exact HO229.out) hb); have n6_ := Aside0.mk (Kd.R_below (by (with_reducible repeat (first | apply Kd.R_alloc | apply Kd.R_drewN | apply Kd.R_drew)); exact HO232.out) hb); have n7_ := Aside0.mk (Kd.R_below (by (with_reducible repeat (first | apply Kd.R_alloc | apply Kd.R_drewN | apply Kd.R_drew)); exact HO235.out) hb); have n8_ := Aside0.mk (Kd.N_below (Kd.N_elderB (by (with_reducible repeat (first | apply Kd.N_alloc | apply Kd.N_drewN | apply Kd.N_drew)); exact HO238.out) gb240 (Nat.le_of_eq hg.symm)) hb); have n9_ := Aside0.mk (blk_below (g := gb212) (o := .cells #[.slice Ao21 y203.length co21, .slice Ao20 y209.length co20] 25 (0, 0)) (by (with_reducible repeat (first | refine blk_drewN ?_ _ | refine blk_drew ?_ | refine blk_alloc ?_ _)); exact BK212.out) hb); have n10_ := Aside0.mk (blk_below (g := gb224) (o := .cells #[.slice Ao28 t217.length co28, .slice Ao31 t220.length co31] 25 (0, 0)) (by (with_reducible repeat (first | refine blk_drewN ?_ _ | refine blk_drew ?_ | refine blk_alloc ?_ _)); exact BK224.out) hb); have n11_ := Aside0.mk (below_step (by repeat (first | (with_reducible first | exact HB.out | apply below_alloc | apply pw_below_drewN | apply below_drew1 | refine below_set ?_ GE212.out | refine below_set ?_ GE224.out) | exact HB.out)) hb); have n12_ := Aside0.mk (hbox); have n13_ := Aside0.mk ((by rw [hg]; exact (below_size (by repeat (first | (with_reducible first | exact HB.out | apply below_alloc | apply pw_below_drewN | apply below_drew1 | refine below_set ?_ GE212.out | refine below_set ?_ GE224.out) | exact HB.out))) : w.heap.size ≤ gb240)); have n14_ := Aside0.mk ((by rw [hg]; exact (below_size (by repeat (first | (with_reducible first | exact HB.out | apply below_alloc | apply pw_below_drewN | apply below_drew1 | refine below_set ?_ GE212.out | refine below_set ?_ GE224.out) | exact HB.out))) : w.heap.size ≤ gb240)); have n15_ := Aside0.mk ((by rw [hg]; exact Nat.ne_of_lt (blk_lt (g := gb212) (o := .cells #[.slice Ao21 y203.length co21, .slice Ao20 y209.length co20] 25 (0, 0)) (by (with_reducible repeat (first | refine blk_drewN ?_ _ | refine blk_drew ?_ | refine blk_alloc ?_ _)); exact BK212.out)) : gb212 ≠ gb240)); have n16_ := Aside0.mk ((by rw [hg]; exact Nat.ne_of_gt (blk_lt (g := gb212) (o := .cells #[.slice Ao21 y203.length co21, .slice Ao20 y209.length co20] 25 (0, 0)) (by (with_reducible repeat (first | refine blk_drewN ?_ _ | refine blk_drew ?_ | refine blk_alloc ?_ _)); exact BK212.out)) : gb240 ≠ gb212)); have n17_ := Aside0.mk ((by rw [hg]; exact Nat.ne_of_lt (blk_lt (g := gb224) (o := .cells #[.slice Ao28 t217.length co28, .slice Ao31 t220.length co31] 25 (0, 0)) (by (with_reducible repeat (first | refine blk_drewN ?_ _ | refine blk_drew ?_ | refine blk_alloc ?_ _)); exact BK224.out)) : gb224 ≠ gb240)); have n18_ := Aside0.mk ((by rw [hg]; exact Nat.ne_of_gt (blk_lt (g := gb224) (o := .cells #[.slice Ao28 t217.length co28, .slice Ao31 t220.length co31] 25 (0, 0)) (by (with_reducible repeat (first | refine blk_drewN ?_ _ | refine blk_drew ?_ | refine blk_alloc ?_ _)); exact BK224.out)) : gb240 ≠ gb224)); clear HO205; clear HO211; clear HO215; clear HO219; clear HO222; clear HO229; clear HO232; clear HO235; clear HO238; clear BK212; clear BK224; clear HB; have HO205 := n0_; have HO211 := n1_; have HO215 := n2_; have HO219 := n3_; have HO222 := n4_; have HO229 := n5_; have HO232 := n6_; have HO235 := n7_; have HO238 := n8_; have BK212 := n9_; have BK224 := n10_; have HB := n11_; have BK240 := n12_; have GW240 := n13_; have GE240 := n14_; have NB212_240 := n15_; have NB240_212 := n16_; have NB224_240 := n17_; have NB240_224 := n18_; clear n0_ n1_ n2_ n3_ n4_ n5_ n6_ n7_ n8_ n9_ n10_ n11_ n12_ n13_ n14_ n15_ n16_ n17_ n18_; clear hb hbox hg; obtain ⟨Ao40, co40, eo40⟩ := Kd.R_slice HO235.out; subst eo40; have hnb41 := NB240_212.out; have hnc41 := NB212_240.out; have hnb42 := NB240_224.out; have hnc42 := NB224_240.out; have hcz43_0 : w39.cell? ⟨gb240, 0, none⟩ = some (.slice none 0 0) := (blk_cell BK240.out 0).trans rfl; have hcz43_1 : w39.cell? ⟨gb240, 1, none⟩ = some (.slice none 0 0) := (blk_cell BK240.out 1).trans rfl; have hfz43_0 := blk_frozen BK240.out 0; have hfz43_1 := blk_frozen BK240.out 1; obtain ⟨Ao44, co44, eo44⟩ := Kd.N_slice HO238.out; subst eo44; have hcv45 := own_string (P := Tryd.prog) Tryd.underlying30 Tryd.underlying5 Tryd.underlying9 (Kd.own_of_R HO229.out); have hcvB := fun (x_ y_ : Value) => own_string (P := Tryd.prog) Tryd.underlying30 Tryd.underlying5 Tryd.underlying9 (own_setCell (p := ⟨gb240, 1, none⟩) (own_setCell (p := ⟨gb240, 0, none⟩) (Kd.own_of_R HO229.out) (Kd.R_ne HO229.out BK240.out (by decide)) x_) (Kd.R_ne HO229.out BK240.out (by decide)) y_)) | ((with_reducible refine gate_dst (N := 65) rfl ?_); (try (refine gate_guard (by rfl) ?_; dsimp only)); refine Kd.N_lit k54 _ 54 ?hg (N' := 65) ?hd (xs := ([(⟨(⟨#[]⟩ : ByteArray), ([] : List Int), 0, ([] : List Int), ([] : List (S50))⟩ : S54)] : List (S54))) (inner := [.string (⟨#[]⟩ : ByteArray), .slice none 0 0, .int .i64 0, .slice none 0 0, .slice none 0 0]) (ok := (fun k_ => some k_ ≠ (.slice Ao21 y203.length co21 : Value).ownBlock ∧ some k_ ≠ (.slice Ao20 y209.length co20 : Value).ownBlock ∧ some k_ ≠ (.slice Ao25 t213.length co25 : Value).ownBlock ∧ some k_ ≠ (.slice Ao28 t217.length co28 : Value).ownBlock ∧ some k_ ≠ (.slice Ao31 t220.length co31 : Value).ownBlock ∧ some k_ ≠ (v228 : Value).ownBlock ∧ some k_ ≠ (.slice none 0 0 : Value).ownBlock ∧ some k_ ≠ (.slice Ao40 t233.length co40 : Value).ownBlock ∧ some k_ ≠ (.slice Ao44 t236.length co44 : Value).ownBlock ∧ k_ ≠ gb212 ∧ k_ ≠ gb224 ∧ k_ ≠ gb240)) (okp := (fun k_ => some k_ ≠ (.slice Ao21 y203.length co21 : Value).ownBlock ∧ some k_ ≠ (.slice Ao20 y209.length co20 : Value).ownBlock ∧ some k_ ≠ (.slice Ao25 t213.length co25 : Value).ownBlock ∧ some k_ ≠ (.slice Ao28 t217.length co28 : Value).ownBlock ∧ some k_ ≠ (.slice Ao31 t220.length co31 : Value).ownBlock ∧ some k_ ≠ (v228 : Value).ownBlock ∧ some k_ ≠ (.slice none 0 0 : Value).ownBlock ∧ some k_ ≠ (.slice Ao40 t233.length co40 : Value).ownBlock ∧ some k_ ≠ (.slice Ao44 t236.length co44 : Value).ownBlock ∧ k_ ≠ gb212 ∧ k_ ≠ gb224 ∧ k_ ≠ gb240)) ?hr ?hp (fun _ hk => hk) ((show ∀ k_, ((w39.setCell ⟨gb240, 0, none⟩ (.slice Ao40 t233.length co40)).setCell ⟨gb240, 1, none⟩ (.slice Ao44 t236.length co44)).heap.size ≤ k_ → (fun k_ => some k_ ≠ (.slice Ao21 y203.length co21 : Value).ownBlock ∧ some k_ ≠ (.slice Ao20 y209.length co20 : Value).ownBlock ∧ some k_ ≠ (.slice Ao25 t213.length co25 : Value).ownBlock ∧ some k_ ≠ (.slice Ao28 t217.length co28 : Value).ownBlock ∧ some k_ ≠ (.slice Ao31 t220.length co31 : Value).ownBlock ∧ some k_ ≠ (v228 : Value).ownBlock ∧ some k_ ≠ (.slice none 0 0 : Value).ownBlock ∧ some k_ ≠ (.slice Ao40 t233.length co40 : Value).ownBlock ∧ some k_ ≠ (.slice Ao44 t236.length co44 : Value).ownBlock ∧ k_ ≠ gb212 ∧ k_ ≠ gb224 ∧ k_ ≠ gb240) k_ from fun k_ hk => ⟨Kd.fresh' (Kd.R_lt (by (with_reducible repeat (first | apply Kd.R_alloc | apply Kd.R_drewN | apply Kd.R_drew)); exact (Kd.R_mono (Kd.R_far (p := ⟨gb240, 1, none⟩) (Kd.R_far (p := ⟨gb240, 0, none⟩) (Kd.R_types HO205.out BK240.out (by decide)) (fun _ hk => hk.2) (.slice Ao40 t233.length co40)) (fun _ hk => hk.2) (.slice Ao44 t236.length co44)) (fun _ h_ => h_.1)))) k_ hk, Kd.fresh' (Kd.N_lt (by (with_reducible repeat (first | apply Kd.N_alloc | apply Kd.N_drewN | apply Kd.N_drew)); exact (Kd.N_mono (Kd.N_far (p := ⟨gb240, 1, none⟩) (Kd.N_far (p := ⟨gb240, 0, none⟩) (Kd.N_mono HO211.out (fun k_ hk => (⟨hk, hk.2⟩ : _ ∧ k_ ≠ gb240))) (fun _ hk => hk.2) (.slice Ao40 t233.length co40)) (fun _ hk => hk.2) (.slice Ao44 t236.length co44)) (fun _ h_ => h_.1)))) k_ hk, Kd.fresh' (Kd.R_lt (by (with_reducible repeat (first | apply Kd.R_alloc | apply Kd.R_drewN | apply Kd.R_drew)); exact (Kd.R_mono (Kd.R_far (p := ⟨gb240, 1, none⟩) (Kd.R_far (p := ⟨gb240, 0, none⟩) (Kd.R_types HO215.out BK240.out (by decide)) (fun _ hk => hk.2) (.slice Ao40 t233.length co40)) (fun _ hk => hk.2) (.slice Ao44 t236.length co44)) (fun _ h_ => h_.1)))) k_ hk, Kd.fresh' (Kd.R_lt (by (with_reducible repeat (first | apply Kd.R_alloc | apply Kd.R_drewN | apply Kd.R_drew)); exact (Kd.R_mono (Kd.R_far (p := ⟨gb240, 1, none⟩) (Kd.R_far (p := ⟨gb240, 0, none⟩) (Kd.R_types HO219.out BK240.out (by decide)) (fun _ hk => hk.2) (.slice Ao40 t233.length co40)) (fun _ hk => hk.2) (.slice Ao44 t236.length co44)) (fun _ h_ => h_.1)))) k_ hk, Kd.fresh' (Kd.N_lt (by (with_reducible repeat (first | apply Kd.N_alloc | apply Kd.N_drewN | apply Kd.N_drew)); exact (Kd.N_mono (Kd.N_far (p := ⟨gb240, 1, none⟩) (Kd.N_far (p := ⟨gb240, 0, none⟩) (Kd.N_mono HO222.out (fun k_ hk => (⟨hk, hk.2⟩ : _ ∧ k_ ≠ gb240))) (fun _ hk => hk.2) (.slice Ao40 t233.length co40)) (fun _ hk => hk.2) (.slice Ao44 t236.length co44)) (fun _ h_ => h_.1)))) k_ hk, Kd.fresh' (Kd.R_lt (by (with_reducible repeat (first | apply Kd.R_alloc | apply Kd.R_drewN | apply Kd.R_drew)); exact (Kd.R_mono (Kd.R_far (p := ⟨gb240, 1, none⟩) (Kd.R_far (p := ⟨gb240, 0, none⟩) (Kd.R_types HO229.out BK240.out (by decide)) (fun _ hk => hk.2) (.slice Ao40 t233.length co40)) (fun _ hk => hk.2) (.slice Ao44 t236.length co44)) (fun _ h_ => h_.1)))) k_ hk, Kd.fresh' (Kd.R_lt (by (with_reducible repeat (first | apply Kd.R_alloc | apply Kd.R_drewN | apply Kd.R_drew)); exact (Kd.R_mono (Kd.R_far (p := ⟨gb240, 1, none⟩) (Kd.R_far (p := ⟨gb240, 0, none⟩) (Kd.R_types HO232.out BK240.out (by decide)) (fun _ hk => hk.2) (.slice Ao40 t233.length co40)) (fun _ hk => hk.2) (.slice Ao44 t236.length co44)) (fun _ h_ => h_.1)))) k_ hk, Kd.fresh' (Kd.R_lt (by (with_reducible repeat (first | apply Kd.R_alloc | apply Kd.R_drewN | apply Kd.R_drew)); exact (Kd.R_mono (Kd.R_far (p := ⟨gb240, 1, none⟩) (Kd.R_far (p := ⟨gb240, 0, none⟩) (Kd.R_types HO235.out BK240.out (by decide)) (fun _ hk => hk.2) (.slice Ao40 t233.length co40)) (fun _ hk => hk.2) (.slice Ao44 t236.length co44)) (fun _ h_ => h_.1)))) k_ hk, Kd.fresh' (Kd.N_lt (by (with_reducible repeat (first | apply Kd.N_alloc | apply Kd.N_drewN | apply Kd.N_drew)); exact (Kd.N_mono (Kd.N_far (p := ⟨gb240, 1, none⟩) (Kd.N_far (p := ⟨gb240, 0, none⟩) (Kd.N_mono HO238.out (fun k_ hk => (⟨hk, hk.2⟩ : _ ∧ k_ ≠ gb240))) (fun _ hk => hk.2) (.slice Ao40 t233.length co40)) (fun _ hk => hk.2) (.slice Ao44 t236.length co44)) (fun _ h_ => h_.1)))) k_ hk, Kd.freshB (g := gb212) (o := .cells #[.slice Ao21 y203.length co21, .slice Ao20 y209.length co20] 25 (0, 0)) (by (with_reducible repeat (first | refine blk_drewN ?_ _ | refine blk_drew ?_ | refine blk_alloc ?_ _)); refine blk_far ?_ NB212_240.out _; (with_reducible repeat (first | refine blk_drewN ?_ _ | refine blk_drew ?_ | refine blk_alloc ?_ _)); refine blk_far ?_ NB212_240.out _; (with_reducible repeat (first | refine blk_drewN ?_ _ | refine blk_drew ?_ | refine blk_alloc ?_ _)); exact BK212.out) k_ hk, Kd.freshB (g := gb224) (o := .cells #[.slice Ao28 t217.length co28, .slice Ao31 t220.length co31] 25 (0, 0)) (by (with_reducible repeat (first | refine blk_drewN ?_ _ | refine blk_drew ?_ | refine blk_alloc ?_ _)); refine blk_far ?_ NB224_240.out _; (with_reducible repeat (first | refine blk_drewN ?_ _ | refine blk_drew ?_ | refine blk_alloc ?_ _)); refine blk_far ?_ NB224_240.out _; (with_reducible repeat (first | refine blk_drewN ?_ _ | refine blk_drew ?_ | refine blk_alloc ?_ _)); exact BK224.out) k_ hk, Kd.freshB (g := gb240) (o := .cells #[.slice Ao40 t233.length co40, .slice Ao44 t236.length co44] 25 (0, 0)) (by (with_reducible repeat (first | refine blk_drewN ?_ _ | refine blk_drew ?_ | refine blk_alloc ?_ _)); refine blk_put (cs := #[.slice Ao40 t233.length co40, .slice none 0 0]) ?_ 1 _ rfl; (with_reducible repeat (first | refine blk_drewN ?_ _ | refine blk_drew ?_ | refine blk_alloc ?_ _)); refine blk_put (cs := #[.slice none 0 0, .slice none 0 0]) ?_ 0 _ rfl; (with_reducible repeat (first | refine blk_drewN ?_ _ | refine blk_drew ?_ | refine blk_alloc ?_ _)); exact BK240.out) k_ hk⟩) _ (Nat.le_refl _)) (Below.refl _ _) (Nat.le_refl _) (by simp) ?_; (case hd => rfl); (case hg => rfl); (case hr => first | (go_simp; done) | (go_simp; rfl)); (case hp => exact (Reps.c5 (show Kd.FK k54 _ _ (⟨(⟨#[]⟩ : ByteArray), ([] : List Int), 0, ([] : List Int), ([] : List (S50))⟩ : S54) [.string (⟨#[]⟩ : ByteArray), .slice none 0 0, .int .i64 0, .slice none 0 0, .slice none 0 0] from (k54_mkF _ _ (⟨(⟨#[]⟩ : ByteArray), ([] : List Int), 0, ([] : List Int), ([] : List (S50))⟩ : S54) (Nat.le_refl _) (Kd.F_nil _ _ _) (Nat.le_refl _) (Kd.F_nil _ _ _) (Nat.le_refl _) (Kd.F_nil _ _ _))) (Reps.none _ _))); intro v242 w46 ho47 hb hg_ hnew_; clear hg_ hnew_; (first | rw [← Ny241.out] at ho47 | (simp only [Int.reduceToNat] at ho47; rw [← Ny241.out] at ho47)); have n0_ := Aside0.mk (Kd.R_below (by (with_reducible repeat (first | apply Kd.R_alloc | apply Kd.R_drewN | apply Kd.R_drew)); exact (Kd.R_mono (Kd.R_far (p := ⟨gb240, 1, none⟩) (Kd.R_far (p := ⟨gb240, 0, none⟩) (Kd.R_types HO205.out BK240.out (by decide)) (fun _ hk => hk.2) (.slice Ao40 t233.length co40)) (fun _ hk => hk.2) (.slice Ao44 t236.length co44)) (fun _ h_ => h_.1))) hb); have n1_ := Aside0.mk (Kd.N_elder' (by (with_reducible repeat (first | apply Kd.N_alloc | apply Kd.N_drewN | apply Kd.N_drew)); exact (Kd.N_mono (Kd.N_far (p := ⟨gb240, 1, none⟩) (Kd.N_far (p := ⟨gb240, 0, none⟩) (Kd.N_mono HO211.out (fun k_ hk => (⟨hk, hk.2⟩ : _ ∧ k_ ≠ gb240))) (fun _ hk => hk.2) (.slice Ao40 t233.length co40)) (fun _ hk => hk.2) (.slice Ao44 t236.length co44)) (fun _ h_ => h_.1))) (Kd.N_base ho47) hb); have n2_ := Aside0.mk (Kd.R_below (by (with_reducible repeat (first | apply Kd.R_alloc | apply Kd.R_drewN | apply Kd.R_drew)); exact (Kd.R_mono (Kd.R_far (p := ⟨gb240, 1, none⟩) (Kd.R_far (p := ⟨gb240, 0, none⟩) (Kd.R_types HO215.out BK240.out (by decide)) (fun _ hk => hk.2) (.slice Ao40 t233.length co40)) (fun _ hk => hk.2) (.slice Ao44 t236.length co44)) (fun _ h_ => h_.1))) hb); have n3_ := Aside0.mk (Kd.R_below (by (with_reducible repeat (first | apply Kd.R_alloc | apply Kd.R_drewN | apply Kd.R_drew)); exact (Kd.R_mono (Kd.R_far (p := ⟨gb240, 1, none⟩) (Kd.R_far (p := ⟨gb240, 0, none⟩) (Kd.R_types HO219.out BK240.out (by decide)) (fun _ hk => hk.2) (.slice Ao40 t233.length co40)) (fun _ hk => hk.2) (.slice Ao44 t236.length co44)) (fun _ h_ => h_.1))) hb); have n4_ := Aside0.mk (Kd.N_elder' (by (with_reducible repeat (first | apply Kd.N_alloc | apply Kd.N_drewN | apply Kd.N_drew)); exact (Kd.N_mono (Kd.N_far (p := ⟨gb240, 1, none⟩) (Kd.N_far (p := ⟨gb240, 0, none⟩) (Kd.N_mono HO222.out (fun k_ hk => (⟨hk, hk.2⟩ : _ ∧ k_ ≠ gb240))) (fun _ hk => hk.2) (.slice Ao40 t233.length co40)) (fun _ hk => hk.2) (.slice Ao44 t236.length co44)) (fun _ h_ => h_.1))) (Kd.N_base ho47) hb); have n5_ := Aside0.mk (Kd.R_below (by (with_reducible repeat (first | apply Kd.R_alloc | apply Kd.R_drewN | apply Kd.R_drew)); exact (Kd.R_mono (Kd.R_far (p := ⟨gb240, 1, none⟩) (Kd.R_far (p := ⟨gb240, 0, none⟩) (Kd.R_types HO229.out BK240.out (by decide)) (fun _ hk => hk.2) (.slice Ao40 t233.length co40)) (fun _ hk => hk.2) (.slice Ao44 t236.length co44)) (fun _ h_ => h_.1))) hb); have n6_ := Aside0.mk (Kd.R_below (by (with_reducible repeat (first | apply Kd.R_alloc | apply Kd.R_drewN | apply Kd.R_drew)); exact (Kd.R_mono (Kd.R_far (p := ⟨gb240, 1, none⟩) (Kd.R_far (p := ⟨gb240, 0, none⟩) (Kd.R_types HO232.out BK240.out (by decide)) (fun _ hk => hk.2) (.slice Ao40 t233.length co40)) (fun _ hk => hk.2) (.slice Ao44 t236.length co44)) (fun _ h_ => h_.1))) hb); have n7_ := Aside0.mk (Kd.R_below (by (with_reducible repeat (first | apply Kd.R_alloc | apply Kd.R_drewN | apply Kd.R_drew)); exact (Kd.R_mono (Kd.R_far (p := ⟨gb240, 1, none⟩) (Kd.R_far (p := ⟨gb240, 0, none⟩) (Kd.R_types HO235.out BK240.out (by decide)) (fun _ hk => hk.2) (.slice Ao40 t233.length co40)) (fun _ hk => hk.2) (.slice Ao44 t236.length co44)) (fun _ h_ => h_.1))) hb); have n8_ := Aside0.mk (Kd.N_elder' (by (with_reducible repeat (first | apply Kd.N_alloc | apply Kd.N_drewN | apply Kd.N_drew)); exact (Kd.N_mono (Kd.N_far (p := ⟨gb240, 1, none⟩) (Kd.N_far (p := ⟨gb240, 0, none⟩) (Kd.N_mono HO238.out (fun k_ hk => (⟨hk, hk.2⟩ : _ ∧ k_ ≠ gb240))) (fun _ hk => hk.2) (.slice Ao40 t233.length co40)) (fun _ hk => hk.2) (.slice Ao44 t236.length co44)) (fun _ h_ => h_.1))) (Kd.N_base ho47) hb); have n9_ := Aside0.mk (Kd.N_lower ho47 (below_size (by repeat (first | (with_reducible first | exact HB.out | apply below_alloc | apply pw_below_drewN | apply below_drew1 | refine below_set ?_ GE212.out | refine below_set ?_ GE224.out | refine below_set ?_ GE240.out) | exact HB.out)))); have n10_ := Aside0.mk (blk_below (g := gb212) (o := .cells #[.slice Ao21 y203.length co21, .slice Ao20 y209.length co20] 25 (0, 0)) (by (with_reducible repeat (first | refine blk_drewN ?_ _ | refine blk_drew ?_ | refine blk_alloc ?_ _)); refine blk_far ?_ NB212_240.out _; (with_reducible repeat (first | refine blk_drewN ?_ _ | refine blk_drew ?_ | refine blk_alloc ?_ _)); refine blk_far ?_ NB212_240.out _; (with_reducible repeat (first | refine blk_drewN ?_ _ | refine blk_drew ?_ | refine blk_alloc ?_ _)); exact BK212.out) hb); have n11_ := Aside0.mk (blk_below (g := gb224) (o := .cells #[.slice Ao28 t217.length co28, .slice Ao31 t220.length co31] 25 (0, 0)) (by (with_reducible repeat (first | refine blk_drewN ?_ _ | refine blk_drew ?_ | refine blk_alloc ?_ _)); refine blk_far ?_ NB224_240.out _; (with_reducible repeat (first | refine blk_drewN ?_ _ | refine blk_drew ?_ | refine blk_alloc ?_ _)); refine blk_far ?_ NB224_240.out _; (with_reducible repeat (first | refine blk_drewN ?_ _ | refine blk_drew ?_ | refine blk_alloc ?_ _)); exact BK224.out) hb); have n12_ := Aside0.mk (blk_below (g := gb240) (o := .cells #[.slice Ao40 t233.length co40, .slice Ao44 t236.length co44] 25 (0, 0)) (by (with_reducible repeat (first | refine blk_drewN ?_ _ | refine blk_drew ?_ | refine blk_alloc ?_ _)); refine blk_put (cs := #[.slice Ao40 t233.length co40, .slice none 0 0]) ?_ 1 _ rfl; (with_reducible repeat (first | refine blk_drewN ?_ _ | refine blk_drew ?_ | refine blk_alloc ?_ _)); refine blk_put (cs := #[.slice none 0 0, .slice none 0 0]) ?_ 0 _ rfl; (with_reducible repeat (first | refine blk_drewN ?_ _ | refine blk_drew ?_ | refine blk_alloc ?_ _)); exact BK240.out) hb); have n13_ := Aside0.mk (below_step (by repeat (first | (with_reducible first | exact HB.out | apply below_alloc | apply pw_below_drewN | apply below_drew1 | refine below_set ?_ GE212.out | refine below_set ?_ GE224.out | refine below_set ?_ GE240.out) | exact HB.out)) hb); clear HO205; clear HO211; clear HO215; clear HO219; clear HO222; clear HO229; clear HO232; clear HO235; clear HO238; clear BK212; clear BK224; clear BK240; clear HB; have HO205 := n0_; have HO211 := n1_; have HO215 := n2_; have HO219 := n3_; have HO222 := n4_; have HO229 := n5_; have HO232 := n6_; have HO235 := n7_; have HO238 := n8_; have HO243 := n9_; have BK212 := n10_; have BK224 := n11_; have BK240 := n12_; have HB := n13_; clear n0_ n1_ n2_ n3_ n4_ n5_ n6_ n7_ n8_ n9_ n10_ n11_ n12_ n13_; clear hb ho47; obtain ⟨Ao48, co48, eo48⟩ := Kd.N_slice HO243.out; subst eo48) | (go_at_call 10; (refine (image_Right.calls _ _ ([] : List (S48)) _ _ y241 t244 _ ?side1 ?side2 ?side3 ?side4 A12.out (HWX.out.below (by repeat (first | (with_reducible first | exact HB.out | apply below_alloc | apply pw_below_drewN | apply below_drew1 | refine below_set ?_ GE212.out | refine below_set ?_ GE224.out | refine below_set ?_ GE240.out) | exact HB.out)))).mono ?_); (case side1 => exact Kd.C_nil _ _); (case side2 => exact Nat.le_refl _); (case side3 => repeat (first | exact (Kd.N_reads' HO243.out).2.2 | (with_reducible refine Kd.C_alloc ?_ _) | (with_reducible refine Kd.C_drewN ?_ _) | (with_reducible refine Kd.C_drew ?_))); (case side4 => exact (Kd.N_reads' HO243.out).2.1); rintro e w49 ⟨rfl, hb⟩; have n0_ := Aside0.mk (Kd.R_below (by (with_reducible repeat (first | apply Kd.R_alloc | apply Kd.R_drewN | apply Kd.R_drew)); exact HO205.out) hb); have n1_ := Aside0.mk (Kd.N_below (by (with_reducible repeat (first | apply Kd.N_alloc | apply Kd.N_drewN | apply Kd.N_drew)); exact HO211.out) hb); have n2_ := Aside0.mk (Kd.R_below (by (with_reducible repeat (first | apply Kd.R_alloc | apply Kd.R_drewN | apply Kd.R_drew)); exact HO215.out) hb); have n3_ := Aside0.mk (Kd.R_below (by (with_reducible repeat (first | apply Kd.R_alloc | apply Kd.R_drewN | apply Kd.R_drew)); exact HO219.out) hb); have n4_ := Aside0.mk (Kd.N_below (by (with_reducible repeat (first | apply Kd.N_alloc | apply Kd.N_drewN | apply Kd.N_drew)); exact HO222.out) hb); have n5_ := Aside0.mk (Kd.R_below (by (with_reducible repeat (first | apply Kd.R_alloc | apply Kd.R_drewN | apply Kd.R_drew)); exact HO229.out) hb); have n6_ := Aside0.mk (Kd.R_below (by (with_reducible repeat (first | apply Kd.R_alloc | apply Kd.R_drewN | apply Kd.R_drew)); exact HO232.out) hb); have n7_ := Aside0.mk (Kd.R_below (by (with_reducible repeat (first | apply Kd.R_alloc | apply Kd.R_drewN | apply Kd.R_drew)); exact HO235.out) hb); have n8_ := Aside0.mk (Kd.N_below (by (with_reducible repeat (first | apply Kd.N_alloc | apply Kd.N_drewN | apply Kd.N_drew)); exact HO238.out) hb); have n9_ := Aside0.mk (Kd.N_below (by (with_reducible repeat (first | apply Kd.N_alloc | apply Kd.N_drewN | apply Kd.N_drew)); exact HO243.out) hb); have n10_ := Aside0.mk (blk_below (g := gb212) (o := .cells #[.slice Ao21 y203.length co21, .slice Ao20 y209.length co20] 25 (0, 0)) (by (with_reducible repeat (first | refine blk_drewN ?_ _ | refine blk_drew ?_ | refine blk_alloc ?_ _)); exact BK212.out) hb); have n11_ := Aside0.mk (blk_below (g := gb224) (o := .cells #[.slice Ao28 t217.length co28, .slice Ao31 t220.length co31] 25 (0, 0)) (by (with_reducible repeat (first | refine blk_drewN ?_ _ | refine blk_drew ?_ | refine blk_alloc ?_ _)); exact BK224.out) hb); have n12_ := Aside0.mk (blk_below (g := gb240) (o := .cells #[.slice Ao40 t233.length co40, .slice Ao44 t236.length co44] 25 (0, 0)) (by (with_reducible repeat (first | refine blk_drewN ?_ _ | refine blk_drew ?_ | refine blk_alloc ?_ _)); exact BK240.out) hb); have n13_ := Aside0.mk (below_step (by repeat (first | (with_reducible first | exact HB.out | apply below_alloc | apply pw_below_drewN | apply below_drew1 | refine below_set ?_ GE212.out | refine below_set ?_ GE224.out | refine below_set ?_ GE240.out) | exact HB.out)) hb); clear HO205; clear HO211; clear HO215; clear HO219; clear HO222; clear HO229; clear HO232; clear HO235; clear HO238; clear HO243; clear BK212; clear BK224; clear BK240; clear HB; have HO205 := n0_; have HO211 := n1_; have HO215 := n2_; have HO219 := n3_; have HO222 := n4_; have HO229 := n5_; have HO232 := n6_; have HO235 := n7_; have HO238 := n8_; have HO243 := n9_; have BK212 := n10_; have BK224 := n11_; have BK240 := n12_; have HB := n13_; clear n0_ n1_ n2_ n3_ n4_ n5_ n6_ n7_ n8_ n9_ n10_ n11_ n12_ n13_; (try clear hb); (try clear hb2); (try clear hk); (try clear hi)))
              go_ret
              exact ⟨by first | (rw [h150]; done) | rfl | (simp [errW_none, errW_some] <;> rfl) | (simp [*, errW_none, errW_some] <;> rfl), by repeat (first | (with_reducible first | exact HB.out | apply below_alloc | apply pw_below_drewN | apply below_drew1 | refine below_set ?_ GE212.out | refine below_set ?_ GE224.out | refine below_set ?_ GE240.out) | exact HB.out)⟩
            · exfalso; (first | (exact c11 rfl) | (rw [if_neg c11] at H; cases H; done) | (simp [c11] at H; done) | (rw [if_neg c11] at H; simp at H; done))
          · exfalso; (first | (exact c10 rfl) | (rw [if_neg c10] at H; cases H; done) | (simp [c10] at H; done) | (rw [if_neg c10] at H; simp at H; done))
        · exfalso; (first | (exact c9 rfl) | (rw [if_neg c9] at H; cases H; done) | (simp [c9] at H; done) | (rw [if_neg c9] at H; simp at H; done))
      · exfalso; (first | (exact c8 rfl) | (rw [if_neg c8] at H; cases H; done) | (simp [c8] at H; done) | (rw [if_neg c8] at H; simp at H; done))
    · exfalso; (first | (exact c7 rfl) | (rw [if_neg c7] at H; cases H; done) | (simp [c7] at H; done) | (rw [if_neg c7] at H; simp at H; done))
  · exfalso; (first | (exact c6 rfl) | (rw [if_neg c6] at H; cases H; done) | (simp [c6] at H; done) | (rw [if_neg c6] at H; simp at H; done))
end Go.Proofs.YteidgpaakoeefaaDoor.PIm
namespace Go.Proofs.YteidgpaakoeefaaDoor
open Go.RowKit Go.Proofs.YteidgpaakoeefaaDoorW.PrintWords Go.Proofs.YteidgpaakoeefaaDoorW.PrintLast Go.Proofs.YteidgpaakoeefaaDoorW.PrintMore
set_option linter.unusedVariables false
set_option linter.unusedSimpArgs false
open PIm
theorem Bytes.app {a b : List Int} (h : Bytes a) (k : Bytes b) : Bytes (a ++ b) := fun x hx => (List.mem_append.1 hx).elim (h x) (k x)
theorem Bytes.flat {α : Type} {put : α → List Int} {l : List α} (h : ∀ x, Bytes (put x)) : Bytes (l.flatMap put) := fun x hx => by
  obtain ⟨y, _, hy⟩ := List.mem_flatMap.1 hx
  exact h y x hy
theorem venc_bytes : ∀ (k z : Nat), z < k → Bytes (venc z)
  | 0, z, h => by omega
  | k + 1, z, h => by
    by_cases hz : z < 128
    · rw [venc_lt hz]; intro x hx; rw [List.mem_singleton.1 hx]; omega
    · rw [venc_ge hz]
      intro x hx
      rcases List.mem_cons.1 hx with rfl | hx
      · omega
      · exact venc_bytes k (z / 128) (by omega) x hx
theorem venc_b (z : Nat) : Bytes (venc z) := venc_bytes (z + 1) z (by omega)
theorem natB_b (n : Int) : Bytes (natB n) := by
  unfold natB numF
  split
  · intro x hx; cases hx
  · simp only [List.nil_append]; exact venc_b _
theorem wholeB_b (n : Int) : Bytes (wholeB n) := venc_b _
theorem bytesOf_b (s : ByteArray) : Bytes (bytesOf s) := fun x hx => by
  unfold bytesOf at hx
  obtain ⟨y, _, rfl⟩ := List.mem_map.1 hx
  exact ⟨by omega, by have := y.toNat_lt; omega⟩
theorem body_b (gs : List S48) (fs : List S54) : Bytes (bodyF gs fs) := by
  rw [body_eq]
  refine Bytes.app (by unfold Bytes; decide) (Bytes.app ((natB_b _).app (Bytes.flat fun x => (natB_b _).app ((natB_b _).app (wholeB_b _)))) ((natB_b _).app (Bytes.flat fun f => ?_)))
  exact ((venc_b _).app (bytesOf_b _)).app (((natB_b _).app (Bytes.flat fun x => natB_b x)).app ((natB_b _).app (((natB_b _).app (Bytes.flat fun x => natB_b x)).app ((natB_b _).app (Bytes.flat fun x => (natB_b _).app ((wholeB_b _).app (natB_b _)))))))
theorem frame_b (gs : List S48) (fs : List S54) : Bytes (frameF (bodyF gs fs)) := frameF_range _ (body_b gs fs)
theorem dec_bytes {l : List Int} (hl : l.length ≤ 140737488355318) (hb : Bytes l) : image_Decode.f l = some (decF l) := by
  unfold image_Decode.f
  rw [if_pos ⟨hl, hb⟩]
end Go.Proofs.YteidgpaakoeefaaDoor
namespace Go.Proofs.YteidgpaakoeefaaDoor
open Go.RowKit Go.Proofs.YteidgpaakoeefaaDoorW.PrintWords Go.Proofs.YteidgpaakoeefaaDoorW.PrintLast Go.Proofs.YteidgpaakoeefaaDoorW.PrintMore
set_option linter.unusedVariables false
set_option linter.unusedSimpArgs false
open PIm
def awG : List S48 := [⟨1, 0, -3⟩]
def awF : List S54 := [⟨⟨#[102]⟩, [], 0, [], [⟨32, 0, 0⟩]⟩]
theorem aw_arg : argA awG awF := by
  refine ⟨by decide, by decide, fun f hf => ?_, fun x hx => ?_, fun f hf => ?_⟩
  · rw [List.mem_singleton.1 hf]; exact ⟨by decide, by decide, by decide, by decide⟩
  · rw [List.mem_singleton.1 hx]; exact ⟨⟨by decide, by decide⟩, ⟨by decide, by decide⟩, ⟨by decide, by decide⟩⟩
  · rw [List.mem_singleton.1 hf]
    refine ⟨⟨by decide, by decide⟩, fun x hx => ?_, fun x hx => ?_, fun x hx => ?_⟩
    · cases hx
    · cases hx
    · rw [List.mem_singleton.1 hx]; exact ⟨⟨by decide, by decide⟩, ⟨by decide, by decide⟩, ⟨by decide, by decide⟩⟩
theorem aw_ok : okF awG awF = true := by decide
theorem natB_small {n : Int} (h : 0 ≤ n) (h2 : n < 128) : natB n = [n] := by
  rw [natB_eq h, venc_lt (by omega), Int.toNat_of_nonneg h]
theorem wholeB_small {n : Int} (h : 0 ≤ zz n) (h2 : zz n < 128) : wholeB n = [zz n] := by
  unfold wholeB
  rw [venc_lt (by omega), Int.toNat_of_nonneg h]
theorem aw_body : bodyF awG awF = [84, 73, 76, 84, 1, 1, 0, 5, 1, 1, 102, 0, 0, 0, 1, 32, 0, 0] := by
  unfold bodyF rowG rowF awG awF
  simp only [List.flatMap_cons, List.flatMap_nil, putG, putF, textB, rowI, rowC, putC, List.length_cons, List.length_nil, List.drop_nil, List.drop]
  rw [natB_small (n := ((0 + 1 : Nat) : Int)) (by decide) (by decide), natB_small (n := 1) (by decide) (by decide), natB_small (n := 0) (by decide) (by decide), wholeB_small (n := -3) (by decide) (by decide),
    natB_small (n := ((0 : Nat) : Int)) (by decide) (by decide), natB_small (n := 32) (by decide) (by decide), wholeB_small (n := 0) (by decide) (by decide),
    show (⟨#[102]⟩ : ByteArray).size = 1 from rfl, venc_lt (by decide)]
  rfl
theorem aw_str : (strOfNums [84, 73, 76, 84, 1, 1, 0, 5, 1, 1, 102, 0, 0, 0, 1, 32, 0, 0]).toList = [84, 73, 76, 84, 1, 1, 0, 5, 1, 1, 102, 0, 0, 0, 1, 32, 0, 0] := by kernel_rfl
theorem aw_len : ¬ 1048576 < (frameF (bodyF awG awF)).length := by rw [frameF_len, aw_body]; decide
theorem aw_tilt : decF [84, 73, 76, 84] = badI := by
  unfold decF
  rw [if_neg (by decide), if_pos (.inl (by decide))]
theorem aw_arg2 : argA [] [⟨⟨#[]⟩, [], 0, [], []⟩] := by
  refine ⟨by decide, by decide, fun f hf => ?_, (fun x hx => by cases hx), fun f hf => ?_⟩
  · rw [List.mem_singleton.1 hf]; exact ⟨by decide, by decide, by decide, by decide⟩
  · rw [List.mem_singleton.1 hf]
    exact ⟨⟨by decide, by decide⟩, (fun x hx => by cases hx), (fun x hx => by cases hx), fun x hx => by cases hx⟩
theorem awake_true : Evt (fun k => tiltyardlaw15_awake.f k) true := by
  obtain ⟨a, ha⟩ := same_refl aw_arg
  refine ⟨a, fun k hk => ?_⟩
  show tiltyardlaw15_awake.f k = some true
  have e1 : image_Encode.f awG awF = some (frameF (bodyF awG awF), 0) := by
    rw [enc_args aw_arg]; unfold encF; rw [if_pos aw_ok, if_neg aw_len]
  have e2 : image_Decode.f (frameF (bodyF awG awF)) = some (awG, awF, 0) := by
    rw [dec_bytes (by have := aw_len; omega) (frame_b _ _), there aw_ok aw_arg.2.2.2 aw_len]
  have e3 : wire_Open.f (frameF (bodyF awG awF)) = some (bodyF awG awF, true) := by
    unfold wire_Open.f; rw [if_pos (by have := aw_len; omega), opF_frame]
  have e4 : image_Decode.f [84, 73, 76, 84] = some badI := by rw [dec_bytes (by decide) (by unfold Bytes; decide), aw_tilt]
  have e5 : image_Right.f [] [⟨⟨#[]⟩, [], 0, [], []⟩] = some 150 := by
    unfold image_Right.f
    rw [enc_args (gs := []) (fs := [⟨⟨#[]⟩, [], 0, [], []⟩]) aw_arg2]
    rfl
  unfold tiltyardlaw15_awake.f
  rw [Option.bind_some, Option.bind_some]
  show (image_Encode.f awG awF).bind _ = _
  rw [e1, Option.bind_some]
  simp only []
  rw [e2, Option.bind_some]
  have e6 : tiltyardref14_Same.f k awG awF awG awF = some true := ha k hk
  show (tiltyardref14_Same.f k awG awF awG awF).bind _ = _
  refine (congrArg (fun o : Option Bool => o.bind _) e6).trans ?_
  rw [Option.bind_some, e3, Option.bind_some, e4, Option.bind_some, if_pos trivial, if_pos rfl, if_pos (by rw [aw_body]; exact aw_str), if_pos rfl, if_pos rfl, if_pos (show badI.2.2 = 150 from rfl), e5, Option.bind_some]
  rfl
theorem awake_r {k : Nat} {r : Bool} (h : tiltyardlaw15_awake.f k = some r) : r = true := by
  obtain ⟨a, ha⟩ := awake_true
  have hm : ∀ d, tiltyardlaw15_awake.f (k + d) = some r := by
    intro d
    induction d with
    | zero => exact h
    | succ d ih => exact tiltyardlaw15_awake.mono (k + d) r ih
  have h1 := hm a
  have h2 : tiltyardlaw15_awake.f (k + a) = some true := ha (k + a) (by omega)
  rw [h2] at h1
  exact (Option.some.inj h1).symm
theorem PIm.tiltyardlaw15_awake.calls (k : Nat) (r : Bool) (w : World) (h : tiltyardlaw15_awake.f k = some r) (hW : Tab w) :
    Calls Tryd.prog 8 #[] w fun e w' => e = .returned (.bool r) ∧ Below w.heap.size w w' := by
  obtain rfl := awake_r h
  exact tiltyardlaw15_awake.calls_true k w h hW
end Go.Proofs.YteidgpaakoeefaaDoor
namespace Go.Proofs.YteidgpaakoeefaaDoor
open Go.RowKit Go.Proofs.YteidgpaakoeefaaDoorW.PrintWords Go.Proofs.YteidgpaakoeefaaDoorW.PrintLast Go.Proofs.YteidgpaakoeefaaDoorW.PrintMore
set_option linter.unusedVariables false
set_option linter.unusedSimpArgs false
open PIm
theorem dec_bounds {l : List Int} {gs : List S48} {fs : List S54} {x : Int} (h : (gs, fs, x) = decF l) : gs.length ≤ 64 ∧ fs.length ≤ 64 ∧ ∀ f ∈ fs, fnIn f ∧ (f.f1.length ≤ 140737488355318 ∧ f.f3.length ≤ 140737488355318 ∧ f.f4.length ≤ 32768) := by
  have hnil : ∀ y : Int, (gs, fs, x) = (([], [], y) : List S48 × List S54 × Int) → gs.length ≤ 64 ∧ fs.length ≤ 64 ∧ ∀ f ∈ fs, fnIn f ∧ (f.f1.length ≤ 140737488355318 ∧ f.f3.length ≤ 140737488355318 ∧ f.f4.length ≤ 32768) := by
    intro y e
    injection e with e1 e2; injection e2 with e2 _
    subst e1; subst e2
    exact ⟨Nat.zero_le _, Nat.zero_le _, fun f hf => by cases hf⟩
  unfold decF at h
  split at h
  · exact hnil 2 h
  split at h
  · exact hnil 150 h
  cases hr : rdAll (opF l).1 with
  | none => rw [hr] at h; exact hnil 150 h
  | some q =>
    obtain ⟨r, j⟩ := q
    rw [hr] at h
    simp only [] at h
    split at h
    · next hc =>
      injection h with e1 e2; injection e2 with e2 _
      subst e1; subst e2
      obtain ⟨h1, h2, _, h4⟩ := okF_parts hc.2
      refine ⟨h1, h2, fun f hf => ?_⟩
      obtain ⟨k0, k1, k3, k4, _⟩ := fnB_ok (h4 f hf)
      exact ⟨⟨by omega, by omega, by omega, by omega⟩, by omega, by omega, k4⟩
    · exact hnil 150 h
set_option maxHeartbeats 16000000 in
set_option maxRecDepth 100000 in
theorem imageReads_row (A0 : Option Addr) (c0 : Nat) (l0 : List Int) (w : World) (hr : Kd.C (Kd.int .u8) w A0 l0.length l0) (hc : l0.length ≤ c0) (hbt : ∀ x ∈ l0, 0 ≤ x ∧ x < 256) (hl : l0.length ≤ 140737488351232) (hT : Tab w) :
    Calls Tryd.prog 4 #[.slice A0 l0.length c0] w fun e w' => e = .returned (.bool true) ∧ Below w.heap.size w w' := by
  obtain ⟨ka, hka⟩ := awake_true
  obtain ⟨lf, hlf⟩ : ∃ lf, lf = frameF l0 := ⟨_, rfl⟩
  have hfr : wire_Frame.f l0 = some lf := by unfold wire_Frame.f; rw [if_pos (by omega), hlf]
  have hfl : lf.length = l0.length + 4 := by rw [hlf, frameF_len]
  have hfb : ∀ x ∈ lf, 0 ≤ x ∧ x < 256 := by rw [hlf]; exact frameF_range l0 hbt
  have HA := Aside0.mk hka; have HR := Aside0.mk hr; have HC := Aside0.mk hc; have HBT := Aside0.mk hbt; have HL := Aside0.mk hl; have HT := Aside0.mk hT; have HFR := Aside0.mk hfr; have HFL := Aside0.mk hfl; have HFB := Aside0.mk hfb
  clear hka hr hc hbt hl hT hlf hfr hfl hfb
  go_enter Tryd.func4, Tryd.ntmps4
  go_wp2_with fail
  refine (PIm.tiltyardlaw15_awake.calls ka true _ (HA.out ka (Nat.le_refl _)) HT.out).mono ?_
  rintro e_ W1 ⟨rfl, hb_⟩
  have HB := Aside0.mk hb_; clear hb_
  go_wp2_with fail
  refine (wire_Frame.calls A0 c0 l0 lf _ (Kd.C_below HR.out HB.out) HC.out HFR.out (HT.out.below HB.out)).mono ?_
  rintro e_ W2 ⟨v_, rfl, ho_, hb_⟩
  obtain ⟨Af, cf, rfl⟩ := Kd.R_slice ho_
  have m_ := Aside0.mk (below_step HB.out hb_); clear HB hb_; have HB := m_; clear m_
  have HO := Aside0.mk (Kd.R_reads' ho_).2; clear ho_
  go_wp2_with fail
  generalize hWG : World.alloc W2 _ = wf
  obtain ⟨gR, hGe⟩ : ∃ g, g = W2.heap.size := ⟨_, rfl⟩
  rw [← hGe]
  have BR : wf.heap[gR]? = some (.cells #[.slice A0 l0.length c0, .slice Af lf.length cf] 30 (0, 0)) := by rw [← hWG, hGe]; exact blk_new W2 _
  have hb_ : Below W2.heap.size W2 wf := by rw [← hWG]; exact below_alloc (Below.refl _ _) _
  have m_ := Aside0.mk (below_step HB.out hb_); clear HB; have HB := m_; clear m_
  have HRL : Aside0 (gR < wf.heap.size) := ⟨blk_lt BR⟩
  have HROW : Aside0 (∀ k, k < 2 → ∃ (A : Option Addr) (c : Nat) (l : List Int), (∀ W, Below wf.heap.size wf W → W.cell? ⟨gR, k, none⟩ = some (.slice A l.length c) ∧ Kd.C (Kd.int .u8) W A l.length l) ∧ l.length ≤ c ∧ (∀ x ∈ l, 0 ≤ x ∧ x < 256) ∧ l.length ≤ 140737488355318) := ⟨by
    intro k hk
    rcases Nat.lt_or_ge k 1 with h | h
    · obtain rfl : k = 0 := by omega
      exact ⟨A0, c0, l0, fun W hb => ⟨(blk_cell (blk_below BR hb) 0).trans rfl, Kd.C_below (Kd.C_below HR.out HB.out) hb⟩, HC.out, HBT.out, by have := HL.out; omega⟩
    · obtain rfl : k = 1 := by omega
      exact ⟨Af, cf, lf, fun W hb => ⟨(blk_cell (blk_below BR hb) 1).trans rfl, Kd.C_below (Kd.C_below HO.out.2 hb_) hb⟩, HO.out.1, HFB.out, by rw [HFL.out]; have := HL.out; omega⟩⟩
  have HTF := Aside0.mk (HT.out.below HB.out)
  clear hWG hGe hb_ BR HR HC HBT HL HT HFR HFL HFB HO
  go_loopw [5] (fun vi wr => ∃ (k : Nat), vi = .int .i64 k ∧ Aside0 (k ≤ 2) ∧ Aside0 (Below wf.heap.size wf wr)) (fun v _ => 2 - (intOf v).toNat)
  case atStart => exact ⟨0, rfl, ⟨Nat.zero_le _⟩, ⟨Below.refl _ _⟩⟩
  case round =>
    have HB0 := HB; clear HB
    obtain ⟨k, rfl, HK, HB⟩ := hrel
    have hk := HK.out
    by_cases hlt : k < 2
    · have z1 : decide ((k : Int) < 2) = true := decide_eq_true (by omega)
      obtain ⟨A, c, l, hW_, hcc, hbt, hl⟩ := HROW.out k hlt
      have q1 : (0 ≤ (k : Int)) = True := eq_true (by omega)
      have q2 : ((k : Int) < 2) = True := eq_true (by omega)
      have HRW := Aside0.mk hW_; have HLT := Aside0.mk hlt; have HCC := Aside0.mk hcc; have HBT := Aside0.mk hbt; have HL := Aside0.mk hl
      obtain ⟨⟨gs, fs, x3⟩, hD⟩ : ∃ D, D = decF l := ⟨_, rfl⟩
      have HBD := Aside0.mk (dec_bounds hD)
      have HDC : Aside0 (image_Decode.f l = some (gs, fs, x3)) := ⟨by unfold image_Decode.f; rw [if_pos ⟨hl, hbt⟩, hD]⟩
      have HDD : Aside0 (∀ W, Kd.C (Kd.int .u8) W A l.length l → Calls Tryd.prog 19 #[.slice A l.length c] W fun e w' => ∃ v0 v1, e = .returned (.tuple #[.agg #[v0, v1], .int .i64 x3]) ∧ Kd.R k48 48 w' W.heap.size (fun _ => True) v0 gs ∧ Kd.R k54 54 w' W.heap.size (fun _ => True) v1 fs ∧ Below W.heap.size W w') := ⟨fun W h => by
        have h_ := ddec A c l W h hcc hl hbt
        rw [← hD] at h_
        exact h_⟩
      have HSA : Aside0 (sameA gs fs) := ⟨⟨by have := HBD.out.1; omega, by have := HBD.out.2.1; omega, fun f hf => (HBD.out.2.2 f hf).1, trivial⟩⟩
      clear hW_ hcc hbt hl hD hlt hk
      have hcR := (HRW.out _ HB.out).1
      go_wp2_with fail
      clear hcR
      refine (Lent_calls A c l _ (HRW.out _ HB.out).2 HL.out).mono ?_
      rintro e_ W1 ⟨g, rfl, hg_, bk_, hb_⟩
      have HG := Aside0.mk (Nat.le_trans HB.out.size hg_); have HGL : Aside0 (g < W1.heap.size) := ⟨blk_lt bk_⟩
      have BK : Aside0 (W1.heap[g]? = some (.cells (spareC l 3) 5 (0, 0))) := ⟨bk_⟩
      clear bk_ hg_
      have m_ := Aside0.mk (below_step HB.out hb_); clear HB hb_ ; have HB := m_; clear m_ 
      have HLO := Aside0.mk HB.out.size
      go_wp2_with fail
      refine (image_Decode.calls (some ⟨g, 0, none⟩) (l.length + 3) l gs fs x3 _ (lent_reads (by have := HL.out; omega) BK.out) (by omega) HDC.out (HTF.out.below HB.out)).mono ?_
      rintro e_ W2 ⟨v0, v1, rfl, h0_, h1_, hb_⟩
      obtain ⟨Ag, cg, rfl⟩ := Kd.R_slice h0_
      obtain ⟨Ai, ci, rfl⟩ := Kd.S_slice h1_
      have X0 := Aside0.mk (Kd.R_mono (Kd.R_bound h0_) (fun k_ h_ => (⟨h_.2.1, h_.2.2.1⟩ : W1.heap.size ≤ k_ ∧ k_ < W2.heap.size))); have X1 := Aside0.mk (Kd.R_mono (Kd.R_bound (Kd.S_R h1_)) (fun k_ h_ => (⟨h_.2.1, h_.2.2.1⟩ : W1.heap.size ≤ k_ ∧ k_ < W2.heap.size)))
      have HS12 := Aside0.mk hb_.size
      clear h0_ h1_
      have n0_ := Aside0.mk (blk_below BK.out hb_); have m_ := Aside0.mk (below_step HB.out hb_); clear HB hb_ BK; have BK := n0_; have HB := m_; clear m_ n0_
      have ha_ := below_alloc (Below.refl W2.heap.size W2) (.cells #[.slice Ag gs.length cg, .slice Ai fs.length ci] 25)
      have hcR := (HRW.out _ (below_step HB.out ha_)).1
      go_wp2_with fail
      generalize hWG : World.alloc W2 _ = W3
      obtain ⟨g7, hGe⟩ : ∃ g, g = W2.heap.size := ⟨_, rfl⟩
      rw [← hGe]
      have Bg7 : Aside0 (W3.heap[g7]? = some (.cells #[.slice Ag gs.length cg, .slice Ai fs.length ci] 25 (0, 0))) := ⟨by rw [← hWG, hGe]; exact blk_new W2 _⟩
      have hb_ : Below W2.heap.size W2 W3 := by rw [← hWG]; exact below_alloc (Below.refl _ _) _
      have HEg7 := Aside0.mk hGe
      clear hWG hGe ha_
      have n0_ := Aside0.mk (blk_below BK.out hb_); have n1_ := Aside0.mk (Kd.R_below X0.out hb_); have n2_ := Aside0.mk (Kd.R_below X1.out hb_); have m_ := Aside0.mk (below_step HB.out hb_); clear HB hb_ BK X0 X1; have BK := n0_; have X0 := n1_; have X1 := n2_; have HB := m_; clear m_ n0_ n1_ n2_
      clear hcR
      have HS23 : Aside0 (W2.heap.size ≤ W3.heap.size) := ⟨by have := blk_lt Bg7.out; have := HEg7.out; omega⟩
      refine (Kept_callsG g A c l wf _ HG.out HB.out BK.out (HRW.out _ (Below.refl _ _)).2 HL.out).mono ?_
      rintro e_ W4 ⟨rfl, hbb_, hgr_⟩
      have n0_ := Aside0.mk (Kd.R_grown X0.out hgr_ (fun k_ h_ e_ => by cases e_; have := h_.1; have := HGL.out; omega)); have n1_ := Aside0.mk (Kd.R_grown X1.out hgr_ (fun k_ h_ e_ => by cases e_; have := h_.1; have := HGL.out; omega)); have n2_ := Aside0.mk (blk_grown Bg7.out hgr_ (by intro e_; cases e_; have := HEg7.out; have := HGL.out; have := HS12.out; omega)); have HS34 := Aside0.mk hgr_.size
      clear X0 X1 Bg7 HB BK hgr_; have X0 := n0_; have X1 := n1_; have Bg7 := n2_; have HB := Aside0.mk hbb_; clear n0_ n1_ n2_ hbb_
      have hcR := (HRW.out _ HB.out).1
      go_wp2_with fail
      clear hcR
      refine (HDD.out _ (HRW.out _ HB.out).2).mono ?_
      rintro e_ W5 ⟨u0, u1, rfl, h0_, h1_, hb_⟩
      obtain ⟨Ah, ch, rfl⟩ := Kd.R_slice h0_
      obtain ⟨Aj, cj, rfl⟩ := Kd.R_slice h1_
      have Y0 := Aside0.mk (Kd.R_mono (Kd.R_bound h0_) (fun k_ h_ => (h_.2.1 : W4.heap.size ≤ k_))); have Y1 := Aside0.mk (Kd.R_mono (Kd.R_bound h1_) (fun k_ h_ => (h_.2.1 : W4.heap.size ≤ k_)))
      have HS45 := Aside0.mk hb_.size
      clear h0_ h1_
      have n0_ := Aside0.mk (blk_below Bg7.out hb_); have n1_ := Aside0.mk (Kd.R_below X0.out hb_); have n2_ := Aside0.mk (Kd.R_below X1.out hb_); have m_ := Aside0.mk (below_step HB.out hb_); clear HB hb_ Bg7 X0 X1; have Bg7 := n0_; have X0 := n1_; have X1 := n2_; have HB := m_; clear m_ n0_ n1_ n2_
      have ha_ := below_alloc (Below.refl W5.heap.size W5) (.cells #[.slice Ah gs.length ch, .slice Aj fs.length cj] 25)
      have hcA0 : (W5.alloc (.cells #[.slice Ah gs.length ch, .slice Aj fs.length cj] 25)).cell? ⟨g7, 0, none⟩ = some (.slice Ag gs.length cg) := (blk_cell (blk_below Bg7.out ha_) 0).trans rfl
      have hcA1 : (W5.alloc (.cells #[.slice Ah gs.length ch, .slice Aj fs.length cj] 25)).cell? ⟨g7, 1, none⟩ = some (.slice Ai fs.length ci) := (blk_cell (blk_below Bg7.out ha_) 1).trans rfl
      have hcN0 : (W5.alloc (.cells #[.slice Ah gs.length ch, .slice Aj fs.length cj] 25)).cell? ⟨W5.heap.size, 0, none⟩ = some (.slice Ah gs.length ch) := (blk_cell (blk_new W5 _) 0).trans rfl
      have hcN1 : (W5.alloc (.cells #[.slice Ah gs.length ch, .slice Aj fs.length cj] 25)).cell? ⟨W5.heap.size, 1, none⟩ = some (.slice Aj fs.length cj) := (blk_cell (blk_new W5 _) 1).trans rfl
      go_wp2_with fail
      generalize hWG : World.alloc W5 _ = W6
      obtain ⟨g10, hGe⟩ : ∃ g, g = W5.heap.size := ⟨_, rfl⟩
      rw [← hGe]
      have Bg10 : Aside0 (W6.heap[g10]? = some (.cells #[.slice Ah gs.length ch, .slice Aj fs.length cj] 25 (0, 0))) := ⟨by rw [← hWG, hGe]; exact blk_new W5 _⟩
      have hb_ : Below W5.heap.size W5 W6 := by rw [← hWG]; exact below_alloc (Below.refl _ _) _
      have HEg10 := Aside0.mk hGe
      clear hWG hGe ha_
      have n0_ := Aside0.mk (blk_below Bg7.out hb_); have n1_ := Aside0.mk (Kd.R_below X0.out hb_); have n2_ := Aside0.mk (Kd.R_below X1.out hb_); have n3_ := Aside0.mk (Kd.R_below Y0.out hb_); have n4_ := Aside0.mk (Kd.R_below Y1.out hb_); have m_ := Aside0.mk (below_step HB.out hb_); clear HB hb_ Bg7 X0 X1 Y0 Y1; have Bg7 := n0_; have X0 := n1_; have X1 := n2_; have Y0 := n3_; have Y1 := n4_; have HB := m_; clear m_ n0_ n1_ n2_ n3_ n4_
      clear hcA0 hcA1 hcN0 hcN1
      refine (same_calls Ag cg Ai ci Ah ch Aj cj gs fs _ (Kd.R_reads' X0.out).2.2 (Kd.R_reads' X1.out).2.2 (Kd.R_reads' Y0.out).2.2 (Kd.R_reads' Y1.out).2.2 HSA.out).mono ?_
      rintro e_ W7 ⟨rfl, hb_⟩
      have n0_ := Aside0.mk (blk_below Bg7.out hb_); have n1_ := Aside0.mk (blk_below Bg10.out hb_); have n2_ := Aside0.mk (Kd.R_below X0.out hb_); have n3_ := Aside0.mk (Kd.R_below X1.out hb_); have n4_ := Aside0.mk (Kd.R_below Y0.out hb_); have n5_ := Aside0.mk (Kd.R_below Y1.out hb_); have m_ := Aside0.mk (below_step HB.out hb_); clear HB hb_ Bg7 Bg10 X0 X1 Y0 Y1; have Bg7 := n0_; have Bg10 := n1_; have X0 := n2_; have X1 := n3_; have Y0 := n4_; have Y1 := n5_; have HB := m_; clear m_ n0_ n1_ n2_ n3_ n4_ n5_
      have hc70 := (blk_cell Bg7.out 0).trans rfl; have hc71 := (blk_cell Bg7.out 1).trans rfl
      go_wp2_with fail
      clear hc70 hc71
      refine (spoil Ag cg gs Ai ci fs W1.heap.size W2.heap.size _ (Kd.R_mono X0.out (fun _ h => h.2)) (Kd.R_mono X1.out (fun _ h => h.2)) HBD.out.1 HBD.out.2.1 (fun f hf => (HBD.out.2.2 f hf).2)).mono ?_
      rintro e_ W8 ⟨n, rfl, hn_, hk_⟩
      have n0_ := Aside0.mk (Kd.R_kept Y0.out hk_.kept (fun k_ h_ e_ => by have := e_.2; have := HS23.out; have := HS34.out; omega)); have n1_ := Aside0.mk (Kd.R_kept Y1.out hk_.kept (fun k_ h_ e_ => by have := e_.2; have := HS23.out; have := HS34.out; omega)); have n2_ := Aside0.mk (blk_kept Bg10.out hk_.kept (fun e_ => by have := e_.2; have := HEg10.out; have := HS23.out; have := HS34.out; have := HS45.out; omega)); have m_ := Aside0.mk (hk_.out HB.out (fun k_ h_ => Nat.le_trans HLO.out h_.1)); have HNN := Aside0.mk hn_
      clear Y0 Y1 X0 X1 Bg7 Bg10 HB hk_ hn_; have Y0 := n0_; have Y1 := n1_; have Bg10 := n2_; have HB := m_; clear n0_ n1_ n2_ m_
      have hcR := (HRW.out _ HB.out).1
      go_wp2_with fail
      clear hcR
      refine (image_Decode.calls A c l gs fs x3 _ (HRW.out _ HB.out).2 HCC.out HDC.out (HTF.out.below HB.out)).mono ?_
      rintro e_ W9 ⟨t0, t1, rfl, h0_, h1_, hb_⟩
      obtain ⟨Ak, ck, rfl⟩ := Kd.R_slice h0_
      obtain ⟨Am, cm, rfl⟩ := Kd.S_slice h1_
      have Z0 := Aside0.mk h0_; have Z1 := Aside0.mk (Kd.S_R h1_)
      clear h0_ h1_
      have n0_ := Aside0.mk (blk_below Bg10.out hb_); have n1_ := Aside0.mk (Kd.R_below Y0.out hb_); have n2_ := Aside0.mk (Kd.R_below Y1.out hb_); have m_ := Aside0.mk (below_step HB.out hb_); clear HB hb_ Bg10 Y0 Y1; have Bg10 := n0_; have Y0 := n1_; have Y1 := n2_; have HB := m_; clear m_ n0_ n1_ n2_
      have ha_ := below_alloc (Below.refl W9.heap.size W9) (.cells #[.slice Ak gs.length ck, .slice Am fs.length cm] 25)
      have hcA0 : (W9.alloc (.cells #[.slice Ak gs.length ck, .slice Am fs.length cm] 25)).cell? ⟨g10, 0, none⟩ = some (.slice Ah gs.length ch) := (blk_cell (blk_below Bg10.out ha_) 0).trans rfl
      have hcA1 : (W9.alloc (.cells #[.slice Ak gs.length ck, .slice Am fs.length cm] 25)).cell? ⟨g10, 1, none⟩ = some (.slice Aj fs.length cj) := (blk_cell (blk_below Bg10.out ha_) 1).trans rfl
      have hcN0 : (W9.alloc (.cells #[.slice Ak gs.length ck, .slice Am fs.length cm] 25)).cell? ⟨W9.heap.size, 0, none⟩ = some (.slice Ak gs.length ck) := (blk_cell (blk_new W9 _) 0).trans rfl
      have hcN1 : (W9.alloc (.cells #[.slice Ak gs.length ck, .slice Am fs.length cm] 25)).cell? ⟨W9.heap.size, 1, none⟩ = some (.slice Am fs.length cm) := (blk_cell (blk_new W9 _) 1).trans rfl
      go_wp2_with fail
      generalize hWG : World.alloc W9 _ = W10
      obtain ⟨g14, hGe⟩ : ∃ g, g = W9.heap.size := ⟨_, rfl⟩
      rw [← hGe]
      have Bg14 : Aside0 (W10.heap[g14]? = some (.cells #[.slice Ak gs.length ck, .slice Am fs.length cm] 25 (0, 0))) := ⟨by rw [← hWG, hGe]; exact blk_new W9 _⟩
      have hb_ : Below W9.heap.size W9 W10 := by rw [← hWG]; exact below_alloc (Below.refl _ _) _
      have HEg14 := Aside0.mk hGe
      clear hWG hGe ha_
      have n0_ := Aside0.mk (Kd.R_below Y0.out hb_); have n1_ := Aside0.mk (Kd.R_below Y1.out hb_); have n2_ := Aside0.mk (Kd.R_below Z0.out hb_); have n3_ := Aside0.mk (Kd.R_below Z1.out hb_); have m_ := Aside0.mk (below_step HB.out hb_); clear HB hb_ Y0 Y1 Z0 Z1; have Y0 := n0_; have Y1 := n1_; have Z0 := n2_; have Z1 := n3_; have HB := m_; clear m_ n0_ n1_ n2_ n3_
      clear hcA0 hcA1 hcN0 hcN1
      refine (same_calls Ak ck Am cm Ah ch Aj cj gs fs _ (Kd.R_reads' Z0.out).2.2 (Kd.R_reads' Z1.out).2.2 (Kd.R_reads' Y0.out).2.2 (Kd.R_reads' Y1.out).2.2 HSA.out).mono ?_
      rintro e_ W11 ⟨rfl, hb_⟩
      have m_ := Aside0.mk (below_step HB.out hb_); clear HB hb_ ; have HB := m_; clear m_ 
      have zn : decide (n < 0) = false := decide_eq_false (by have := HNN.out; omega)
      have zx : (x3 != x3) = false := by simp
      have hw_ := w64_succ k (by have := HLT.out; omega)
      go_wp2
      rw [hw_]
      exact ⟨⟨k + 1, rfl, ⟨HLT.out⟩, HB⟩, by have := HLT.out; simp only [intOf, Int.toNat_natCast]; omega⟩
    · have z1 : decide ((k : Int) < 2) = false := decide_eq_false (by omega)
      obtain rfl : k = 2 := by omega
      clear hlt hk HK
      go_wp2
      go_ret
      exact ⟨rfl, Below.trans HB0.out (HB.out.mono HB0.out.size)⟩
end Go.Proofs.YteidgpaakoeefaaDoor
namespace Go.Proofs.YteidgpaakoeefaaDoorW.PrintWords
open Go.ChangeShapes Go.WideShapes
theorem sized_ints {H : Type} {enc : TypeId × Value → H} {P : Program} {W : World} {base : Nat} {spare : Nat → Bool} {held : Bool} {t e : TypeId} {k : IntKind} {a : Option Addr} {len cap : Nat} {d : DataW H} {ps : List MemPlace} {ts : List TypeId} {ds : List (DataW H)} {j : Nat}
    (hsz : (DataW.weightsEach P ts ds).all (· ≤ reachBytes) = true) (ht : ts[j]? = some t) (hd : ds[j]? = some d) (hu : P.underlying t = some (.slice e)) (he : P.underlying e = some (.int k)) (hc : P.cellsOf e = 1) {B : Nat} (hB : P.bytesOf e = B)
    (h : DataW.Trod enc P W base spare held t (.slice a len cap) d ps) : len * B ≤ 140737488351232 := by
  obtain ⟨fuel, hf⟩ := h
  rcases open_ints hu he hc hf with ⟨hcs, _⟩ | ⟨x, l, c, zs, hcs, _, hl, _, hz, hx, _, _⟩
  · simp [Value.cells] at hcs
    obtain ⟨rfl, rfl, rfl⟩ := hcs
    simp
  · simp [Value.cells] at hcs
    obtain ⟨rfl, rfl, rfl⟩ := hcs
    obtain ⟨hx, _⟩ := Prod.mk.inj hx
    subst hx
    have z := sized_slice hsz ht hd hu
    rw [hB] at z
    have hl2 : len ≤ zs.length := by
      rw [hz]
      split
      · exact hl
      · exact Nat.le_refl _
    have h1 : (lits (H := H) k (zs.take len)).length + (lits (H := H) k (zs.drop len)).length = zs.length := by
      simp [lits]
      omega
    rw [h1] at z
    exact Nat.le_trans (Nat.mul_le_mul_right _ hl2) z
end Go.Proofs.YteidgpaakoeefaaDoorW.PrintWords
