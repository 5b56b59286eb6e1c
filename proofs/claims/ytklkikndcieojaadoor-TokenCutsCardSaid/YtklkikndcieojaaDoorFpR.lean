/- Contracts that a program printed, chapter by chapter. -/
import Derived.Test.YtklkikndcieojaaDoorPTkx0
namespace Go.Proofs.YtklkikndcieojaaDoor.PTk
open Go.RowKit Go.Proofs.YtklkikndcieojaaDoorW.PrintWords Go.Proofs.YtklkikndcieojaaDoorW.PrintLast Go.Proofs.YtklkikndcieojaaDoorW.PrintMore
attribute [local go_sem] max2_int min2_int max_two min_two max_three min_three max_four min_four   -- for this text's walks alone
set_option linter.unusedVariables false
set_option linter.unusedSimpArgs false
/-! ### tiltyardref03_digits: function 41 -/
def tiltyardref03_digits.l0 : Nat → ByteArray → Int → Int → Option (Int)
  | 0, _, _, _ => none
  | k + 1, x0, x1, x5 => if (wrap64 (x1 + x5)) < (x0.size : Int) then (if 0 ≤ (wrap64 (x1 + x5)) then (if (bt x0 (wrap64 (x1 + x5))) ≥ 48 then (if (bt x0 (wrap64 (x1 + x5))) ≤ 57 then (tiltyardref03_digits.l0 k x0 x1 (wrap64 (x5 + 1))) else (some x5)) else (some x5)) else (none)) else (some x5)
def tiltyardref03_digits.f (k : Nat) (a0 : ByteArray) (a1 : Int) : Option (Int) := tiltyardref03_digits.l0 k a0 a1 0
theorem tiltyardref03_digits.mono_l : ∀ k, (∀ y0 y1 y2, LeO (tiltyardref03_digits.l0 k y0 y1 y2) (tiltyardref03_digits.l0 (k + 1) y0 y1 y2))
  | 0 => fun _ _ _ r h => by simp [tiltyardref03_digits.l0] at h
  | k + 1 => by
    have ih0 := tiltyardref03_digits.mono_l k
    · intro y0 y1 y2
      unfold tiltyardref03_digits.l0
      repeat' first
      | (with_reducible exact ih0 _ _ _)
      | (with_reducible exact LeO.refl _)
      | (with_reducible exact LeO.none _)
      | (with_reducible refine LeO.ite ?_ ?_)
      | (with_reducible refine LeO.bind ?_ (fun _ => ?_))
      | exact ih0 _ _ _
      | exact LeO.none _
      | refine LeO.ite ?_ ?_
      | refine LeO.bind ?_ (fun _ => ?_)
theorem tiltyardref03_digits.mono : ∀ a0 a1 k, LeO (tiltyardref03_digits.f k a0 a1) (tiltyardref03_digits.f (k + 1) a0 a1) := by
  intro a0 a1 k
  have ih0 := tiltyardref03_digits.mono_l k
  unfold tiltyardref03_digits.f
  repeat' first
      | (with_reducible exact ih0 _ _ _)
      | (with_reducible exact LeO.refl _)
      | (with_reducible exact LeO.none _)
      | (with_reducible refine LeO.ite ?_ ?_)
      | (with_reducible refine LeO.bind ?_ (fun _ => ?_))
      | exact ih0 _ _ _
      | exact LeO.none _
      | refine LeO.ite ?_ ?_
      | refine LeO.bind ?_ (fun _ => ?_)
set_option maxHeartbeats 8000000 in
set_option maxRecDepth 100000 in
theorem tiltyardref03_digits.calls (k : Nat) (a0 : ByteArray) (a1 : Int) (r : Int) (w : World) (h : tiltyardref03_digits.f k a0 a1 = some r) :
    Calls Tryd.prog 41 #[.string a0, .int .i64 a1] w fun e w' => e = .returned (.int .i64 r) ∧ Drawn0 w w' := by
  have H : (tiltyardref03_digits.l0 k a0 a1 0) = some r := h
  clear h
  have H' := Aside0.mk H
  clear H
  go_enter Tryd.func41, Tryd.ntmps41
  go_wp2
  go_loopg [5] k (fun kq v5 w' => ∃ (x5_1 : Int), v5 = .int .i64 x5_1 ∧ Aside0 (tiltyardref03_digits.l0 kq a0 a1 x5_1 = some r) ∧ Aside0 (kq ≤ k) ∧ Drawn0 w w')
  case atStart => exact ⟨(0), (by first | rfl | (simp; done) | (simp [*]; done)), H', ⟨Nat.le_refl _⟩, by repeat (first | exact Drawn0.refl _ | apply Drawn0.step)⟩
  case round =>
    clear H'
    try clear p2
    obtain ⟨x5_1, rfl, HA, HK1, ⟨m1, rfl⟩⟩ := hrel
    cases gk with
    | zero => exact absurd HA.out (by simp [tiltyardref03_digits.l0])
    | succ k1 =>
      have H := HA.out
      clear HA
      simp only [tiltyardref03_digits.l0] at H
      by_cases c3 : (wrap64 (a1 + x5_1)) < (a0.size : Int)
      · rw [if_pos c3] at H
        have c3b0 : decide ((wrap64 (a1 + x5_1)) < (a0.size : Int)) = true := decide_eq_true c3
        clear c3
        obtain ⟨ji4, hji4⟩ : ∃ j_ : Int, (wrap64 (a1 + x5_1)) = j_ := ⟨_, rfl⟩
        replace H : (if 0 ≤ (ji4) then (if (bt a0 (ji4)) ≥ 48 then (if (bt a0 (ji4)) ≤ 57 then (tiltyardref03_digits.l0 k1 a0 a1 (wrap64 (x5_1 + 1))) else (some x5_1)) else (some x5_1)) else (none)) = some r := by first | (rw [hji4] at H; exact H) | (simp only [hji4] at H ⊢; exact H)
        (try rw [hji4] at c3b0)
        have hji4w : (IntKind.i64.wrap (a1 + x5_1)) = ji4 := (i64_w _).trans hji4
        by_cases c5 : 0 ≤ (ji4)
        · rw [if_pos c5] at H
          have c5b0 : decide (0 ≤ (ji4)) = true := decide_eq_true c5
          clear c5
          by_cases c7 : (bt a0 (ji4)) ≥ 48
          · rw [if_pos c7] at H
            have c7b0 : decide (48 ≤ (bt a0 (ji4))) = true := decide_eq_true c7
            clear c7
            by_cases c9 : (bt a0 (ji4)) ≤ 57
            · rw [if_pos c9] at H
              have c9b0 : decide ((bt a0 (ji4)) ≤ 57) = true := decide_eq_true c9
              clear c9
              have H' := Aside0.mk H
              clear H
              have p6 : 0 ≤ ((ji4) : Int) := of_decide_eq_true (by first | (with_reducible assumption) | assumption)
              have q6 : (ji4) < (a0.size : Int) := of_decide_eq_true (by first | (with_reducible assumption) | assumption)
              have hx6 := bt_at a0 (ji4)
              replace p6 := eq_true p6
              replace q6 := eq_true q6
              have p8 : 0 ≤ ((ji4) : Int) := of_decide_eq_true (by first | (with_reducible assumption) | assumption)
              have q8 : (ji4) < (a0.size : Int) := of_decide_eq_true (by first | (with_reducible assumption) | assumption)
              have hx8 := bt_at a0 (ji4)
              replace p8 := eq_true p8
              replace q8 := eq_true q8
              go_wp2
              go_roundg k1
              case measure => have := HK1.out; omega
              case rel => exact ⟨(wrap64 (x5_1 + 1)), (by first | rfl | (simp; done) | (simp [*]; done)), H', ⟨by have := HK1.out; omega⟩, by repeat (first | exact Drawn0.refl _ | apply Drawn0.step)⟩
            · rw [if_neg c9] at H
              have c9b0 : decide ((bt a0 (ji4)) ≤ 57) = false := decide_eq_false c9
              clear c9
              obtain rfl := Option.some.inj H
              have p6 : 0 ≤ ((ji4) : Int) := of_decide_eq_true (by first | (with_reducible assumption) | assumption)
              have q6 : (ji4) < (a0.size : Int) := of_decide_eq_true (by first | (with_reducible assumption) | assumption)
              have hx6 := bt_at a0 (ji4)
              replace p6 := eq_true p6
              replace q6 := eq_true q6
              have p8 : 0 ≤ ((ji4) : Int) := of_decide_eq_true (by first | (with_reducible assumption) | assumption)
              have q8 : (ji4) < (a0.size : Int) := of_decide_eq_true (by first | (with_reducible assumption) | assumption)
              have hx8 := bt_at a0 (ji4)
              replace p8 := eq_true p8
              replace q8 := eq_true q8
              go_wp2
              go_ret
              exact ⟨by first | rfl | (simp; done) | (simp only [← hji4] <;> (first | rfl | simp)) | (simp [*]; done), by repeat (first | exact Drawn0.refl _ | apply Drawn0.step)⟩
          · rw [if_neg c7] at H
            have c7b0 : decide (48 ≤ (bt a0 (ji4))) = false := decide_eq_false c7
            clear c7
            obtain rfl := Option.some.inj H
            have p6 : 0 ≤ ((ji4) : Int) := of_decide_eq_true (by first | (with_reducible assumption) | assumption)
            have q6 : (ji4) < (a0.size : Int) := of_decide_eq_true (by first | (with_reducible assumption) | assumption)
            have hx6 := bt_at a0 (ji4)
            replace p6 := eq_true p6
            replace q6 := eq_true q6
            go_wp2
            go_ret
            exact ⟨by first | rfl | (simp; done) | (simp only [← hji4] <;> (first | rfl | simp)) | (simp [*]; done), by repeat (first | exact Drawn0.refl _ | apply Drawn0.step)⟩
        · rw [if_neg c5] at H
          exact absurd H (by simp)
      · rw [if_neg c3] at H
        have c3b0 : decide ((wrap64 (a1 + x5_1)) < (a0.size : Int)) = false := decide_eq_false c3
        clear c3
        obtain rfl := Option.some.inj H
        go_wp2
        go_ret
        exact ⟨by first | rfl | (simp; done) | (simp [*]; done), by repeat (first | exact Drawn0.refl _ | apply Drawn0.step)⟩

/-! ### tiltyardref03_Parse: function 34 -/
mutual
def tiltyardref03_Parse.j0 : Nat → ByteArray → Int → Bool → Option (Int × Int)
  | 0, _, _, _ => none
  | k + 1, x0, x4, x42 => if x42 = true then (some (0, 20)) else ((tiltyardref03_digits.f k x0 (wrap64 (x4 + 1))).bind fun t182 => (if t182 < 1 then (tiltyardref03_Parse.j1 k x0 x4 true) else (if t182 > 32 then (tiltyardref03_Parse.j1 k x0 x4 true) else (tiltyardref03_Parse.j1 k x0 x4 ((wrap64 ((wrap64 (x4 + 1)) + t182)) != (x0.size : Int))))))
def tiltyardref03_Parse.j1 : Nat → ByteArray → Int → Bool → Option (Int × Int)
  | 0, _, _, _ => none
  | k + 1, x0, x4, x61 => if x61 = true then (some (0, 20)) else (tiltyardref03_Parse.l0 k x0 x4 0 0)
def tiltyardref03_Parse.l0 : Nat → ByteArray → Int → Int → Int → Option (Int × Int)
  | 0, _, _, _, _ => none
  | k + 1, x0, x4, x6, x7 => if x7 < x4 then (if 0 ≤ x7 then (if x7 < (x0.size : Int) then (tiltyardref03_Parse.l0 k x0 x4 (wrap64 ((wrap64 ((wrap64 (x6 * 10)) + (wrap64 (bt x0 x7)))) - 48)) (wrap64 (x7 + 1))) else (none)) else (none)) else (if x6 > 2147483647 then (some (0, 20)) else (tiltyardref03_Parse.l1 k x0 x6 ([] : List Int) (wrap64 (x4 + 1))))
def tiltyardref03_Parse.l1 : Nat → ByteArray → Int → List Int → Int → Option (Int × Int)
  | 0, _, _, _, _ => none
  | k + 1, x0, x6, x8, x9 => if x9 < (x0.size : Int) then (if 0 ≤ x9 then (if x8.length < 17592186044416 then (tiltyardref03_Parse.l1 k x0 x6 (x8 ++ [wrap64 ((wrap64 (bt x0 x9)) - 48)]) (wrap64 (x9 + 1))) else (none)) else (none)) else (tiltyardref03_Parse.l2 k x6 x8 0)
def tiltyardref03_Parse.l2 : Nat → Int → List Int → Int → Option (Int × Int)
  | 0, _, _, _ => none
  | k + 1, x6, x8, x10 => if x10 < 32 then (tiltyardref03_Parse.l3 k x6 x8 x10 0 (wrap64 ((x8.length : Int) - 1))) else (some (x6, 0))
def tiltyardref03_Parse.l3 : Nat → Int → List Int → Int → Int → Int → Option (Int × Int)
  | 0, _, _, _, _, _ => none
  | k + 1, x6, x8, x10, x11, x12 => if x12 ≥ 0 then (if 0 ≤ x12 then (if x12 < (x8.length : Int) then (tiltyardref03_Parse.l3 k x6 (x8.set (x12 : Int).toNat (Int.tmod (wrap64 ((wrap64 (2 * (rd x8 x12))) + x11)) 10)) x10 (wrap64 (Int.tdiv (wrap64 ((wrap64 (2 * (rd x8 x12))) + x11)) 10)) (wrap64 (x12 - 1))) else (none)) else (none)) else (tiltyardref03_Parse.l2 k (wrap64 ((wrap64 (2 * x6)) + x11)) x8 (wrap64 (x10 + 1)))
end
def tiltyardref03_Parse.f (k : Nat) (a0 : ByteArray) : Option (Int × Int) := (tiltyardref03_digits.f k a0 0).bind fun t181 => (if t181 < 1 then (tiltyardref03_Parse.j0 k a0 t181 true) else (if t181 > 10 then (tiltyardref03_Parse.j0 k a0 t181 true) else (if t181 > 1 then (if 0 < (a0.size : Int) then (if (bt a0 0) = 48 then (tiltyardref03_Parse.j0 k a0 t181 true) else (if t181 ≥ (a0.size : Int) then (tiltyardref03_Parse.j0 k a0 t181 true) else (if 0 ≤ t181 then (if t181 < (a0.size : Int) then (tiltyardref03_Parse.j0 k a0 t181 ((bt a0 t181) != 46)) else (none)) else (none)))) else (none)) else (if t181 ≥ (a0.size : Int) then (tiltyardref03_Parse.j0 k a0 t181 true) else (if 0 ≤ t181 then (if t181 < (a0.size : Int) then (tiltyardref03_Parse.j0 k a0 t181 ((bt a0 t181) != 46)) else (none)) else (none))))))
theorem tiltyardref03_Parse.mono_l : ∀ k, (∀ y0 y1 y2, LeO (tiltyardref03_Parse.j0 k y0 y1 y2) (tiltyardref03_Parse.j0 (k + 1) y0 y1 y2)) ∧ (∀ y0 y1 y2, LeO (tiltyardref03_Parse.j1 k y0 y1 y2) (tiltyardref03_Parse.j1 (k + 1) y0 y1 y2)) ∧ (∀ y0 y1 y2 y3, LeO (tiltyardref03_Parse.l0 k y0 y1 y2 y3) (tiltyardref03_Parse.l0 (k + 1) y0 y1 y2 y3)) ∧ (∀ y0 y1 y2 y3, LeO (tiltyardref03_Parse.l1 k y0 y1 y2 y3) (tiltyardref03_Parse.l1 (k + 1) y0 y1 y2 y3)) ∧ (∀ y0 y1 y2, LeO (tiltyardref03_Parse.l2 k y0 y1 y2) (tiltyardref03_Parse.l2 (k + 1) y0 y1 y2)) ∧ (∀ y0 y1 y2 y3 y4, LeO (tiltyardref03_Parse.l3 k y0 y1 y2 y3 y4) (tiltyardref03_Parse.l3 (k + 1) y0 y1 y2 y3 y4))
  | 0 => ⟨fun _ _ _ r h => by simp [tiltyardref03_Parse.j0] at h, fun _ _ _ r h => by simp [tiltyardref03_Parse.j1] at h, fun _ _ _ _ r h => by simp [tiltyardref03_Parse.l0] at h, fun _ _ _ _ r h => by simp [tiltyardref03_Parse.l1] at h, fun _ _ _ r h => by simp [tiltyardref03_Parse.l2] at h, fun _ _ _ _ _ r h => by simp [tiltyardref03_Parse.l3] at h⟩
  | k + 1 => by
    obtain ⟨ih0, ih1, ih2, ih3, ih4, ih5⟩ := tiltyardref03_Parse.mono_l k
    refine ⟨?_, ?_, ?_, ?_, ?_, ?_⟩
    · intro y0 y1 y2
      unfold tiltyardref03_Parse.j0
      repeat' first
      | (with_reducible exact ih0 _ _ _)
      | (with_reducible exact ih1 _ _ _)
      | (with_reducible exact ih2 _ _ _ _)
      | (with_reducible exact ih3 _ _ _ _)
      | (with_reducible exact ih4 _ _ _)
      | (with_reducible exact ih5 _ _ _ _ _)
      | (with_reducible exact tiltyardref03_digits.mono _ _ _)
      | (with_reducible exact LeO.refl _)
      | (with_reducible exact LeO.none _)
      | (with_reducible refine LeO.ite ?_ ?_)
      | (with_reducible refine LeO.bind ?_ (fun _ => ?_))
      | exact ih0 _ _ _
      | exact ih1 _ _ _
      | exact ih2 _ _ _ _
      | exact ih3 _ _ _ _
      | exact ih4 _ _ _
      | exact ih5 _ _ _ _ _
      | exact tiltyardref03_digits.mono _ _ _
      | exact LeO.none _
      | refine LeO.ite ?_ ?_
      | refine LeO.bind ?_ (fun _ => ?_)
    · intro y0 y1 y2
      unfold tiltyardref03_Parse.j1
      repeat' first
      | (with_reducible exact ih0 _ _ _)
      | (with_reducible exact ih1 _ _ _)
      | (with_reducible exact ih2 _ _ _ _)
      | (with_reducible exact ih3 _ _ _ _)
      | (with_reducible exact ih4 _ _ _)
      | (with_reducible exact ih5 _ _ _ _ _)
      | (with_reducible exact tiltyardref03_digits.mono _ _ _)
      | (with_reducible exact LeO.refl _)
      | (with_reducible exact LeO.none _)
      | (with_reducible refine LeO.ite ?_ ?_)
      | (with_reducible refine LeO.bind ?_ (fun _ => ?_))
      | exact ih0 _ _ _
      | exact ih1 _ _ _
      | exact ih2 _ _ _ _
      | exact ih3 _ _ _ _
      | exact ih4 _ _ _
      | exact ih5 _ _ _ _ _
      | exact tiltyardref03_digits.mono _ _ _
      | exact LeO.none _
      | refine LeO.ite ?_ ?_
      | refine LeO.bind ?_ (fun _ => ?_)
    · intro y0 y1 y2 y3
      unfold tiltyardref03_Parse.l0
      repeat' first
      | (with_reducible exact ih0 _ _ _)
      | (with_reducible exact ih1 _ _ _)
      | (with_reducible exact ih2 _ _ _ _)
      | (with_reducible exact ih3 _ _ _ _)
      | (with_reducible exact ih4 _ _ _)
      | (with_reducible exact ih5 _ _ _ _ _)
      | (with_reducible exact tiltyardref03_digits.mono _ _ _)
      | (with_reducible exact LeO.refl _)
      | (with_reducible exact LeO.none _)
      | (with_reducible refine LeO.ite ?_ ?_)
      | (with_reducible refine LeO.bind ?_ (fun _ => ?_))
      | exact ih0 _ _ _
      | exact ih1 _ _ _
      | exact ih2 _ _ _ _
      | exact ih3 _ _ _ _
      | exact ih4 _ _ _
      | exact ih5 _ _ _ _ _
      | exact tiltyardref03_digits.mono _ _ _
      | exact LeO.none _
      | refine LeO.ite ?_ ?_
      | refine LeO.bind ?_ (fun _ => ?_)
    · intro y0 y1 y2 y3
      unfold tiltyardref03_Parse.l1
      repeat' first
      | (with_reducible exact ih0 _ _ _)
      | (with_reducible exact ih1 _ _ _)
      | (with_reducible exact ih2 _ _ _ _)
      | (with_reducible exact ih3 _ _ _ _)
      | (with_reducible exact ih4 _ _ _)
      | (with_reducible exact ih5 _ _ _ _ _)
      | (with_reducible exact tiltyardref03_digits.mono _ _ _)
      | (with_reducible exact LeO.refl _)
      | (with_reducible exact LeO.none _)
      | (with_reducible refine LeO.ite ?_ ?_)
      | (with_reducible refine LeO.bind ?_ (fun _ => ?_))
      | exact ih0 _ _ _
      | exact ih1 _ _ _
      | exact ih2 _ _ _ _
      | exact ih3 _ _ _ _
      | exact ih4 _ _ _
      | exact ih5 _ _ _ _ _
      | exact tiltyardref03_digits.mono _ _ _
      | exact LeO.none _
      | refine LeO.ite ?_ ?_
      | refine LeO.bind ?_ (fun _ => ?_)
    · intro y0 y1 y2
      unfold tiltyardref03_Parse.l2
      repeat' first
      | (with_reducible exact ih0 _ _ _)
      | (with_reducible exact ih1 _ _ _)
      | (with_reducible exact ih2 _ _ _ _)
      | (with_reducible exact ih3 _ _ _ _)
      | (with_reducible exact ih4 _ _ _)
      | (with_reducible exact ih5 _ _ _ _ _)
      | (with_reducible exact tiltyardref03_digits.mono _ _ _)
      | (with_reducible exact LeO.refl _)
      | (with_reducible exact LeO.none _)
      | (with_reducible refine LeO.ite ?_ ?_)
      | (with_reducible refine LeO.bind ?_ (fun _ => ?_))
      | exact ih0 _ _ _
      | exact ih1 _ _ _
      | exact ih2 _ _ _ _
      | exact ih3 _ _ _ _
      | exact ih4 _ _ _
      | exact ih5 _ _ _ _ _
      | exact tiltyardref03_digits.mono _ _ _
      | exact LeO.none _
      | refine LeO.ite ?_ ?_
      | refine LeO.bind ?_ (fun _ => ?_)
    · intro y0 y1 y2 y3 y4
      unfold tiltyardref03_Parse.l3
      repeat' first
      | (with_reducible exact ih0 _ _ _)
      | (with_reducible exact ih1 _ _ _)
      | (with_reducible exact ih2 _ _ _ _)
      | (with_reducible exact ih3 _ _ _ _)
      | (with_reducible exact ih4 _ _ _)
      | (with_reducible exact ih5 _ _ _ _ _)
      | (with_reducible exact tiltyardref03_digits.mono _ _ _)
      | (with_reducible exact LeO.refl _)
      | (with_reducible exact LeO.none _)
      | (with_reducible refine LeO.ite ?_ ?_)
      | (with_reducible refine LeO.bind ?_ (fun _ => ?_))
      | exact ih0 _ _ _
      | exact ih1 _ _ _
      | exact ih2 _ _ _ _
      | exact ih3 _ _ _ _
      | exact ih4 _ _ _
      | exact ih5 _ _ _ _ _
      | exact tiltyardref03_digits.mono _ _ _
      | exact LeO.none _
      | refine LeO.ite ?_ ?_
      | refine LeO.bind ?_ (fun _ => ?_)
theorem tiltyardref03_Parse.mono : ∀ a0 k, LeO (tiltyardref03_Parse.f k a0) (tiltyardref03_Parse.f (k + 1) a0) := by
  intro a0 k
  obtain ⟨ih0, ih1, ih2, ih3, ih4, ih5⟩ := tiltyardref03_Parse.mono_l k
  unfold tiltyardref03_Parse.f
  repeat' first
      | (with_reducible exact ih0 _ _ _)
      | (with_reducible exact ih1 _ _ _)
      | (with_reducible exact ih2 _ _ _ _)
      | (with_reducible exact ih3 _ _ _ _)
      | (with_reducible exact ih4 _ _ _)
      | (with_reducible exact ih5 _ _ _ _ _)
      | (with_reducible exact tiltyardref03_digits.mono _ _ _)
      | (with_reducible exact LeO.refl _)
      | (with_reducible exact LeO.none _)
      | (with_reducible refine LeO.ite ?_ ?_)
      | (with_reducible refine LeO.bind ?_ (fun _ => ?_))
      | exact ih0 _ _ _
      | exact ih1 _ _ _
      | exact ih2 _ _ _ _
      | exact ih3 _ _ _ _
      | exact ih4 _ _ _
      | exact ih5 _ _ _ _ _
      | exact tiltyardref03_digits.mono _ _ _
      | exact LeO.none _
      | refine LeO.ite ?_ ?_
      | refine LeO.bind ?_ (fun _ => ?_)
set_option maxHeartbeats 8000000 in
set_option maxRecDepth 100000 in
theorem tiltyardref03_Parse.calls (k : Nat) (a0 : ByteArray) (r1 : Int) (r2 : Int) (w : World) (h : tiltyardref03_Parse.f k a0 = some (r1, r2)) :
    Calls Tryd.prog 34 #[.string a0] w fun e w' => e = .returned (.tuple #[.int .i64 r1, .int .i64 r2]) ∧ Below w.heap.size w w' := by
  have HB := Aside0.mk (Below.refl w.heap.size w)
  have H : ((tiltyardref03_digits.f k a0 0).bind fun t181 => (if t181 < 1 then (tiltyardref03_Parse.j0 k a0 t181 true) else (if t181 > 10 then (tiltyardref03_Parse.j0 k a0 t181 true) else (if t181 > 1 then (if 0 < (a0.size : Int) then (if (bt a0 0) = 48 then (tiltyardref03_Parse.j0 k a0 t181 true) else (if t181 ≥ (a0.size : Int) then (tiltyardref03_Parse.j0 k a0 t181 true) else (if 0 ≤ t181 then (if t181 < (a0.size : Int) then (tiltyardref03_Parse.j0 k a0 t181 ((bt a0 t181) != 46)) else (none)) else (none)))) else (none)) else (if t181 ≥ (a0.size : Int) then (tiltyardref03_Parse.j0 k a0 t181 true) else (if 0 ≤ t181 then (if t181 < (a0.size : Int) then (tiltyardref03_Parse.j0 k a0 t181 ((bt a0 t181) != 46)) else (none)) else (none))))))) = some (r1, r2) := h
  clear h
  replace H := Option.bind_eq_some_iff.mp H
  obtain ⟨t181, A20, H⟩ := H
  replace H : (if t181 < 1 then (tiltyardref03_Parse.j0 k a0 t181 true) else (if t181 > 10 then (tiltyardref03_Parse.j0 k a0 t181 true) else (if t181 > 1 then (if 0 < (a0.size : Int) then (if (bt a0 0) = 48 then (tiltyardref03_Parse.j0 k a0 t181 true) else (if t181 ≥ (a0.size : Int) then (tiltyardref03_Parse.j0 k a0 t181 true) else (if 0 ≤ t181 then (if t181 < (a0.size : Int) then (tiltyardref03_Parse.j0 k a0 t181 ((bt a0 t181) != 46)) else (none)) else (none)))) else (none)) else (if t181 ≥ (a0.size : Int) then (tiltyardref03_Parse.j0 k a0 t181 true) else (if 0 ≤ t181 then (if t181 < (a0.size : Int) then (tiltyardref03_Parse.j0 k a0 t181 ((bt a0 t181) != 46)) else (none)) else (none)))))) = some (r1, r2) := H
  have A2 := Aside0.mk A20
  clear A20
  have HC3 := Aside0.mk H
  clear H
  go_enter Tryd.func34, Tryd.ntmps34
  go_upto_region 2 with (first | ((with_reducible refine gate_callee (f := 41) rfl ?_); refine goesL_ (some 15) rfl rfl Tryd.func41 (by kernel_rfl) rfl #[.string a0, .int .i64 0] rfl (by (try simp only [List.map_toArray, List.map_cons, List.map_nil]); first | done | rfl | (simp only [List.length_drop, List.length_take]; rfl)) ?_; (with_reducible refine (tiltyardref03_digits.calls k a0 0 t181 _ A2.out).mono ?_); rintro e w' ⟨rfl, ⟨nd, rfl⟩⟩; refine ⟨_, rfl, ?_⟩))
  (try simp only [Act.put, List.setIfInBounds_toArray, List.set_cons_zero, List.set_cons_succ])
  go_cut [42] (fun v42 wc => ∃ (kq : Nat) (x42_2 : Bool), v42 = .bool x42_2 ∧ Aside0 (tiltyardref03_Parse.j0 kq a0 t181 x42_2 = some (r1, r2)) ∧ Aside0 (kq ≤ k) ∧ Aside0 (Below w.heap.size w wc))
  case first =>
    have H := HC3.out
    clear HC3
    by_cases c4 : t181 < 1
    · rw [if_pos c4] at H
      have c4b0 : decide (t181 < 1) = true := decide_eq_true c4
      clear c4
      (first | rw [c4b0] | (simp only [i64_w, i32_w]; rw [c4b0]) | skip)
      have H' := Aside0.mk H
      clear H
      go_wp2
      go_meet
      case rel => exact ⟨_, (true), (by first | rfl | (simp; done) | (simp [*]; done)), H', ⟨by first | omega | exact Nat.le_refl _⟩, ⟨by repeat (first | (with_reducible first | exact HB.out | apply below_alloc | apply pw_below_drewN | apply below_drew1) | exact HB.out)⟩⟩
    · rw [if_neg c4] at H
      have c4b0 : decide (t181 < 1) = false := decide_eq_false c4
      clear c4
      (first | rw [c4b0] | (simp only [i64_w, i32_w]; rw [c4b0]) | skip)
      by_cases c5 : t181 > 10
      · rw [if_pos c5] at H
        have c5b0 : decide (10 < t181) = true := decide_eq_true c5
        clear c5
        have H' := Aside0.mk H
        clear H
        go_wp2
        go_meet
        case rel => exact ⟨_, (true), (by first | rfl | (simp; done) | (simp [*]; done)), H', ⟨by first | omega | exact Nat.le_refl _⟩, ⟨by repeat (first | (with_reducible first | exact HB.out | apply below_alloc | apply pw_below_drewN | apply below_drew1) | exact HB.out)⟩⟩
      · rw [if_neg c5] at H
        have c5b0 : decide (10 < t181) = false := decide_eq_false c5
        clear c5
        by_cases c6 : t181 > 1
        · rw [if_pos c6] at H
          have c6b0 : decide (1 < t181) = true := decide_eq_true c6
          clear c6
          by_cases c7 : 0 < (a0.size : Int)
          · rw [if_pos c7] at H
            have c7b0 : decide (0 < (a0.size : Int)) = true := decide_eq_true c7
            have c7b1 : decide (0 < a0.size) = true := decide_eq_true (by omega)
            clear c7
            by_cases c9 : (bt a0 0) = 48
            · rw [if_pos c9] at H
              have c9b0 : ((bt a0 0) == 48) = true := beq_iff_eq.mpr c9
              have c9b1 : ((bt a0 0) != 48) = false := bne_eq_false_iff_eq.mpr c9
              clear c9
              have H' := Aside0.mk H
              clear H
              have p8 : 0 ≤ (0 : Int) := (by omega)
              have q8 : 0 < a0.size := (by have : (0 : Int) < (a0.size : Int) := of_decide_eq_true (by first | (with_reducible assumption) | assumption); omega)
              have hx8 : ∀ h : 0 < a0.size, ((a0[0]'h).toNat : Int) = bt a0 0 := bt_at a0 0
              clear p8
              have qi8 : (0 < (a0.size : Int)) = True := eq_true (of_decide_eq_true (by first | (with_reducible assumption) | assumption))
              replace q8 := eq_true q8
              go_wp2
              go_meet
              case rel => exact ⟨_, (true), (by first | rfl | (simp; done) | (simp [*]; done)), H', ⟨by first | omega | exact Nat.le_refl _⟩, ⟨by repeat (first | (with_reducible first | exact HB.out | apply below_alloc | apply pw_below_drewN | apply below_drew1) | exact HB.out)⟩⟩
            · rw [if_neg c9] at H
              have c9b0 : ((bt a0 0) == 48) = false := beq_eq_false_iff_ne.mpr c9
              have c9b1 : ((bt a0 0) != 48) = true := bne_iff_ne.mpr c9
              by_cases c10 : t181 ≥ (a0.size : Int)
              · rw [if_pos c10] at H
                have c10b0 : decide ((a0.size : Int) ≤ t181) = true := decide_eq_true c10
                clear c10
                have H' := Aside0.mk H
                clear H
                have p8 : 0 ≤ (0 : Int) := (by omega)
                have q8 : 0 < a0.size := (by have : (0 : Int) < (a0.size : Int) := of_decide_eq_true (by first | (with_reducible assumption) | assumption); omega)
                have hx8 : ∀ h : 0 < a0.size, ((a0[0]'h).toNat : Int) = bt a0 0 := bt_at a0 0
                clear p8
                have qi8 : (0 < (a0.size : Int)) = True := eq_true (of_decide_eq_true (by first | (with_reducible assumption) | assumption))
                replace q8 := eq_true q8
                go_wp2
                go_meet
                case rel => exact ⟨_, (true), (by first | rfl | (simp; done) | (simp [*]; done)), H', ⟨by first | omega | exact Nat.le_refl _⟩, ⟨by repeat (first | (with_reducible first | exact HB.out | apply below_alloc | apply pw_below_drewN | apply below_drew1) | exact HB.out)⟩⟩
              · rw [if_neg c10] at H
                have c10b0 : decide ((a0.size : Int) ≤ t181) = false := decide_eq_false c10
                clear c10
                by_cases c11 : 0 ≤ t181
                · rw [if_pos c11] at H
                  have c11b0 : decide (0 ≤ t181) = true := decide_eq_true c11
                  clear c11
                  by_cases c12 : t181 < (a0.size : Int)
                  · rw [if_pos c12] at H
                    have c12b0 : decide (t181 < (a0.size : Int)) = true := decide_eq_true c12
                    clear c12
                    have H' := Aside0.mk H
                    clear H
                    have p8 : 0 ≤ (0 : Int) := (by omega)
                    have q8 : 0 < a0.size := (by have : (0 : Int) < (a0.size : Int) := of_decide_eq_true (by first | (with_reducible assumption) | assumption); omega)
                    have hx8 : ∀ h : 0 < a0.size, ((a0[0]'h).toNat : Int) = bt a0 0 := bt_at a0 0
                    clear p8
                    have qi8 : (0 < (a0.size : Int)) = True := eq_true (of_decide_eq_true (by first | (with_reducible assumption) | assumption))
                    replace q8 := eq_true q8
                    have p13 : 0 ≤ (t181 : Int) := of_decide_eq_true (by first | (with_reducible assumption) | assumption)
                    have q13 : t181 < (a0.size : Int) := of_decide_eq_true (by first | (with_reducible assumption) | assumption)
                    have hx13 := bt_at a0 t181
                    replace p13 := eq_true p13
                    replace q13 := eq_true q13
                    go_wp2
                    go_meet
                    case rel => exact ⟨_, (((bt a0 t181) != 46)), (by first | rfl | (simp; done) | (simp [*]; done)), H', ⟨by first | omega | exact Nat.le_refl _⟩, ⟨by repeat (first | (with_reducible first | exact HB.out | apply below_alloc | apply pw_below_drewN | apply below_drew1) | exact HB.out)⟩⟩
                  · rw [if_neg c12] at H
                    exact absurd H (by simp)
                · rw [if_neg c11] at H
                  exact absurd H (by simp)
          · rw [if_neg c7] at H
            exact absurd H (by simp)
        · rw [if_neg c6] at H
          have c6b0 : decide (1 < t181) = false := decide_eq_false c6
          clear c6
          by_cases c14 : t181 ≥ (a0.size : Int)
          · rw [if_pos c14] at H
            have c14b0 : decide ((a0.size : Int) ≤ t181) = true := decide_eq_true c14
            clear c14
            have H' := Aside0.mk H
            clear H
            go_wp2
            go_meet
            case rel => exact ⟨_, (true), (by first | rfl | (simp; done) | (simp [*]; done)), H', ⟨by first | omega | exact Nat.le_refl _⟩, ⟨by repeat (first | (with_reducible first | exact HB.out | apply below_alloc | apply pw_below_drewN | apply below_drew1) | exact HB.out)⟩⟩
          · rw [if_neg c14] at H
            have c14b0 : decide ((a0.size : Int) ≤ t181) = false := decide_eq_false c14
            clear c14
            by_cases c15 : 0 ≤ t181
            · rw [if_pos c15] at H
              have c15b0 : decide (0 ≤ t181) = true := decide_eq_true c15
              clear c15
              by_cases c16 : t181 < (a0.size : Int)
              · rw [if_pos c16] at H
                have c16b0 : decide (t181 < (a0.size : Int)) = true := decide_eq_true c16
                clear c16
                have H' := Aside0.mk H
                clear H
                have p17 : 0 ≤ (t181 : Int) := of_decide_eq_true (by first | (with_reducible assumption) | assumption)
                have q17 : t181 < (a0.size : Int) := of_decide_eq_true (by first | (with_reducible assumption) | assumption)
                have hx17 := bt_at a0 t181
                replace p17 := eq_true p17
                replace q17 := eq_true q17
                go_wp2
                go_meet
                case rel => exact ⟨_, (((bt a0 t181) != 46)), (by first | rfl | (simp; done) | (simp [*]; done)), H', ⟨by first | omega | exact Nat.le_refl _⟩, ⟨by repeat (first | (with_reducible first | exact HB.out | apply below_alloc | apply pw_below_drewN | apply below_drew1) | exact HB.out)⟩⟩
              · rw [if_neg c16] at H
                exact absurd H (by simp)
            · rw [if_neg c15] at H
              exact absurd H (by simp)
  case rest =>
    clear HC3
    try clear c1
    try clear p1
    try clear q1
    try clear hx1
    try clear p2
    try clear c3
    try clear c4
    try clear c4b0
    try clear c5
    try clear c5b0
    try clear c6
    try clear c6b0
    try clear c7
    try clear c7b0
    try clear c7b1
    try clear p8
    try clear q8
    try clear hx8
    try clear qi8
    try clear c9
    try clear c9b0
    try clear c9b1
    try clear c10
    try clear c10b0
    try clear c11
    try clear c11b0
    try clear c12
    try clear c12b0
    try clear p13
    try clear q13
    try clear hx13
    try clear c14
    try clear c14b0
    try clear c15
    try clear c15b0
    try clear c16
    try clear c16b0
    try clear p17
    try clear q17
    try clear hx17
    try clear p13
    try clear p17
    try clear p8
    try clear q13
    try clear q17
    try clear q8
    obtain ⟨kq, x42_2, rfl, HA, HJ2, HB⟩ := hcut
    cases kq with
    | zero => exact absurd HA.out (by simp [tiltyardref03_Parse.j0])
    | succ kj2 =>
      have H := HA.out
      clear HA
      simp only [tiltyardref03_Parse.j0] at H
      by_cases c18 : x42_2 = true
      · subst c18
        have H1 : (some (0, 20)) = some (r1, r2) := by rw [if_pos rfl] at H; exact H
        clear H
        have H := H1
        clear H1
        simp only [Option.some.injEq, Prod.mk.injEq] at H
        obtain ⟨rfl, rfl⟩ := H
        go_wp2
        go_ret2
        exact ⟨by first | rfl | (simp [errW_none, errW_some] <;> rfl) | (simp [*, errW_none, errW_some] <;> rfl), by repeat (first | (with_reducible first | exact HB.out | apply below_alloc | apply pw_below_drewN | apply below_drew1) | exact HB.out)⟩
      · replace c18 := Bool.eq_false_iff.mpr c18
        subst c18
        have H1 : ((tiltyardref03_digits.f kj2 a0 (wrap64 (t181 + 1))).bind fun t182 => (if t182 < 1 then (tiltyardref03_Parse.j1 kj2 a0 t181 true) else (if t182 > 32 then (tiltyardref03_Parse.j1 kj2 a0 t181 true) else (tiltyardref03_Parse.j1 kj2 a0 t181 ((wrap64 ((wrap64 (t181 + 1)) + t182)) != (a0.size : Int)))))) = some (r1, r2) := by rw [if_neg (show ¬ (false = true) by decide)] at H; exact H
        clear H
        have H := H1
        clear H1
        replace H := Option.bind_eq_some_iff.mp H
        obtain ⟨t182, A190, H⟩ := H
        replace H : (if t182 < 1 then (tiltyardref03_Parse.j1 kj2 a0 t181 true) else (if t182 > 32 then (tiltyardref03_Parse.j1 kj2 a0 t181 true) else (tiltyardref03_Parse.j1 kj2 a0 t181 ((wrap64 ((wrap64 (t181 + 1)) + t182)) != (a0.size : Int))))) = some (r1, r2) := H
        have A19 := Aside0.mk A190
        clear A190
        have HC20 := Aside0.mk H
        clear H
        go_upto_region 5 with (first | ((with_reducible refine gate_callee (f := 41) rfl ?_); refine goesL_ (some 46) rfl rfl Tryd.func41 (by kernel_rfl) rfl #[.string a0, .int .i64 (wrap64 (t181 + 1))] rfl (by (try simp only [List.map_toArray, List.map_cons, List.map_nil]); first | done | rfl | (simp only [List.length_drop, List.length_take]; rfl)) ?_; (with_reducible refine (tiltyardref03_digits.calls kj2 a0 (wrap64 (t181 + 1)) t182 _ A19.out).mono ?_); rintro e w' ⟨rfl, ⟨nd, rfl⟩⟩; refine ⟨_, rfl, ?_⟩))
        (try simp only [Act.put, List.setIfInBounds_toArray, List.set_cons_zero, List.set_cons_succ])
        go_cut [61] (fun v61 wc => ∃ (kq : Nat) (x61_19 : Bool), v61 = .bool x61_19 ∧ Aside0 (tiltyardref03_Parse.j1 kq a0 t181 x61_19 = some (r1, r2)) ∧ Aside0 (kq ≤ kj2) ∧ Aside0 (Below w.heap.size w wc))
        case first =>
          have H := HC20.out
          clear HC20
          by_cases c21 : t182 < 1
          · rw [if_pos c21] at H
            have c21b0 : decide (t182 < 1) = true := decide_eq_true c21
            clear c21
            (first | rw [c21b0] | (simp only [i64_w, i32_w]; rw [c21b0]) | skip)
            have H' := Aside0.mk H
            clear H
            go_wp2
            go_meet
            case rel => exact ⟨_, (true), (by first | rfl | (simp; done) | (simp [*]; done)), H', ⟨by have := HJ2.out; first | omega | exact Nat.le_refl _⟩, ⟨by repeat (first | (with_reducible first | exact HB.out | apply below_alloc | apply pw_below_drewN | apply below_drew1) | exact HB.out)⟩⟩
          · rw [if_neg c21] at H
            have c21b0 : decide (t182 < 1) = false := decide_eq_false c21
            clear c21
            (first | rw [c21b0] | (simp only [i64_w, i32_w]; rw [c21b0]) | skip)
            by_cases c22 : t182 > 32
            · rw [if_pos c22] at H
              have c22b0 : decide (32 < t182) = true := decide_eq_true c22
              clear c22
              have H' := Aside0.mk H
              clear H
              go_wp2
              go_meet
              case rel => exact ⟨_, (true), (by first | rfl | (simp; done) | (simp [*]; done)), H', ⟨by have := HJ2.out; first | omega | exact Nat.le_refl _⟩, ⟨by repeat (first | (with_reducible first | exact HB.out | apply below_alloc | apply pw_below_drewN | apply below_drew1) | exact HB.out)⟩⟩
            · rw [if_neg c22] at H
              have c22b0 : decide (32 < t182) = false := decide_eq_false c22
              clear c22
              have H' := Aside0.mk H
              clear H
              go_wp2
              go_meet
              case rel => exact ⟨_, (((wrap64 ((wrap64 (t181 + 1)) + t182)) != (a0.size : Int))), (by first | rfl | (simp; done) | (simp [*]; done)), H', ⟨by have := HJ2.out; first | omega | exact Nat.le_refl _⟩, ⟨by repeat (first | (with_reducible first | exact HB.out | apply below_alloc | apply pw_below_drewN | apply below_drew1) | exact HB.out)⟩⟩
        case rest =>
          clear HC20
          try clear c1
          try clear p1
          try clear q1
          try clear hx1
          try clear c2
          try clear p2
          try clear c3
          try clear c4
          try clear c4b0
          try clear c5
          try clear c5b0
          try clear c6
          try clear c6b0
          try clear p6
          try clear c7
          try clear c7b0
          try clear c7b1
          try clear p8
          try clear q8
          try clear hx8
          try clear qi8
          try clear c9
          try clear c9b0
          try clear c9b1
          try clear c10
          try clear c10b0
          try clear c11
          try clear c11b0
          try clear c12
          try clear c12b0
          try clear p13
          try clear q13
          try clear hx13
          try clear c14
          try clear c14b0
          try clear c15
          try clear c15b0
          try clear c16
          try clear c16b0
          try clear p17
          try clear q17
          try clear hx17
          try clear c18
          try clear c21
          try clear c21b0
          try clear c22
          try clear c22b0
          try clear p1
          try clear p13
          try clear p17
          try clear p2
          try clear p8
          try clear q1
          try clear q13
          try clear q17
          try clear q8
          obtain ⟨kq, x61_19, rfl, HA, HJ19, HB⟩ := hcut
          cases kq with
          | zero => exact absurd HA.out (by simp [tiltyardref03_Parse.j1])
          | succ kj19 =>
            have H := HA.out
            clear HA
            simp only [tiltyardref03_Parse.j1] at H
            by_cases c23 : x61_19 = true
            · subst c23
              have H1 : (some (0, 20)) = some (r1, r2) := by rw [if_pos rfl] at H; exact H
              clear H
              have H := H1
              clear H1
              simp only [Option.some.injEq, Prod.mk.injEq] at H
              obtain ⟨rfl, rfl⟩ := H
              go_wp2
              go_ret2
              exact ⟨by first | rfl | (simp [errW_none, errW_some] <;> rfl) | (simp [*, errW_none, errW_some] <;> rfl), by repeat (first | (with_reducible first | exact HB.out | apply below_alloc | apply pw_below_drewN | apply below_drew1) | exact HB.out)⟩
            · replace c23 := Bool.eq_false_iff.mpr c23
              subst c23
              have H1 : (tiltyardref03_Parse.l0 kj19 a0 t181 0 0) = some (r1, r2) := by rw [if_neg (show ¬ (false = true) by decide)] at H; exact H
              clear H
              have H := H1
              clear H1
              have H' := Aside0.mk H
              clear H
              go_wp2
              go_loopg [6, 7] kj19 (fun kq v6 v7 w' => ∃ (x6_3 : Int) (x7_3 : Int), v6 = .int .i64 x6_3 ∧ v7 = .int .i64 x7_3 ∧ Aside0 (tiltyardref03_Parse.l0 kq a0 t181 x6_3 x7_3 = some (r1, r2)) ∧ Aside0 (kq ≤ kj19) ∧ Aside0 (Below w.heap.size w w'))
              case atStart => exact ⟨(0), (0), (by first | rfl | (simp; done) | (simp [*]; done)), (by first | rfl | (simp; done) | (simp [*]; done)), H', ⟨Nat.le_refl _⟩, ⟨by repeat (first | (with_reducible first | exact HB.out | apply below_alloc | apply pw_below_drewN | apply below_drew1) | exact HB.out)⟩⟩
              case round =>
                clear H'
                try clear c1
                try clear p1
                try clear q1
                try clear hx1
                try clear c2
                try clear p2
                try clear c3
                try clear c4
                try clear c4b0
                try clear c5
                try clear c5b0
                try clear c6
                try clear c6b0
                try clear p6
                try clear c7
                try clear c7b0
                try clear c7b1
                try clear p8
                try clear q8
                try clear hx8
                try clear qi8
                try clear c9
                try clear c9b0
                try clear c9b1
                try clear c10
                try clear c10b0
                try clear c11
                try clear c11b0
                try clear c12
                try clear c12b0
                try clear p13
                try clear q13
                try clear hx13
                try clear c14
                try clear c14b0
                try clear c15
                try clear c15b0
                try clear c16
                try clear c16b0
                try clear p17
                try clear q17
                try clear hx17
                try clear c18
                try clear c21
                try clear c21b0
                try clear c22
                try clear c22b0
                try clear c23
                try clear p1
                try clear p13
                try clear p17
                try clear p2
                try clear p6
                try clear p8
                try clear q1
                try clear q13
                try clear q17
                try clear q8
                obtain ⟨x6_3, x7_3, rfl, rfl, HA, HK3, HB⟩ := hrel
                cases gk with
                | zero => exact absurd HA.out (by simp [tiltyardref03_Parse.l0])
                | succ k3 =>
                  have H := HA.out
                  clear HA
                  simp only [tiltyardref03_Parse.l0] at H
                  by_cases c24 : x7_3 < t181
                  · rw [if_pos c24] at H
                    have c24b0 : decide (x7_3 < t181) = true := decide_eq_true c24
                    clear c24
                    by_cases c25 : 0 ≤ x7_3
                    · rw [if_pos c25] at H
                      have c25b0 : decide (0 ≤ x7_3) = true := decide_eq_true c25
                      clear c25
                      by_cases c26 : x7_3 < (a0.size : Int)
                      · rw [if_pos c26] at H
                        have c26b0 : decide (x7_3 < (a0.size : Int)) = true := decide_eq_true c26
                        clear c26
                        have H' := Aside0.mk H
                        clear H
                        have p27 : 0 ≤ (x7_3 : Int) := of_decide_eq_true (by first | (with_reducible assumption) | assumption)
                        have q27 : x7_3 < (a0.size : Int) := of_decide_eq_true (by first | (with_reducible assumption) | assumption)
                        have hx27 := bt_at a0 x7_3
                        replace p27 := eq_true p27
                        replace q27 := eq_true q27
                        go_wp2
                        go_roundg k3
                        case measure => have := HJ2.out; have := HJ19.out; have := HK3.out; omega
                        case rel => exact ⟨(wrap64 ((wrap64 ((wrap64 (x6_3 * 10)) + (wrap64 (bt a0 x7_3)))) - 48)), (wrap64 (x7_3 + 1)), (by first | rfl | (simp; done) | (simp [*]; done)), (by first | rfl | (simp; done) | (simp [*]; done)), H', ⟨by have := HJ2.out; have := HJ19.out; have := HK3.out; omega⟩, ⟨by repeat (first | (with_reducible first | exact HB.out | apply below_alloc | apply pw_below_drewN | apply below_drew1) | exact HB.out)⟩⟩
                      · rw [if_neg c26] at H
                        exact absurd H (by simp)
                    · rw [if_neg c25] at H
                      exact absurd H (by simp)
                  · rw [if_neg c24] at H
                    have c24b0 : decide (x7_3 < t181) = false := decide_eq_false c24
                    clear c24
                    by_cases c28 : x6_3 > 2147483647
                    · rw [if_pos c28] at H
                      have c28b0 : decide (2147483647 < x6_3) = true := decide_eq_true c28
                      clear c28
                      simp only [Option.some.injEq, Prod.mk.injEq] at H
                      obtain ⟨rfl, rfl⟩ := H
                      go_wp2
                      go_ret2
                      exact ⟨by first | rfl | (simp [errW_none, errW_some] <;> rfl) | (simp [*, errW_none, errW_some] <;> rfl), by repeat (first | (with_reducible first | exact HB.out | apply below_alloc | apply pw_below_drewN | apply below_drew1) | exact HB.out)⟩
                    · rw [if_neg c28] at H
                      have c28b0 : decide (2147483647 < x6_3) = false := decide_eq_false c28
                      clear c28
                      have H' := Aside0.mk H
                      clear H
                      go_wp2
                      go_loopg [8, 9] k3 (fun kq v8 v9 w' => ∃ (x8_4 : List Int) (x9_4 : Int), v9 = .int .i64 x9_4 ∧ Aside0 (tiltyardref03_Parse.l1 kq a0 x6_3 x8_4 x9_4 = some (r1, r2)) ∧ Aside0 (kq ≤ k3) ∧ Aside0 (Kd.R (Kd.int .i64) 3 w' w.heap.size (fun _ => True) v8 x8_4) ∧ Aside0 (Below w.heap.size w w'))
                      case atStart => exact ⟨(([] : List Int)), (wrap64 (t181 + 1)), (by first | rfl | (simp; done) | (simp [*]; done)), H', ⟨Nat.le_refl _⟩, ⟨by first | exact Kd.R_nil _ _ _ _ _ | exact Kd.N_nil _ _ _ _ _ | exact Kd.V_nil _ _ _ _ _ | exact Kd.Q_nil _ _ _ _ _ | exact Kd.S_nil _ _ _ _ _⟩, ⟨by repeat (first | (with_reducible first | exact HB.out | apply below_alloc | apply pw_below_drewN | apply below_drew1) | exact HB.out)⟩⟩
                      case round =>
                        clear H'
                        try clear c1
                        try clear p1
                        try clear q1
                        try clear hx1
                        try clear c2
                        try clear p2
                        try clear q2
                        try clear hx2
                        try clear c3
                        try clear c4
                        try clear c4b0
                        try clear c5
                        try clear c5b0
                        try clear c6
                        try clear c6b0
                        try clear p6
                        try clear c7
                        try clear c7b0
                        try clear c7b1
                        try clear p8
                        try clear q8
                        try clear hx8
                        try clear qi8
                        try clear c9
                        try clear c9b0
                        try clear c9b1
                        try clear c10
                        try clear c10b0
                        try clear c11
                        try clear c11b0
                        try clear c12
                        try clear c12b0
                        try clear p13
                        try clear q13
                        try clear hx13
                        try clear c14
                        try clear c14b0
                        try clear c15
                        try clear c15b0
                        try clear c16
                        try clear c16b0
                        try clear p17
                        try clear q17
                        try clear hx17
                        try clear c18
                        try clear c21
                        try clear c21b0
                        try clear c22
                        try clear c22b0
                        try clear c23
                        try clear c24
                        try clear c24b0
                        try clear c25
                        try clear c25b0
                        try clear c26
                        try clear c26b0
                        try clear p27
                        try clear q27
                        try clear hx27
                        try clear c28
                        try clear c28b0
                        try clear p1
                        try clear p13
                        try clear p17
                        try clear p2
                        try clear p27
                        try clear p6
                        try clear p8
                        try clear q1
                        try clear q13
                        try clear q17
                        try clear q27
                        try clear q8
                        obtain ⟨x8_4, x9_4, rfl, HA, HK4, HO_8, HB⟩ := hrel
                        cases gk with
                        | zero => exact absurd HA.out (by simp [tiltyardref03_Parse.l1])
                        | succ k4 =>
                          have H := HA.out
                          clear HA
                          simp only [tiltyardref03_Parse.l1] at H
                          by_cases c29 : x9_4 < (a0.size : Int)
                          · rw [if_pos c29] at H
                            have c29b0 : decide (x9_4 < (a0.size : Int)) = true := decide_eq_true c29
                            clear c29
                            by_cases c30 : 0 ≤ x9_4
                            · rw [if_pos c30] at H
                              have c30b0 : decide (0 ≤ x9_4) = true := decide_eq_true c30
                              clear c30
                              by_cases c32 : x8_4.length < 17592186044416
                              · rw [if_pos c32] at H
                                have LMc32 := Aside0.mk c32
                                clear c32
                                obtain ⟨y183, hy183⟩ : ∃ y_ : List Int, y_ = (x8_4 ++ [wrap64 ((wrap64 (bt a0 x9_4)) - 48)]) := ⟨_, rfl⟩
                                replace H : (tiltyardref03_Parse.l1 k4 a0 x6_3 y183 (wrap64 (x9_4 + 1))) = some (r1, r2) := by first | (rw [hy183]; with_reducible exact H) | (have H2_ := (Option.bind_some _ _).symm.trans H; rw [hy183]; with_reducible exact H2_) | (have H2_ := (Option.bind_some _ _).symm.trans H; with_reducible exact H2_) | with_reducible exact H | (rw [hy183]; exact H) | exact H
                                have Ny183 := Aside0.mk hy183
                                clear hy183
                                have H' := Aside0.mk H
                                clear H
                                have p31 : 0 ≤ (x9_4 : Int) := of_decide_eq_true (by first | (with_reducible assumption) | assumption)
                                have q31 : x9_4 < (a0.size : Int) := of_decide_eq_true (by first | (with_reducible assumption) | assumption)
                                have hx31 := bt_at a0 x9_4
                                replace p31 := eq_true p31
                                replace q31 := eq_true q31
                                go_wp2_with (first | ((with_reducible refine gate_builtin (b := .append) (xs := #[.tmp 85, .tmp 91]) rfl ?_); (try (refine gate_guard (by rfl) ?_; dsimp only)); at_builtin; refine Kd.R_append (Kd.int .i64) (w0 := w) w.heap.size rfl (.tmp 85) (.tmp 91) 56 3 (.int .i64 0) 8 rfl Tryd.underlying56 info3 rfl (by decide) (by omega) u8 x8_4 (wrap64 ((wrap64 (bt a0 x9_4)) - 48)) [.int .i64 (wrap64 ((wrap64 (bt a0 x9_4)) - 48))] (fun _ => True) (fun _ => False) rfl rfl ?aP (fun _ hk => hk.elim) ?aF ?aO ?aB ?aS ?aL ?_; (case aP => exact rfl); (case aB => exact (by repeat (first | (with_reducible first | exact HB.out | apply below_alloc | apply pw_below_drewN | apply below_drew1) | exact HB.out))); (case aF => exact (fun _ _ => trivial)); (case aO => exact (by (with_reducible repeat (first | apply Kd.R_alloc | apply Kd.R_drewN | apply Kd.R_drew)); exact HO_8.out)); (case aS => exact (below_size (by repeat (first | (with_reducible first | exact HB.out | apply below_alloc | apply pw_below_drewN | apply below_drew1) | exact HB.out)))); (case aL => have := LMc32.out; omega); intro v184 w33 ho hb hg hat; rw [← Ny183.out] at ho; have n0_ := Aside0.mk (hb); have n1_ := Aside0.mk (ho); clear HB; clear HO_8; have HB := n0_; have HO185 := n1_; clear n0_ n1_; clear ho hb hg hat))
                                go_roundg k4
                                case measure => have := HJ2.out; have := HJ19.out; have := HK3.out; have := HK4.out; omega
                                case rel => exact ⟨(y183), (wrap64 (x9_4 + 1)), (by first | rfl | (simp; done) | (simp [*]; done)), H', ⟨by have := HJ2.out; have := HJ19.out; have := HK3.out; have := HK4.out; omega⟩, ⟨by (with_reducible repeat (first | apply Kd.R_alloc | apply Kd.R_drewN | apply Kd.R_drew)); exact HO185.out⟩, ⟨by repeat (first | (with_reducible first | exact HB.out | apply below_alloc | apply pw_below_drewN | apply below_drew1) | exact HB.out)⟩⟩
                              · rw [if_neg c32] at H
                                exact absurd H (by simp)
                            · rw [if_neg c30] at H
                              exact absurd H (by simp)
                          · rw [if_neg c29] at H
                            have c29b0 : decide (x9_4 < (a0.size : Int)) = false := decide_eq_false c29
                            clear c29
                            have H' := Aside0.mk H
                            clear H
                            go_wp2
                            go_loopg [6, 10] k4 (fun kq v6 v10 w' => ∃ (x6_5 : Int) (x8_5 : List Int) (x10_5 : Int), v6 = .int .i64 x6_5 ∧ v10 = .int .i64 x10_5 ∧ Aside0 (tiltyardref03_Parse.l2 kq x6_5 x8_5 x10_5 = some (r1, r2)) ∧ Aside0 (kq ≤ k4) ∧ Aside0 (Kd.R (Kd.int .i64) 3 w' w.heap.size (fun _ => True) u8 x8_5) ∧ Aside0 (Below w.heap.size w w'))
                            case atStart => exact ⟨(x6_3), (x8_4), (0), (by first | rfl | (simp; done) | (simp [*]; done)), (by first | rfl | (simp; done) | (simp [*]; done)), H', ⟨Nat.le_refl _⟩, ⟨by (with_reducible repeat (first | apply Kd.R_alloc | apply Kd.R_drewN | apply Kd.R_drew)); exact HO_8.out⟩, ⟨by repeat (first | (with_reducible first | exact HB.out | apply below_alloc | apply pw_below_drewN | apply below_drew1) | exact HB.out)⟩⟩
                            case round =>
                              clear H'
                              try clear c1
                              try clear p1
                              try clear q1
                              try clear hx1
                              try clear c2
                              try clear p2
                              try clear q2
                              try clear hx2
                              try clear c3
                              try clear p3
                              try clear q3
                              try clear hx3
                              try clear c4
                              try clear c4b0
                              try clear c5
                              try clear c5b0
                              try clear c6
                              try clear c6b0
                              try clear p6
                              try clear c7
                              try clear c7b0
                              try clear c7b1
                              try clear p8
                              try clear q8
                              try clear hx8
                              try clear qi8
                              try clear c9
                              try clear c9b0
                              try clear c9b1
                              try clear c10
                              try clear c10b0
                              try clear c11
                              try clear c11b0
                              try clear c12
                              try clear c12b0
                              try clear p13
                              try clear q13
                              try clear hx13
                              try clear c14
                              try clear c14b0
                              try clear c15
                              try clear c15b0
                              try clear c16
                              try clear c16b0
                              try clear p17
                              try clear q17
                              try clear hx17
                              try clear c18
                              try clear c21
                              try clear c21b0
                              try clear c22
                              try clear c22b0
                              try clear c23
                              try clear c24
                              try clear c24b0
                              try clear c25
                              try clear c25b0
                              try clear c26
                              try clear c26b0
                              try clear p27
                              try clear q27
                              try clear hx27
                              try clear c28
                              try clear c28b0
                              try clear c29
                              try clear c29b0
                              try clear c30
                              try clear c30b0
                              try clear p31
                              try clear q31
                              try clear hx31
                              try clear c32
                              try clear p1
                              try clear p13
                              try clear p17
                              try clear p2
                              try clear p27
                              try clear p31
                              try clear p6
                              try clear p8
                              try clear q1
                              try clear q13
                              try clear q17
                              try clear q2
                              try clear q27
                              try clear q31
                              try clear q8
                              obtain ⟨x6_5, x8_5, x10_5, rfl, rfl, HA, HK5, HO_8, HB⟩ := hrel
                              cases gk with
                              | zero => exact absurd HA.out (by simp [tiltyardref03_Parse.l2])
                              | succ k5 =>
                                have H := HA.out
                                clear HA
                                simp only [tiltyardref03_Parse.l2] at H
                                by_cases c34 : x10_5 < 32
                                · rw [if_pos c34] at H
                                  have c34b0 : decide (x10_5 < 32) = true := decide_eq_true c34
                                  clear c34
                                  have H' := Aside0.mk H
                                  clear H
                                  obtain ⟨Ao35, co35, eo35⟩ := Kd.R_slice HO_8.out
                                  subst eo35
                                  go_wp2
                                  go_loopg [11, 12] k5 (fun kq v11 v12 w' => ∃ (x8_6 : List Int) (x11_6 : Int) (x12_6 : Int), v11 = .int .i64 x11_6 ∧ v12 = .int .i64 x12_6 ∧ Aside0 (tiltyardref03_Parse.l3 kq x6_5 x8_6 x10_5 x11_6 x12_6 = some (r1, r2)) ∧ Aside0 (kq ≤ k5) ∧ Aside0 (Kd.R (Kd.int .i64) 3 w' w.heap.size (fun _ => True) (.slice Ao35 x8_5.length co35) x8_6) ∧ Aside0 (Below w.heap.size w w'))
                                  case atStart => exact ⟨(x8_5), (0), (wrap64 ((x8_5.length : Int) - 1)), (by first | rfl | (simp; done) | (simp [*]; done)), (by first | rfl | (simp; done) | (simp [*]; done)), H', ⟨Nat.le_refl _⟩, ⟨by (with_reducible repeat (first | apply Kd.R_alloc | apply Kd.R_drewN | apply Kd.R_drew)); exact HO_8.out⟩, ⟨by repeat (first | (with_reducible first | exact HB.out | apply below_alloc | apply pw_below_drewN | apply below_drew1) | exact HB.out)⟩⟩
                                  case round =>
                                    clear H'
                                    try clear c1
                                    try clear p1
                                    try clear q1
                                    try clear hx1
                                    try clear c2
                                    try clear p2
                                    try clear q2
                                    try clear hx2
                                    try clear c3
                                    try clear p3
                                    try clear q3
                                    try clear hx3
                                    try clear c4
                                    try clear c4b0
                                    try clear c5
                                    try clear c5b0
                                    try clear c6
                                    try clear c6b0
                                    try clear p6
                                    try clear c7
                                    try clear c7b0
                                    try clear c7b1
                                    try clear p8
                                    try clear q8
                                    try clear hx8
                                    try clear qi8
                                    try clear c9
                                    try clear c9b0
                                    try clear c9b1
                                    try clear c10
                                    try clear c10b0
                                    try clear c11
                                    try clear c11b0
                                    try clear c12
                                    try clear c12b0
                                    try clear p13
                                    try clear q13
                                    try clear hx13
                                    try clear c14
                                    try clear c14b0
                                    try clear c15
                                    try clear c15b0
                                    try clear c16
                                    try clear c16b0
                                    try clear p17
                                    try clear q17
                                    try clear hx17
                                    try clear c18
                                    try clear c21
                                    try clear c21b0
                                    try clear c22
                                    try clear c22b0
                                    try clear c23
                                    try clear c24
                                    try clear c24b0
                                    try clear c25
                                    try clear c25b0
                                    try clear c26
                                    try clear c26b0
                                    try clear p27
                                    try clear q27
                                    try clear hx27
                                    try clear c28
                                    try clear c28b0
                                    try clear c29
                                    try clear c29b0
                                    try clear c30
                                    try clear c30b0
                                    try clear p31
                                    try clear q31
                                    try clear hx31
                                    try clear c32
                                    try clear c34
                                    try clear c34b0
                                    try clear p1
                                    try clear p13
                                    try clear p17
                                    try clear p2
                                    try clear p27
                                    try clear p3
                                    try clear p31
                                    try clear p6
                                    try clear p8
                                    try clear q1
                                    try clear q13
                                    try clear q17
                                    try clear q2
                                    try clear q27
                                    try clear q3
                                    try clear q31
                                    try clear q8
                                    obtain ⟨x8_6, x11_6, x12_6, rfl, rfl, HA, HK6, HO_8, HB⟩ := hrel
                                    have hl8_6 := (Kd.R_reads' HO_8.out).1
                                    rw [hl8_6] at HO_8
                                    (try simp only [hl8_6])
                                    cases gk with
                                    | zero => exact absurd HA.out (by simp [tiltyardref03_Parse.l3])
                                    | succ k6 =>
                                      have H := HA.out
                                      clear HA
                                      simp only [tiltyardref03_Parse.l3] at H
                                      by_cases c36 : x12_6 ≥ 0
                                      · rw [if_pos c36] at H
                                        have c36b0 : decide (0 ≤ x12_6) = true := decide_eq_true c36
                                        clear c36
                                        by_cases c37 : 0 ≤ x12_6
                                        · rw [if_pos c37] at H
                                          have c37b0 : decide (0 ≤ x12_6) = true := decide_eq_true c37
                                          clear c37
                                          by_cases c38 : x12_6 < (x8_6.length : Int)
                                          · rw [if_pos c38] at H
                                            have c38b0 : decide (x12_6 < (x8_6.length : Int)) = true := decide_eq_true c38
                                            clear c38
                                            obtain ⟨y187, hy187⟩ : ∃ y_ : List Int, y_ = (x8_6.set (x12_6 : Int).toNat (Int.tmod (wrap64 ((wrap64 (2 * (rd x8_6 x12_6))) + x11_6)) 10)) := ⟨_, rfl⟩
                                            replace H : (tiltyardref03_Parse.l3 k6 x6_5 y187 x10_5 (wrap64 (Int.tdiv (wrap64 ((wrap64 (2 * (rd x8_6 x12_6))) + x11_6)) 10)) (wrap64 (x12_6 - 1))) = some (r1, r2) := by first | (rw [hy187]; with_reducible exact H) | (have H2_ := (Option.bind_some _ _).symm.trans H; rw [hy187]; with_reducible exact H2_) | (have H2_ := (Option.bind_some _ _).symm.trans H; with_reducible exact H2_) | with_reducible exact H | (rw [hy187]; exact H) | exact H
                                            have Ny187 := Aside0.mk hy187
                                            clear hy187
                                            have H' := Aside0.mk H
                                            clear H
                                            have p186 : 0 ≤ (x12_6 : Int) := of_decide_eq_true (by first | (with_reducible assumption) | assumption)
                                            have q186 : x12_6 < (x8_6.length : Int) := of_decide_eq_true (by first | (with_reducible assumption) | assumption)
                                            obtain ⟨ad186, e186, hx186_0⟩ := Kd.at_int (Kd.R_reads' HO_8.out).2.2 x12_6 p186 q186
                                            cases e186
                                            replace p186 := eq_true p186
                                            replace q186 := eq_true q186
                                            have p39 : 0 ≤ (x12_6 : Int) := of_decide_eq_true (by first | (with_reducible assumption) | assumption)
                                            have q39 : (x12_6 : Int) < ((x8_6.length : Int) : Int) := of_decide_eq_true (by first | (with_reducible assumption) | assumption)
                                            obtain ⟨go39, co39, eo39, gb39, gl39, cl39, HG39⟩ := Kd.R_form HO_8.out (by omega)
                                            (first | cases eo39 | (injection eo39 with ea_ en_ ec_; (first | subst ea_ | (injection ea_ with ea_; subst ea_)); subst ec_; clear en_))
                                            have GB39 := Aside0.mk gb39
                                            have GG39 := Aside0.mk HG39
                                            clear gb39 gl39 HG39
                                            (first | simp only [add_plain] at hx186_0 | skip)
                                            obtain ⟨hx39_0, hf39_0⟩ := Kd.R_celln 0 HO_8.out (x12_6 : Int) p39 q39
                                            replace p39 := eq_true p39
                                            replace q39 := eq_true q39
                                            have HP40 := Kd.R_putg HO_8.out (x12_6 : Int) (Int.tmod (wrap64 ((wrap64 (2 * (rd x8_6 x12_6))) + x11_6)) 10)
                                            go_wp2_with (first | ((with_reducible refine gate_store (t := 3) (p := 115) rfl ?_); refine store_event (t := 3) (p := 115) (v := ?vo_w41) (w1 := (wr.setCell ⟨go39, (x12_6 : Int).toNat, none⟩ (.int .i64 (Int.tmod (wrap64 ((wrap64 (2 * (rd x8_6 x12_6))) + x11_6)) 10)))) ?hg ?ho ?hn ?hr ?_; (case ho => rfl); (case hg => rfl); (case hn => rfl); (case hr => first | (go_simp; done) | (go_simp; rfl)); intro w41 hw; have hg : wr.grownBy w41 (some go39) := (by rw [hw]; exact HP40.2); have hp_ : Kd.R (Kd.int .i64) 3 w41 w.heap.size (fun _ => True) (.slice (some ⟨go39, 0, none⟩) x8_6.length co35) y187 := (by rw [hw, Ny187.out]; exact HP40.1); clear HP40; have n0_ := Aside0.mk (hp_); have n1_ := Aside0.mk ((by rw [hw]; exact below_set (HB.out) GB39.out : Below w.heap.size w w41)); clear HO_8; clear HB; have HO_8 := n0_; have HB := n1_; clear n0_ n1_; clear hg hw hp_))
                                            (try simp only [← hl8_6])
                                            go_roundg k6
                                            case measure => have := HJ2.out; have := HJ19.out; have := HK3.out; have := HK4.out; have := HK5.out; have := HK6.out; omega
                                            case rel => exact ⟨(y187), (wrap64 (Int.tdiv (wrap64 ((wrap64 (2 * (rd x8_6 x12_6))) + x11_6)) 10)), (wrap64 (x12_6 - 1)), (by first | rfl | (simp; done) | (simp [*]; done)), (by first | rfl | (simp; done) | (simp [*]; done)), H', ⟨by have := HJ2.out; have := HJ19.out; have := HK3.out; have := HK4.out; have := HK5.out; have := HK6.out; omega⟩, ⟨by (try simp only [hl8_6]); (with_reducible repeat (first | apply Kd.R_alloc | apply Kd.R_drewN | apply Kd.R_drew)); exact HO_8.out⟩, ⟨by repeat (first | (with_reducible first | exact HB.out | apply below_alloc | apply pw_below_drewN | apply below_drew1) | exact HB.out)⟩⟩
                                          · rw [if_neg c38] at H
                                            exact absurd H (by simp)
                                        · rw [if_neg c37] at H
                                          exact absurd H (by simp)
                                      · rw [if_neg c36] at H
                                        have c36b0 : decide (0 ≤ x12_6) = false := decide_eq_false c36
                                        clear c36
                                        have H' := Aside0.mk H
                                        clear H
                                        go_wp2
                                        (try simp only [← hl8_6])
                                        go_roundg k6
                                        case measure => have := HJ2.out; have := HJ19.out; have := HK3.out; have := HK4.out; have := HK5.out; have := HK6.out; omega
                                        case rel => exact ⟨(wrap64 ((wrap64 (2 * x6_5)) + x11_6)), (x8_6), (wrap64 (x10_5 + 1)), (by first | rfl | (simp; done) | (simp [*]; done)), (by first | rfl | (simp; done) | (simp [*]; done)), H', ⟨by have := HJ2.out; have := HJ19.out; have := HK3.out; have := HK4.out; have := HK5.out; have := HK6.out; omega⟩, ⟨by (try simp only [hl8_6]); (with_reducible repeat (first | apply Kd.R_alloc | apply Kd.R_drewN | apply Kd.R_drew)); exact HO_8.out⟩, ⟨by repeat (first | (with_reducible first | exact HB.out | apply below_alloc | apply pw_below_drewN | apply below_drew1) | exact HB.out)⟩⟩
                                · rw [if_neg c34] at H
                                  have c34b0 : decide (x10_5 < 32) = false := decide_eq_false c34
                                  clear c34
                                  simp only [Option.some.injEq, Prod.mk.injEq] at H
                                  obtain ⟨rfl, rfl⟩ := H
                                  go_wp2
                                  go_ret2
                                  exact ⟨by first | rfl | (simp [errW_none, errW_some] <;> rfl) | (simp [*, errW_none, errW_some] <;> rfl), by repeat (first | (with_reducible first | exact HB.out | apply below_alloc | apply pw_below_drewN | apply below_drew1) | exact HB.out)⟩
end Go.Proofs.YtklkikndcieojaaDoor.PTk
