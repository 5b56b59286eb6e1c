/- Contracts that a program printed; what token.Tokens wants of the world is handed through. -/
import Derived.Test.YtklkikndcieojaaDoorTkI
namespace Go.Proofs.YtklkikndcieojaaDoor.PTk
open Go.RowKit Go.Proofs.YtklkikndcieojaaDoorW.PrintWords Go.Proofs.YtklkikndcieojaaDoorW.PrintLast Go.Proofs.YtklkikndcieojaaDoorW.PrintMore
attribute [local go_sem] max2_int min2_int max_two min_two max_three min_three max_four min_four   -- for this text's walks alone
set_option linter.unusedVariables false
set_option linter.unusedSimpArgs false
attribute [local go_sem high] eqA26 eqA31
/-! ### tiltyardlaw08_blank: function 16 -/
def tiltyardlaw08_blank.l0 : Nat → ByteArray → Bool → Int → Option (Bool)
  | 0, _, _, _ => none
  | k + 1, x0, x3, x4 => if x4 < (x0.size : Int) then (if 0 ≤ x4 then (if (Go.Proofs.YtklkikndcieojaaDoorW.PrintWords.bt x0 x4) = 10 then (tiltyardlaw08_blank.l0 k x0 false (wrap64 (x4 + 1))) else (if x3 = true then (tiltyardlaw08_blank.l0 k x0 x3 (wrap64 (x4 + 1))) else (if (Go.Proofs.YtklkikndcieojaaDoorW.PrintWords.bt x0 x4) = 35 then (tiltyardlaw08_blank.l0 k x0 true (wrap64 (x4 + 1))) else (if (Go.Proofs.YtklkikndcieojaaDoorW.PrintWords.bt x0 x4) = 9 then (tiltyardlaw08_blank.l0 k x0 x3 (wrap64 (x4 + 1))) else (if (Go.Proofs.YtklkikndcieojaaDoorW.PrintWords.bt x0 x4) = 13 then (tiltyardlaw08_blank.l0 k x0 x3 (wrap64 (x4 + 1))) else (if (Go.Proofs.YtklkikndcieojaaDoorW.PrintWords.bt x0 x4) = 32 then (tiltyardlaw08_blank.l0 k x0 x3 (wrap64 (x4 + 1))) else (some false))))))) else (none)) else (some true)
def tiltyardlaw08_blank.f (k : Nat) (a0 : ByteArray) : Option (Bool) := tiltyardlaw08_blank.l0 k a0 false 0
theorem tiltyardlaw08_blank.mono_l : ∀ k, (∀ y0 y1 y2, LeO (tiltyardlaw08_blank.l0 k y0 y1 y2) (tiltyardlaw08_blank.l0 (k + 1) y0 y1 y2))
  | 0 => fun _ _ _ r h => by simp [tiltyardlaw08_blank.l0] at h
  | k + 1 => by
    have ih0 := tiltyardlaw08_blank.mono_l k
    · intro y0 y1 y2
      unfold tiltyardlaw08_blank.l0
      repeat' first
      | (with_reducible exact ih0 _ _ _)
      | (with_reducible exact LeO.refl _)
      | (with_reducible exact LeO.none _)
      | (with_reducible refine LeO.ite ?_ ?_)
      | (with_reducible refine LeO.bind ?_ (fun _ => ?_))
      | exact ih0 _ _ _
      | exact LeO.none _
      | refine LeO.ite ?_ ?_
      | refine LeO.bind ?_ (fun _ => ?_)
theorem tiltyardlaw08_blank.mono : ∀ a0 k, LeO (tiltyardlaw08_blank.f k a0) (tiltyardlaw08_blank.f (k + 1) a0) := by
  intro a0 k
  have ih0 := tiltyardlaw08_blank.mono_l k
  unfold tiltyardlaw08_blank.f
  repeat' first
      | (with_reducible exact ih0 _ _ _)
      | (with_reducible exact LeO.refl _)
      | (with_reducible exact LeO.none _)
      | (with_reducible refine LeO.ite ?_ ?_)
      | (with_reducible refine LeO.bind ?_ (fun _ => ?_))
      | exact ih0 _ _ _
      | exact LeO.none _
      | refine LeO.ite ?_ ?_
      | refine LeO.bind ?_ (fun _ => ?_)
set_option maxHeartbeats 8000000 in
set_option maxRecDepth 100000 in
theorem tiltyardlaw08_blank.calls (k : Nat) (a0 : ByteArray) (r : Bool) (w : World) (h : tiltyardlaw08_blank.f k a0 = some r) :
    Calls Tryd.prog 16 #[.string a0] w fun e w' => e = .returned (.bool r) ∧ Drawn0 w w' := by
  have H : (tiltyardlaw08_blank.l0 k a0 false 0) = some r := h
  clear h
  have H' := Aside0.mk H
  clear H
  go_enter Tryd.func16, Tryd.ntmps16
  go_wp2
  go_loopg [3, 4] k (fun kq v3 v4 w' => ∃ (x3_1 : Bool) (x4_1 : Int), v3 = .bool x3_1 ∧ v4 = .int .i64 x4_1 ∧ Aside0 (tiltyardlaw08_blank.l0 kq a0 x3_1 x4_1 = some r) ∧ Aside0 (kq ≤ k) ∧ Drawn0 w w')
  case atStart => exact ⟨(false), (0), (by first | rfl | (simp; done) | (simp [*]; done) | (simp [*]; generalize List.isEmpty _ = q_; generalize ((_ : Int) == _) = p_; cases p_ <;> cases q_ <;> rfl)), (by first | rfl | (simp; done) | (simp [*]; done) | (simp [*]; generalize List.isEmpty _ = q_; generalize ((_ : Int) == _) = p_; cases p_ <;> cases q_ <;> rfl)), H', ⟨Nat.le_refl _⟩, by repeat (first | exact Drawn0.refl _ | apply Drawn0.step)⟩
  case round =>
    clear H'
    try clear c1
    obtain ⟨x3_1, x4_1, rfl, rfl, HA, HK1, ⟨m1, rfl⟩⟩ := hrel
    cases gk with
    | zero => exact absurd HA.out (by simp [tiltyardlaw08_blank.l0])
    | succ k1 =>
      have H := HA.out
      clear HA
      simp only [tiltyardlaw08_blank.l0] at H
      by_cases c2 : x4_1 < (a0.size : Int)
      · rw [if_pos c2] at H
        have c2b0 : decide (x4_1 < (a0.size : Int)) = true := decide_eq_true c2
        clear c2
        by_cases c3 : 0 ≤ x4_1
        · rw [if_pos c3] at H
          have c3b0 : decide (0 ≤ x4_1) = true := decide_eq_true c3
          clear c3
          by_cases c5 : (Go.Proofs.YtklkikndcieojaaDoorW.PrintWords.bt a0 x4_1) = 10
          · rw [if_pos c5] at H
            have c5b0 : ((Go.Proofs.YtklkikndcieojaaDoorW.PrintWords.bt a0 x4_1) == 10) = true := beq_iff_eq.mpr c5
            have c5b1 : ((Go.Proofs.YtklkikndcieojaaDoorW.PrintWords.bt a0 x4_1) != 10) = false := bne_eq_false_iff_eq.mpr c5
            clear c5
            have H' := Aside0.mk H
            clear H
            have p4 : 0 ≤ (x4_1 : Int) := of_decide_eq_true (by first | (with_reducible assumption) | assumption)
            have q4 : x4_1 < (a0.size : Int) := of_decide_eq_true (by first | (with_reducible assumption) | assumption)
            have hx4 := bt_at a0 x4_1
            replace p4 := eq_true p4
            replace q4 := eq_true q4
            go_wp2
            go_roundg k1
            case measure => have := HK1.out; omega
            case rel => exact ⟨(false), (wrap64 (x4_1 + 1)), (by first | rfl | (simp; done) | (simp [*]; done) | (simp [*]; generalize List.isEmpty _ = q_; generalize ((_ : Int) == _) = p_; cases p_ <;> cases q_ <;> rfl)), (by first | rfl | (simp; done) | (simp [*]; done) | (simp [*]; generalize List.isEmpty _ = q_; generalize ((_ : Int) == _) = p_; cases p_ <;> cases q_ <;> rfl)), H', ⟨by have := HK1.out; omega⟩, by repeat (first | exact Drawn0.refl _ | apply Drawn0.step)⟩
          · rw [if_neg c5] at H
            have c5b0 : ((Go.Proofs.YtklkikndcieojaaDoorW.PrintWords.bt a0 x4_1) == 10) = false := beq_eq_false_iff_ne.mpr c5
            have c5b1 : ((Go.Proofs.YtklkikndcieojaaDoorW.PrintWords.bt a0 x4_1) != 10) = true := bne_iff_ne.mpr c5
            by_cases c6 : x3_1 = true
            · subst c6
              have H1 : (tiltyardlaw08_blank.l0 k1 a0 true (wrap64 (x4_1 + 1))) = some r := by rw [if_pos rfl] at H; exact H
              clear H
              have H := H1
              clear H1
              have H' := Aside0.mk H
              clear H
              have p4 : 0 ≤ (x4_1 : Int) := of_decide_eq_true (by first | (with_reducible assumption) | assumption)
              have q4 : x4_1 < (a0.size : Int) := of_decide_eq_true (by first | (with_reducible assumption) | assumption)
              have hx4 := bt_at a0 x4_1
              replace p4 := eq_true p4
              replace q4 := eq_true q4
              go_wp2
              go_roundg k1
              case measure => have := HK1.out; omega
              case rel => exact ⟨(true), (wrap64 (x4_1 + 1)), (by first | rfl | (simp; done) | (simp [*]; done) | (simp [*]; generalize List.isEmpty _ = q_; generalize ((_ : Int) == _) = p_; cases p_ <;> cases q_ <;> rfl)), (by first | rfl | (simp; done) | (simp [*]; done) | (simp [*]; generalize List.isEmpty _ = q_; generalize ((_ : Int) == _) = p_; cases p_ <;> cases q_ <;> rfl)), H', ⟨by have := HK1.out; omega⟩, by repeat (first | exact Drawn0.refl _ | apply Drawn0.step)⟩
            · replace c6 := Bool.eq_false_iff.mpr c6
              subst c6
              have H1 : (if (Go.Proofs.YtklkikndcieojaaDoorW.PrintWords.bt a0 x4_1) = 35 then (tiltyardlaw08_blank.l0 k1 a0 true (wrap64 (x4_1 + 1))) else (if (Go.Proofs.YtklkikndcieojaaDoorW.PrintWords.bt a0 x4_1) = 9 then (tiltyardlaw08_blank.l0 k1 a0 false (wrap64 (x4_1 + 1))) else (if (Go.Proofs.YtklkikndcieojaaDoorW.PrintWords.bt a0 x4_1) = 13 then (tiltyardlaw08_blank.l0 k1 a0 false (wrap64 (x4_1 + 1))) else (if (Go.Proofs.YtklkikndcieojaaDoorW.PrintWords.bt a0 x4_1) = 32 then (tiltyardlaw08_blank.l0 k1 a0 false (wrap64 (x4_1 + 1))) else (some false))))) = some r := by rw [if_neg (show ¬ (false = true) by decide)] at H; exact H
              clear H
              have H := H1
              clear H1
              by_cases c7 : (Go.Proofs.YtklkikndcieojaaDoorW.PrintWords.bt a0 x4_1) = 35
              · rw [if_pos c7] at H
                have c7b0 : ((Go.Proofs.YtklkikndcieojaaDoorW.PrintWords.bt a0 x4_1) == 35) = true := beq_iff_eq.mpr c7
                have c7b1 : ((Go.Proofs.YtklkikndcieojaaDoorW.PrintWords.bt a0 x4_1) != 35) = false := bne_eq_false_iff_eq.mpr c7
                clear c7
                have H' := Aside0.mk H
                clear H
                have p4 : 0 ≤ (x4_1 : Int) := of_decide_eq_true (by first | (with_reducible assumption) | assumption)
                have q4 : x4_1 < (a0.size : Int) := of_decide_eq_true (by first | (with_reducible assumption) | assumption)
                have hx4 := bt_at a0 x4_1
                replace p4 := eq_true p4
                replace q4 := eq_true q4
                go_wp2
                go_roundg k1
                case measure => have := HK1.out; omega
                case rel => exact ⟨(true), (wrap64 (x4_1 + 1)), (by first | rfl | (simp; done) | (simp [*]; done) | (simp [*]; generalize List.isEmpty _ = q_; generalize ((_ : Int) == _) = p_; cases p_ <;> cases q_ <;> rfl)), (by first | rfl | (simp; done) | (simp [*]; done) | (simp [*]; generalize List.isEmpty _ = q_; generalize ((_ : Int) == _) = p_; cases p_ <;> cases q_ <;> rfl)), H', ⟨by have := HK1.out; omega⟩, by repeat (first | exact Drawn0.refl _ | apply Drawn0.step)⟩
              · rw [if_neg c7] at H
                have c7b0 : ((Go.Proofs.YtklkikndcieojaaDoorW.PrintWords.bt a0 x4_1) == 35) = false := beq_eq_false_iff_ne.mpr c7
                have c7b1 : ((Go.Proofs.YtklkikndcieojaaDoorW.PrintWords.bt a0 x4_1) != 35) = true := bne_iff_ne.mpr c7
                by_cases c8 : (Go.Proofs.YtklkikndcieojaaDoorW.PrintWords.bt a0 x4_1) = 9
                · rw [if_pos c8] at H
                  have c8b0 : ((Go.Proofs.YtklkikndcieojaaDoorW.PrintWords.bt a0 x4_1) == 9) = true := beq_iff_eq.mpr c8
                  have c8b1 : ((Go.Proofs.YtklkikndcieojaaDoorW.PrintWords.bt a0 x4_1) != 9) = false := bne_eq_false_iff_eq.mpr c8
                  clear c8
                  have H' := Aside0.mk H
                  clear H
                  have p4 : 0 ≤ (x4_1 : Int) := of_decide_eq_true (by first | (with_reducible assumption) | assumption)
                  have q4 : x4_1 < (a0.size : Int) := of_decide_eq_true (by first | (with_reducible assumption) | assumption)
                  have hx4 := bt_at a0 x4_1
                  replace p4 := eq_true p4
                  replace q4 := eq_true q4
                  go_wp2
                  go_roundg k1
                  case measure => have := HK1.out; omega
                  case rel => exact ⟨(false), (wrap64 (x4_1 + 1)), (by first | rfl | (simp; done) | (simp [*]; done) | (simp [*]; generalize List.isEmpty _ = q_; generalize ((_ : Int) == _) = p_; cases p_ <;> cases q_ <;> rfl)), (by first | rfl | (simp; done) | (simp [*]; done) | (simp [*]; generalize List.isEmpty _ = q_; generalize ((_ : Int) == _) = p_; cases p_ <;> cases q_ <;> rfl)), H', ⟨by have := HK1.out; omega⟩, by repeat (first | exact Drawn0.refl _ | apply Drawn0.step)⟩
                · rw [if_neg c8] at H
                  have c8b0 : ((Go.Proofs.YtklkikndcieojaaDoorW.PrintWords.bt a0 x4_1) == 9) = false := beq_eq_false_iff_ne.mpr c8
                  have c8b1 : ((Go.Proofs.YtklkikndcieojaaDoorW.PrintWords.bt a0 x4_1) != 9) = true := bne_iff_ne.mpr c8
                  by_cases c9 : (Go.Proofs.YtklkikndcieojaaDoorW.PrintWords.bt a0 x4_1) = 13
                  · rw [if_pos c9] at H
                    have c9b0 : ((Go.Proofs.YtklkikndcieojaaDoorW.PrintWords.bt a0 x4_1) == 13) = true := beq_iff_eq.mpr c9
                    have c9b1 : ((Go.Proofs.YtklkikndcieojaaDoorW.PrintWords.bt a0 x4_1) != 13) = false := bne_eq_false_iff_eq.mpr c9
                    clear c9
                    have H' := Aside0.mk H
                    clear H
                    have p4 : 0 ≤ (x4_1 : Int) := of_decide_eq_true (by first | (with_reducible assumption) | assumption)
                    have q4 : x4_1 < (a0.size : Int) := of_decide_eq_true (by first | (with_reducible assumption) | assumption)
                    have hx4 := bt_at a0 x4_1
                    replace p4 := eq_true p4
                    replace q4 := eq_true q4
                    go_wp2
                    go_roundg k1
                    case measure => have := HK1.out; omega
                    case rel => exact ⟨(false), (wrap64 (x4_1 + 1)), (by first | rfl | (simp; done) | (simp [*]; done) | (simp [*]; generalize List.isEmpty _ = q_; generalize ((_ : Int) == _) = p_; cases p_ <;> cases q_ <;> rfl)), (by first | rfl | (simp; done) | (simp [*]; done) | (simp [*]; generalize List.isEmpty _ = q_; generalize ((_ : Int) == _) = p_; cases p_ <;> cases q_ <;> rfl)), H', ⟨by have := HK1.out; omega⟩, by repeat (first | exact Drawn0.refl _ | apply Drawn0.step)⟩
                  · rw [if_neg c9] at H
                    have c9b0 : ((Go.Proofs.YtklkikndcieojaaDoorW.PrintWords.bt a0 x4_1) == 13) = false := beq_eq_false_iff_ne.mpr c9
                    have c9b1 : ((Go.Proofs.YtklkikndcieojaaDoorW.PrintWords.bt a0 x4_1) != 13) = true := bne_iff_ne.mpr c9
                    by_cases c10 : (Go.Proofs.YtklkikndcieojaaDoorW.PrintWords.bt a0 x4_1) = 32
                    · rw [if_pos c10] at H
                      have c10b0 : ((Go.Proofs.YtklkikndcieojaaDoorW.PrintWords.bt a0 x4_1) == 32) = true := beq_iff_eq.mpr c10
                      have c10b1 : ((Go.Proofs.YtklkikndcieojaaDoorW.PrintWords.bt a0 x4_1) != 32) = false := bne_eq_false_iff_eq.mpr c10
                      clear c10
                      have H' := Aside0.mk H
                      clear H
                      have p4 : 0 ≤ (x4_1 : Int) := of_decide_eq_true (by first | (with_reducible assumption) | assumption)
                      have q4 : x4_1 < (a0.size : Int) := of_decide_eq_true (by first | (with_reducible assumption) | assumption)
                      have hx4 := bt_at a0 x4_1
                      replace p4 := eq_true p4
                      replace q4 := eq_true q4
                      go_wp2
                      go_roundg k1
                      case measure => have := HK1.out; omega
                      case rel => exact ⟨(false), (wrap64 (x4_1 + 1)), (by first | rfl | (simp; done) | (simp [*]; done) | (simp [*]; generalize List.isEmpty _ = q_; generalize ((_ : Int) == _) = p_; cases p_ <;> cases q_ <;> rfl)), (by first | rfl | (simp; done) | (simp [*]; done) | (simp [*]; generalize List.isEmpty _ = q_; generalize ((_ : Int) == _) = p_; cases p_ <;> cases q_ <;> rfl)), H', ⟨by have := HK1.out; omega⟩, by repeat (first | exact Drawn0.refl _ | apply Drawn0.step)⟩
                    · rw [if_neg c10] at H
                      have c10b0 : ((Go.Proofs.YtklkikndcieojaaDoorW.PrintWords.bt a0 x4_1) == 32) = false := beq_eq_false_iff_ne.mpr c10
                      have c10b1 : ((Go.Proofs.YtklkikndcieojaaDoorW.PrintWords.bt a0 x4_1) != 32) = true := bne_iff_ne.mpr c10
                      obtain rfl := Option.some.inj H
                      have p4 : 0 ≤ (x4_1 : Int) := of_decide_eq_true (by first | (with_reducible assumption) | assumption)
                      have q4 : x4_1 < (a0.size : Int) := of_decide_eq_true (by first | (with_reducible assumption) | assumption)
                      have hx4 := bt_at a0 x4_1
                      replace p4 := eq_true p4
                      replace q4 := eq_true q4
                      go_wp2
                      go_ret
                      exact ⟨by first | rfl | (simp; done) | (simp [*]; done), by repeat (first | exact Drawn0.refl _ | apply Drawn0.step)⟩
        · rw [if_neg c3] at H
          exact absurd H (by simp)
      · rw [if_neg c2] at H
        have c2b0 : decide (x4_1 < (a0.size : Int)) = false := decide_eq_false c2
        clear c2
        obtain rfl := Option.some.inj H
        go_wp2
        go_ret
        exact ⟨by first | rfl | (simp; done) | (simp [*]; done), by repeat (first | exact Drawn0.refl _ | apply Drawn0.step)⟩

/-! ### tiltyardlaw08_TokenCovers: function 4 -/
mutual
def tiltyardlaw08_TokenCovers.j0 : Nat → ByteArray → Bool → List (S31) → Bool → Option (Bool)
  | 0, _, _, _, _ => none
  | k + 1, x0, x3, x4, x22 => if x22 = true then (if x3 = true then (some ((x4.length : Int) == 0)) else (some false)) else (tiltyardlaw08_TokenCovers.l0 k x0 x4 0 0)
def tiltyardlaw08_TokenCovers.l0 : Nat → ByteArray → List (S31) → Int → Int → Option (Bool)
  | 0, _, _, _, _ => none
  | k + 1, x0, x4, x6, x7 => if x7 < (x4.length : Int) then (if 0 ≤ x7 then (if ((rd_T31 x4 x7).f2) < x6 then (tiltyardlaw08_TokenCovers.j2 k x0 x4 x6 x7 true ((rd_T31 x4 x7).f0) ((rd_T31 x4 x7).f1) ((rd_T31 x4 x7).f2)) else (if ((rd_T31 x4 x7).f2) > (x0.size : Int) then (tiltyardlaw08_TokenCovers.j2 k x0 x4 x6 x7 true ((rd_T31 x4 x7).f0) ((rd_T31 x4 x7).f1) ((rd_T31 x4 x7).f2)) else (if (((rd_T31 x4 x7).f1).size : Int) > (wrap64 ((x0.size : Int) - ((rd_T31 x4 x7).f2))) then (tiltyardlaw08_TokenCovers.j2 k x0 x4 x6 x7 true ((rd_T31 x4 x7).f0) ((rd_T31 x4 x7).f1) ((rd_T31 x4 x7).f2)) else (if 0 ≤ ((rd_T31 x4 x7).f2) then (if ((rd_T31 x4 x7).f2) ≤ (wrap64 (((rd_T31 x4 x7).f2) + (((rd_T31 x4 x7).f1).size : Int))) then (if (wrap64 (((rd_T31 x4 x7).f2) + (((rd_T31 x4 x7).f1).size : Int))) ≤ (x0.size : Int) then (if (x0.extract (((rd_T31 x4 x7).f2) : Int).toNat ((wrap64 (((rd_T31 x4 x7).f2) + (((rd_T31 x4 x7).f1).size : Int))) : Int).toNat).toList = ((rd_T31 x4 x7).f1).toList then (tiltyardlaw08_TokenCovers.j2 k x0 x4 x6 x7 ((((rd_T31 x4 x7).f1).toList == ([] : List UInt8)) != (x7 == (wrap64 ((x4.length : Int) - 1)))) ((rd_T31 x4 x7).f0) ((rd_T31 x4 x7).f1) ((rd_T31 x4 x7).f2)) else (tiltyardlaw08_TokenCovers.j2 k x0 x4 x6 x7 true ((rd_T31 x4 x7).f0) ((rd_T31 x4 x7).f1) ((rd_T31 x4 x7).f2))) else (none)) else (none)) else (none))))) else (none)) else (if (x4.length : Int) > 0 then (if 0 ≤ (wrap64 ((x4.length : Int) - 1)) then (if (wrap64 ((x4.length : Int) - 1)) < (x4.length : Int) then (if ((rd_T31 x4 (wrap64 ((x4.length : Int) - 1))).f0) = 6 then (some (x6 == (x0.size : Int))) else (some false)) else (none)) else (none)) else (some false))
def tiltyardlaw08_TokenCovers.j2 : Nat → ByteArray → List (S31) → Int → Int → Bool → Int → ByteArray → Int → Option (Bool)
  | 0, _, _, _, _, _, _, _, _ => none
  | k + 1, x0, x4, x6, x7, x86, x263000, x263001, x263002 => if x86 = true then (some false) else (if 0 ≤ x6 then (if x6 ≤ x263002 then (if x263002 ≤ (x0.size : Int) then ((tiltyardlaw08_blank.f k (x0.extract (x6 : Int).toNat (x263002 : Int).toNat)).bind fun t263 => (if t263 = true then (tiltyardlaw08_TokenCovers.l0 k x0 x4 (wrap64 (x263002 + (x263001.size : Int))) (wrap64 (x7 + 1))) else (some false))) else (none)) else (none)) else (none))
end
def tiltyardlaw08_TokenCovers.f (k : Nat) (a0 : ByteArray) : Option (Bool) := (tiltyardlaw08_awake.f).bind fun t253 => ((token_Tokens.f a0).bind fun bt254 => (if t253 = true then (tiltyardlaw08_TokenCovers.j0 k a0 t253 bt254.1 (bt254.2.1 != 0)) else (tiltyardlaw08_TokenCovers.j0 k a0 t253 bt254.1 true)))
theorem tiltyardlaw08_TokenCovers.mono_l : ∀ k, (∀ y0 y1 y2 y3, LeO (tiltyardlaw08_TokenCovers.j0 k y0 y1 y2 y3) (tiltyardlaw08_TokenCovers.j0 (k + 1) y0 y1 y2 y3)) ∧ (∀ y0 y1 y2 y3, LeO (tiltyardlaw08_TokenCovers.l0 k y0 y1 y2 y3) (tiltyardlaw08_TokenCovers.l0 (k + 1) y0 y1 y2 y3)) ∧ (∀ y0 y1 y2 y3 y4 y5 y6 y7, LeO (tiltyardlaw08_TokenCovers.j2 k y0 y1 y2 y3 y4 y5 y6 y7) (tiltyardlaw08_TokenCovers.j2 (k + 1) y0 y1 y2 y3 y4 y5 y6 y7))
  | 0 => ⟨fun _ _ _ _ r h => by simp [tiltyardlaw08_TokenCovers.j0] at h, fun _ _ _ _ r h => by simp [tiltyardlaw08_TokenCovers.l0] at h, fun _ _ _ _ _ _ _ _ r h => by simp [tiltyardlaw08_TokenCovers.j2] at h⟩
  | k + 1 => by
    obtain ⟨ih0, ih1, ih2⟩ := tiltyardlaw08_TokenCovers.mono_l k
    refine ⟨?_, ?_, ?_⟩
    · intro y0 y1 y2 y3
      unfold tiltyardlaw08_TokenCovers.j0
      repeat' first
      | (with_reducible exact ih0 _ _ _ _)
      | (with_reducible exact ih1 _ _ _ _)
      | (with_reducible exact ih2 _ _ _ _ _ _ _ _)
      | (with_reducible exact tiltyardlaw08_blank.mono _ _)
      | (with_reducible exact LeO.refl _)
      | (with_reducible exact LeO.none _)
      | (with_reducible refine LeO.ite ?_ ?_)
      | (with_reducible refine LeO.bind ?_ (fun _ => ?_))
      | exact ih0 _ _ _ _
      | exact ih1 _ _ _ _
      | exact ih2 _ _ _ _ _ _ _ _
      | exact tiltyardlaw08_blank.mono _ _
      | exact LeO.none _
      | refine LeO.ite ?_ ?_
      | refine LeO.bind ?_ (fun _ => ?_)
    · intro y0 y1 y2 y3
      unfold tiltyardlaw08_TokenCovers.l0
      repeat' first
      | (with_reducible exact ih0 _ _ _ _)
      | (with_reducible exact ih1 _ _ _ _)
      | (with_reducible exact ih2 _ _ _ _ _ _ _ _)
      | (with_reducible exact tiltyardlaw08_blank.mono _ _)
      | (with_reducible exact LeO.refl _)
      | (with_reducible exact LeO.none _)
      | (with_reducible refine LeO.ite ?_ ?_)
      | (with_reducible refine LeO.bind ?_ (fun _ => ?_))
      | exact ih0 _ _ _ _
      | exact ih1 _ _ _ _
      | exact ih2 _ _ _ _ _ _ _ _
      | exact tiltyardlaw08_blank.mono _ _
      | exact LeO.none _
      | refine LeO.ite ?_ ?_
      | refine LeO.bind ?_ (fun _ => ?_)
    · intro y0 y1 y2 y3 y4 y5 y6 y7
      unfold tiltyardlaw08_TokenCovers.j2
      repeat' first
      | (with_reducible exact ih0 _ _ _ _)
      | (with_reducible exact ih1 _ _ _ _)
      | (with_reducible exact ih2 _ _ _ _ _ _ _ _)
      | (with_reducible exact tiltyardlaw08_blank.mono _ _)
      | (with_reducible exact LeO.refl _)
      | (with_reducible exact LeO.none _)
      | (with_reducible refine LeO.ite ?_ ?_)
      | (with_reducible refine LeO.bind ?_ (fun _ => ?_))
      | exact ih0 _ _ _ _
      | exact ih1 _ _ _ _
      | exact ih2 _ _ _ _ _ _ _ _
      | exact tiltyardlaw08_blank.mono _ _
      | exact LeO.none _
      | refine LeO.ite ?_ ?_
      | refine LeO.bind ?_ (fun _ => ?_)
theorem tiltyardlaw08_TokenCovers.mono : ∀ a0 k, LeO (tiltyardlaw08_TokenCovers.f k a0) (tiltyardlaw08_TokenCovers.f (k + 1) a0) := by
  intro a0 k
  obtain ⟨ih0, ih1, ih2⟩ := tiltyardlaw08_TokenCovers.mono_l k
  unfold tiltyardlaw08_TokenCovers.f
  repeat' first
      | (with_reducible exact ih0 _ _ _ _)
      | (with_reducible exact ih1 _ _ _ _)
      | (with_reducible exact ih2 _ _ _ _ _ _ _ _)
      | (with_reducible exact tiltyardlaw08_blank.mono _ _)
      | (with_reducible exact LeO.refl _)
      | (with_reducible exact LeO.none _)
      | (with_reducible refine LeO.ite ?_ ?_)
      | (with_reducible refine LeO.bind ?_ (fun _ => ?_))
      | exact ih0 _ _ _ _
      | exact ih1 _ _ _ _
      | exact ih2 _ _ _ _ _ _ _ _
      | exact tiltyardlaw08_blank.mono _ _
      | exact LeO.none _
      | refine LeO.ite ?_ ?_
      | refine LeO.bind ?_ (fun _ => ?_)
set_option maxHeartbeats 8000000 in
set_option maxRecDepth 100000 in
theorem tiltyardlaw08_TokenCovers.calls (k : Nat) (a0 : ByteArray) (r : Bool) (w : World) (hW : FixW w) (h : tiltyardlaw08_TokenCovers.f k a0 = some r) :
    Calls Tryd.prog 4 #[.string a0] w fun e w' => e = .returned (.bool r) ∧ Below w.heap.size w w' := by
  have hu26 := Tryd.underlying26
  have hu31 := Tryd.underlying31
  have HB := Aside0.mk (Below.refl w.heap.size w)
  have HWX := Aside0.mk hW
  clear hW
  have H : ((tiltyardlaw08_awake.f).bind fun t253 => ((token_Tokens.f a0).bind fun bt254 => (if t253 = true then (tiltyardlaw08_TokenCovers.j0 k a0 t253 bt254.1 (bt254.2.1 != 0)) else (tiltyardlaw08_TokenCovers.j0 k a0 t253 bt254.1 true)))) = some r := h
  clear h
  replace H := Option.bind_eq_some_iff.mp H
  obtain ⟨t253, A20, H⟩ := H
  replace H : ((token_Tokens.f a0).bind fun bt254 => (if t253 = true then (tiltyardlaw08_TokenCovers.j0 k a0 t253 bt254.1 (bt254.2.1 != 0)) else (tiltyardlaw08_TokenCovers.j0 k a0 t253 bt254.1 true))) = some r := H
  have A2 := Aside0.mk A20
  clear A20
  replace H := Option.bind_eq_some_iff.mp H
  obtain ⟨⟨t254, t257, t258⟩, A30, H⟩ := H
  replace H : (if t253 = true then (tiltyardlaw08_TokenCovers.j0 k a0 t253 t254 (t257 != 0)) else (tiltyardlaw08_TokenCovers.j0 k a0 t253 t254 true)) = some r := H
  have A3 := Aside0.mk A30
  clear A30
  have HC4 := Aside0.mk H
  clear H
  go_enter Tryd.func4, Tryd.ntmps4
  go_upto_region 3 with (first | (go_at_call 8; (with_reducible refine (tiltyardlaw08_awake.calls  t253 _ A2.out (HWX.out.below (by repeat (first | (with_reducible first | exact HB.out | apply below_alloc | apply pw_below_drewN | apply below_drew1) | exact HB.out)))).mono ?_); rintro e w5 ⟨rfl, hb⟩; have n0_ := Aside0.mk (below_step (by repeat (first | (with_reducible first | exact HB.out | apply below_alloc | apply pw_below_drewN | apply below_drew1) | exact HB.out)) hb); clear HB; have HB := n0_; clear n0_; (try clear hb); (try clear hb2); (try clear hk); (try clear hi)) | (go_at_call 9; (with_reducible refine (token_Tokens.calls a0 t254 t257 t258 _ A3.out (HWX.out.below (by repeat (first | (with_reducible first | exact HB.out | apply below_alloc | apply pw_below_drewN | apply below_drew1) | exact HB.out)))).mono ?_); rintro e w6 ⟨v255, rfl, ho0, hb⟩; have n0_ := Aside0.mk (Kd.R_lower ho0 (below_size (by repeat (first | (with_reducible first | exact HB.out | apply below_alloc | apply pw_below_drewN | apply below_drew1) | exact HB.out)))); have n1_ := Aside0.mk (below_step (by repeat (first | (with_reducible first | exact HB.out | apply below_alloc | apply pw_below_drewN | apply below_drew1) | exact HB.out)) hb); clear HB; have HO256 := n0_; have HB := n1_; clear n0_ n1_; (try clear hb); (try clear hb2); (try clear hk); (try clear hi); (try clear ho0)) | ((with_reducible refine gate_dst (N := 5) rfl ?_); (try (refine gate_guard (by rfl) ?_; dsimp only)); refine box_event ?hg (N := 5) ?hd (cs := #[.int .i64 0, .int .i64 0]) (t := 26) ?hr ?_; (case hd => rfl); (case hg => rfl); (case hr => first | (go_simp; done) | (go_simp; rfl)); intro gb259 hg w7 hbox hb; have n0_ := Aside0.mk (Kd.R_below (by (with_reducible repeat (first | apply Kd.R_alloc | apply Kd.R_drewN | apply Kd.R_drew)); exact HO256.out) hb); have n1_ := Aside0.mk (below_step (by repeat (first | (with_reducible first | exact HB.out | apply below_alloc | apply pw_below_drewN | apply below_drew1) | exact HB.out)) hb); have n2_ := Aside0.mk (hbox); have n3_ := Aside0.mk ((by rw [hg]; exact (below_size (by repeat (first | (with_reducible first | exact HB.out | apply below_alloc | apply pw_below_drewN | apply below_drew1) | exact HB.out))) : w.heap.size ≤ gb259)); have n4_ := Aside0.mk ((by rw [hg]; exact (below_size (by repeat (first | (with_reducible first | exact HB.out | apply below_alloc | apply pw_below_drewN | apply below_drew1) | exact HB.out))) : w.heap.size ≤ gb259)); clear HO256; clear HB; have HO256 := n0_; have HB := n1_; have BK259 := n2_; have GW259 := n3_; have GE259 := n4_; clear n0_ n1_ n2_ n3_ n4_; clear hb hbox hg; have hcz8_0 : w7.cell? ⟨gb259, 0, none⟩ = some (.int .i64 0) := (blk_cell BK259.out 0).trans rfl; have hcz8_1 : w7.cell? ⟨gb259, 1, none⟩ = some (.int .i64 0) := (blk_cell BK259.out 1).trans rfl; have hfz8_0 := blk_frozen BK259.out 0; have hfz8_1 := blk_frozen BK259.out 1))
  repeat (go_quiet (first | (go_at_call 8; (with_reducible refine (tiltyardlaw08_awake.calls  t253 _ A2.out (HWX.out.below (by repeat (first | (with_reducible first | exact HB.out | apply below_alloc | apply pw_below_drewN | apply below_drew1) | exact HB.out)))).mono ?_); rintro e w5 ⟨rfl, hb⟩; have n0_ := Aside0.mk (below_step (by repeat (first | (with_reducible first | exact HB.out | apply below_alloc | apply pw_below_drewN | apply below_drew1) | exact HB.out)) hb); clear HB; have HB := n0_; clear n0_; (try clear hb); (try clear hb2); (try clear hk); (try clear hi)) | (go_at_call 9; (with_reducible refine (token_Tokens.calls a0 t254 t257 t258 _ A3.out (HWX.out.below (by repeat (first | (with_reducible first | exact HB.out | apply below_alloc | apply pw_below_drewN | apply below_drew1) | exact HB.out)))).mono ?_); rintro e w6 ⟨v255, rfl, ho0, hb⟩; have n0_ := Aside0.mk (Kd.R_lower ho0 (below_size (by repeat (first | (with_reducible first | exact HB.out | apply below_alloc | apply pw_below_drewN | apply below_drew1) | exact HB.out)))); have n1_ := Aside0.mk (below_step (by repeat (first | (with_reducible first | exact HB.out | apply below_alloc | apply pw_below_drewN | apply below_drew1) | exact HB.out)) hb); clear HB; have HO256 := n0_; have HB := n1_; clear n0_ n1_; (try clear hb); (try clear hb2); (try clear hk); (try clear hi); (try clear ho0)) | ((with_reducible refine gate_dst (N := 5) rfl ?_); (try (refine gate_guard (by rfl) ?_; dsimp only)); refine box_event ?hg (N := 5) ?hd (cs := #[.int .i64 0, .int .i64 0]) (t := 26) ?hr ?_; (case hd => rfl); (case hg => rfl); (case hr => first | (go_simp; done) | (go_simp; rfl)); intro gb259 hg w7 hbox hb; have n0_ := Aside0.mk (Kd.R_below (by (with_reducible repeat (first | apply Kd.R_alloc | apply Kd.R_drewN | apply Kd.R_drew)); exact HO256.out) hb); have n1_ := Aside0.mk (below_step (by repeat (first | (with_reducible first | exact HB.out | apply below_alloc | apply pw_below_drewN | apply below_drew1) | exact HB.out)) hb); have n2_ := Aside0.mk (hbox); have n3_ := Aside0.mk ((by rw [hg]; exact (below_size (by repeat (first | (with_reducible first | exact HB.out | apply below_alloc | apply pw_below_drewN | apply below_drew1) | exact HB.out))) : w.heap.size ≤ gb259)); have n4_ := Aside0.mk ((by rw [hg]; exact (below_size (by repeat (first | (with_reducible first | exact HB.out | apply below_alloc | apply pw_below_drewN | apply below_drew1) | exact HB.out))) : w.heap.size ≤ gb259)); clear HO256; clear HB; have HO256 := n0_; have HB := n1_; have BK259 := n2_; have GW259 := n3_; have GE259 := n4_; clear n0_ n1_ n2_ n3_ n4_; clear hb hbox hg; have hcz8_0 : w7.cell? ⟨gb259, 0, none⟩ = some (.int .i64 0) := (blk_cell BK259.out 0).trans rfl; have hcz8_1 : w7.cell? ⟨gb259, 1, none⟩ = some (.int .i64 0) := (blk_cell BK259.out 1).trans rfl; have hfz8_0 := blk_frozen BK259.out 0; have hfz8_1 := blk_frozen BK259.out 1)); go_upto_region 3 with (first | (go_at_call 8; (with_reducible refine (tiltyardlaw08_awake.calls  t253 _ A2.out (HWX.out.below (by repeat (first | (with_reducible first | exact HB.out | apply below_alloc | apply pw_below_drewN | apply below_drew1) | exact HB.out)))).mono ?_); rintro e w5 ⟨rfl, hb⟩; have n0_ := Aside0.mk (below_step (by repeat (first | (with_reducible first | exact HB.out | apply below_alloc | apply pw_below_drewN | apply below_drew1) | exact HB.out)) hb); clear HB; have HB := n0_; clear n0_; (try clear hb); (try clear hb2); (try clear hk); (try clear hi)) | (go_at_call 9; (with_reducible refine (token_Tokens.calls a0 t254 t257 t258 _ A3.out (HWX.out.below (by repeat (first | (with_reducible first | exact HB.out | apply below_alloc | apply pw_below_drewN | apply below_drew1) | exact HB.out)))).mono ?_); rintro e w6 ⟨v255, rfl, ho0, hb⟩; have n0_ := Aside0.mk (Kd.R_lower ho0 (below_size (by repeat (first | (with_reducible first | exact HB.out | apply below_alloc | apply pw_below_drewN | apply below_drew1) | exact HB.out)))); have n1_ := Aside0.mk (below_step (by repeat (first | (with_reducible first | exact HB.out | apply below_alloc | apply pw_below_drewN | apply below_drew1) | exact HB.out)) hb); clear HB; have HO256 := n0_; have HB := n1_; clear n0_ n1_; (try clear hb); (try clear hb2); (try clear hk); (try clear hi); (try clear ho0)) | ((with_reducible refine gate_dst (N := 5) rfl ?_); (try (refine gate_guard (by rfl) ?_; dsimp only)); refine box_event ?hg (N := 5) ?hd (cs := #[.int .i64 0, .int .i64 0]) (t := 26) ?hr ?_; (case hd => rfl); (case hg => rfl); (case hr => first | (go_simp; done) | (go_simp; rfl)); intro gb259 hg w7 hbox hb; have n0_ := Aside0.mk (Kd.R_below (by (with_reducible repeat (first | apply Kd.R_alloc | apply Kd.R_drewN | apply Kd.R_drew)); exact HO256.out) hb); have n1_ := Aside0.mk (below_step (by repeat (first | (with_reducible first | exact HB.out | apply below_alloc | apply pw_below_drewN | apply below_drew1) | exact HB.out)) hb); have n2_ := Aside0.mk (hbox); have n3_ := Aside0.mk ((by rw [hg]; exact (below_size (by repeat (first | (with_reducible first | exact HB.out | apply below_alloc | apply pw_below_drewN | apply below_drew1) | exact HB.out))) : w.heap.size ≤ gb259)); have n4_ := Aside0.mk ((by rw [hg]; exact (below_size (by repeat (first | (with_reducible first | exact HB.out | apply below_alloc | apply pw_below_drewN | apply below_drew1) | exact HB.out))) : w.heap.size ≤ gb259)); clear HO256; clear HB; have HO256 := n0_; have HB := n1_; have BK259 := n2_; have GW259 := n3_; have GE259 := n4_; clear n0_ n1_ n2_ n3_ n4_; clear hb hbox hg; have hcz8_0 : w7.cell? ⟨gb259, 0, none⟩ = some (.int .i64 0) := (blk_cell BK259.out 0).trans rfl; have hcz8_1 : w7.cell? ⟨gb259, 1, none⟩ = some (.int .i64 0) := (blk_cell BK259.out 1).trans rfl; have hfz8_0 := blk_frozen BK259.out 0; have hfz8_1 := blk_frozen BK259.out 1)))
  (try simp only [Act.put, List.setIfInBounds_toArray, List.set_cons_zero, List.set_cons_succ])
  go_cut [22] (fun v22 wc => ∃ (kq : Nat) (x22_3 : Bool), v22 = .bool x22_3 ∧ Aside0 (tiltyardlaw08_TokenCovers.j0 kq a0 t253 t254 x22_3 = some r) ∧ Aside0 (kq ≤ k) ∧ Aside0 (Kd.R k31 31 wc w.heap.size (fun _ => True) v255 t254) ∧ Aside0 (wc.heap[gb259]? = some (.cells #[.int .i64 t257, .int .i64 t258] 26 (0, 0))) ∧ Aside0 (Below w.heap.size w wc))
  case first =>
    have H := HC4.out
    clear HC4
    by_cases c9 : t253 = true
    · subst c9
      have H1 : (tiltyardlaw08_TokenCovers.j0 k a0 true t254 (t257 != 0)) = some r := by rw [if_pos rfl] at H; exact H
      clear H
      have H := H1
      clear H1
      have H' := Aside0.mk H
      clear H
      have hcz10_0 : w7.cell? ⟨gb259, 0, none⟩ = some (.int .i64 0) := (blk_cell BK259.out 0).trans rfl
      have hcz10_1 : w7.cell? ⟨gb259, 1, none⟩ = some (.int .i64 0) := (blk_cell BK259.out 1).trans rfl
      have hfz10_0 := blk_frozen BK259.out 0
      have hfz10_1 := blk_frozen BK259.out 1
      go_wp2
      repeat (go_quiet (fail); try go_wp2)
      go_meet
      case rel => exact ⟨_, ((t257 != 0)), (by first | rfl | (simp; done) | (simp [*]; done) | (simp [*]; generalize List.isEmpty _ = q_; generalize ((_ : Int) == _) = p_; cases p_ <;> cases q_ <;> rfl)), H', ⟨by first | omega | exact Nat.le_refl _⟩, ⟨by (with_reducible repeat (first | apply Kd.R_alloc | apply Kd.R_drewN | apply Kd.R_drew)); exact Kd.R_mono (Kd.R_far (p := ⟨gb259, 1, none⟩) (Kd.R_far (p := ⟨gb259, 0, none⟩) (Kd.R_types HO256.out BK259.out (by decide)) (fun _ hk => hk.2) (.int .i64 t257)) (fun _ hk => hk.2) (.int .i64 t258)) (fun _ hk => trivial)⟩, ⟨by (with_reducible repeat (first | refine blk_drewN ?_ _ | refine blk_drew ?_ | refine blk_alloc ?_ _)); refine blk_put (cs := #[.int .i64 t257, .int .i64 0]) ?_ 1 _ rfl; (with_reducible repeat (first | refine blk_drewN ?_ _ | refine blk_drew ?_ | refine blk_alloc ?_ _)); refine blk_put (cs := #[.int .i64 0, .int .i64 0]) ?_ 0 _ rfl; (with_reducible repeat (first | refine blk_drewN ?_ _ | refine blk_drew ?_ | refine blk_alloc ?_ _)); exact BK259.out⟩, ⟨by repeat (first | (with_reducible first | exact HB.out | apply below_alloc | apply pw_below_drewN | apply below_drew1 | refine below_set ?_ GE259.out) | exact HB.out)⟩⟩
    · replace c9 := Bool.eq_false_iff.mpr c9
      subst c9
      have H1 : (tiltyardlaw08_TokenCovers.j0 k a0 false t254 true) = some r := by rw [if_neg (show ¬ (false = true) by decide)] at H; exact H
      clear H
      have H := H1
      clear H1
      have H' := Aside0.mk H
      clear H
      go_wp2
      repeat (go_quiet (fail); try go_wp2)
      go_meet
      case rel => exact ⟨_, (true), (by first | rfl | (simp; done) | (simp [*]; done) | (simp [*]; generalize List.isEmpty _ = q_; generalize ((_ : Int) == _) = p_; cases p_ <;> cases q_ <;> rfl)), H', ⟨by first | omega | exact Nat.le_refl _⟩, ⟨by (with_reducible repeat (first | apply Kd.R_alloc | apply Kd.R_drewN | apply Kd.R_drew)); exact Kd.R_mono (Kd.R_far (p := ⟨gb259, 1, none⟩) (Kd.R_far (p := ⟨gb259, 0, none⟩) (Kd.R_types HO256.out BK259.out (by decide)) (fun _ hk => hk.2) (.int .i64 t257)) (fun _ hk => hk.2) (.int .i64 t258)) (fun _ hk => trivial)⟩, ⟨by (with_reducible repeat (first | refine blk_drewN ?_ _ | refine blk_drew ?_ | refine blk_alloc ?_ _)); refine blk_put (cs := #[.int .i64 t257, .int .i64 0]) ?_ 1 _ rfl; (with_reducible repeat (first | refine blk_drewN ?_ _ | refine blk_drew ?_ | refine blk_alloc ?_ _)); refine blk_put (cs := #[.int .i64 0, .int .i64 0]) ?_ 0 _ rfl; (with_reducible repeat (first | refine blk_drewN ?_ _ | refine blk_drew ?_ | refine blk_alloc ?_ _)); exact BK259.out⟩, ⟨by repeat (first | (with_reducible first | exact HB.out | apply below_alloc | apply pw_below_drewN | apply below_drew1 | refine below_set ?_ GE259.out) | exact HB.out)⟩⟩
  case rest =>
    clear HC4
    try clear p2
    try clear c4
    try clear c9
    try clear hcz10_0
    try clear hcz10_1
    try clear hcz8_0
    try clear hcz8_1
    try clear hfz10_0
    try clear hfz10_1
    try clear hfz8_0
    try clear hfz8_1
    obtain ⟨kq, x22_3, rfl, HA, HJ3, HO_4, BK259, HB⟩ := hcut
    cases kq with
    | zero => exact absurd HA.out (by simp [tiltyardlaw08_TokenCovers.j0])
    | succ kj3 =>
      have H := HA.out
      clear HA
      simp only [tiltyardlaw08_TokenCovers.j0] at H
      by_cases c11 : x22_3 = true
      · subst c11
        have H1 : (if t253 = true then (some ((t254.length : Int) == 0)) else (some false)) = some r := by rw [if_pos rfl] at H; exact H
        clear H
        have H := H1
        clear H1
        by_cases c12 : t253 = true
        · subst c12
          have H1 : (some ((t254.length : Int) == 0)) = some r := by rw [if_pos rfl] at H; exact H
          clear H
          have H := H1
          clear H1
          obtain rfl := Option.some.inj H
          obtain ⟨Ao13, co13, eo13⟩ := Kd.R_slice HO_4.out
          subst eo13
          go_wp2
          repeat (go_quiet (fail); try go_wp2)
          go_ret
          exact ⟨by first | rfl | (simp [errW_none, errW_some] <;> rfl) | (simp [*, errW_none, errW_some] <;> rfl), by repeat (first | (with_reducible first | exact HB.out | apply below_alloc | apply pw_below_drewN | apply below_drew1 | refine below_set ?_ GE259.out) | exact HB.out)⟩
        · replace c12 := Bool.eq_false_iff.mpr c12
          subst c12
          have H1 : (some false) = some r := by rw [if_neg (show ¬ (false = true) by decide)] at H; exact H
          clear H
          have H := H1
          clear H1
          obtain rfl := Option.some.inj H
          go_wp2
          repeat (go_quiet (fail); try go_wp2)
          go_ret
          exact ⟨by first | rfl | (simp [errW_none, errW_some] <;> rfl) | (simp [*, errW_none, errW_some] <;> rfl), by repeat (first | (with_reducible first | exact HB.out | apply below_alloc | apply pw_below_drewN | apply below_drew1 | refine below_set ?_ GE259.out) | exact HB.out)⟩
      · replace c11 := Bool.eq_false_iff.mpr c11
        subst c11
        have H1 : (tiltyardlaw08_TokenCovers.l0 kj3 a0 t254 0 0) = some r := by rw [if_neg (show ¬ (false = true) by decide)] at H; exact H
        clear H
        have H := H1
        clear H1
        have H' := Aside0.mk H
        clear H
        go_wp2
        repeat (go_quiet (fail); try go_wp2)
        go_loopg [6, 7] kj3 (fun kq v6 v7 w' => ∃ (x6_2 : Int) (x7_2 : Int), v6 = .int .i64 x6_2 ∧ v7 = .int .i64 x7_2 ∧ Aside0 (tiltyardlaw08_TokenCovers.l0 kq a0 t254 x6_2 x7_2 = some r) ∧ Aside0 (kq ≤ kj3) ∧ Aside0 (Kd.R k31 31 w' w.heap.size (fun _ => True) v255 t254) ∧ Aside0 (w'.heap[gb259]? = some (.cells #[.int .i64 t257, .int .i64 t258] 26 (0, 0))) ∧ Aside0 (Below w.heap.size w w'))
        case atStart => exact ⟨(0), (0), (by first | rfl | (simp; done) | (simp [*]; done) | (simp [*]; generalize List.isEmpty _ = q_; generalize ((_ : Int) == _) = p_; cases p_ <;> cases q_ <;> rfl)), (by first | rfl | (simp; done) | (simp [*]; done) | (simp [*]; generalize List.isEmpty _ = q_; generalize ((_ : Int) == _) = p_; cases p_ <;> cases q_ <;> rfl)), H', ⟨Nat.le_refl _⟩, ⟨by (with_reducible repeat (first | apply Kd.R_alloc | apply Kd.R_drewN | apply Kd.R_drew)); exact HO_4.out⟩, ⟨by (with_reducible repeat (first | refine blk_drewN ?_ _ | refine blk_drew ?_ | refine blk_alloc ?_ _)); exact BK259.out⟩, ⟨by repeat (first | (with_reducible first | exact HB.out | apply below_alloc | apply pw_below_drewN | apply below_drew1 | refine below_set ?_ GE259.out) | exact HB.out)⟩⟩
        case round =>
          clear H'
          try clear c1
          try clear p2
          try clear c4
          try clear c9
          try clear c11
          try clear c12
          try clear hcz10_0
          try clear hcz10_1
          try clear hcz8_0
          try clear hcz8_1
          try clear hfz10_0
          try clear hfz10_1
          try clear hfz8_0
          try clear hfz8_1
          try clear p2
          obtain ⟨x6_2, x7_2, rfl, rfl, HA, HK2, HO_4, BK259, HB⟩ := hrel
          cases gk with
          | zero => exact absurd HA.out (by simp [tiltyardlaw08_TokenCovers.l0])
          | succ k2 =>
            have H := HA.out
            clear HA
            simp only [tiltyardlaw08_TokenCovers.l0] at H
            by_cases c14 : x7_2 < (t254.length : Int)
            · rw [if_pos c14] at H
              have c14b0 : decide (x7_2 < (t254.length : Int)) = true := decide_eq_true c14
              clear c14
              by_cases c15 : 0 ≤ x7_2
              · rw [if_pos c15] at H
                have c15b0 : decide (0 ≤ x7_2) = true := decide_eq_true c15
                clear c15
                have HC16 := Aside0.mk H
                clear H
                obtain ⟨Ao17, co17, eo17⟩ := Kd.R_slice HO_4.out
                subst eo17
                have p261 : 0 ≤ (x7_2 : Int) := of_decide_eq_true (by first | (with_reducible assumption) | assumption)
                have q261 : x7_2 < (t254.length : Int) := of_decide_eq_true (by first | (with_reducible assumption) | assumption)
                obtain ⟨ad261, e261, hx261_0, hx261_1, hx261_2⟩ := at_T31 (Kd.R_reads' HO_4.out).2.2 x7_2 p261 q261
                cases e261
                replace p261 := eq_true p261
                replace q261 := eq_true q261
                go_upto_region 10 with (first | ((with_reducible refine gate_dst (N := 8) rfl ?_); (try (refine gate_guard (by rfl) ?_; dsimp only)); refine box_event ?hg (N := 8) ?hd (cs := #[.int .i64 0, .string (⟨#[]⟩ : ByteArray), .int .i64 0]) (t := 31) ?hr ?_; (case hd => rfl); (case hg => rfl); (case hr => first | (go_simp; done) | (go_simp; rfl)); intro gb262 hg w18 hbox hb; have n0_ := Aside0.mk (Kd.R_below (Kd.R_elderB (by (with_reducible repeat (first | apply Kd.R_alloc | apply Kd.R_drewN | apply Kd.R_drew)); exact HO_4.out) gb262 (Nat.le_of_eq hg.symm)) hb); have n1_ := Aside0.mk (blk_below (g := gb259) (o := .cells #[.int .i64 t257, .int .i64 t258] 26 (0, 0)) (by (with_reducible repeat (first | refine blk_drewN ?_ _ | refine blk_drew ?_ | refine blk_alloc ?_ _)); exact BK259.out) hb); have n2_ := Aside0.mk (below_step (by repeat (first | (with_reducible first | exact HB.out | apply below_alloc | apply pw_below_drewN | apply below_drew1 | refine below_set ?_ GE259.out) | exact HB.out)) hb); have n3_ := Aside0.mk (hbox); have n4_ := Aside0.mk ((by rw [hg]; exact (below_size (by repeat (first | (with_reducible first | exact HB.out | apply below_alloc | apply pw_below_drewN | apply below_drew1 | refine below_set ?_ GE259.out) | exact HB.out))) : w.heap.size ≤ gb262)); have n5_ := Aside0.mk ((by rw [hg]; exact (below_size (by repeat (first | (with_reducible first | exact HB.out | apply below_alloc | apply pw_below_drewN | apply below_drew1 | refine below_set ?_ GE259.out) | exact HB.out))) : w.heap.size ≤ gb262)); have n6_ := Aside0.mk ((by rw [hg]; exact Nat.ne_of_lt (blk_lt (g := gb259) (o := .cells #[.int .i64 t257, .int .i64 t258] 26 (0, 0)) (by (with_reducible repeat (first | refine blk_drewN ?_ _ | refine blk_drew ?_ | refine blk_alloc ?_ _)); exact BK259.out)) : gb259 ≠ gb262)); have n7_ := Aside0.mk ((by rw [hg]; exact Nat.ne_of_gt (blk_lt (g := gb259) (o := .cells #[.int .i64 t257, .int .i64 t258] 26 (0, 0)) (by (with_reducible repeat (first | refine blk_drewN ?_ _ | refine blk_drew ?_ | refine blk_alloc ?_ _)); exact BK259.out)) : gb262 ≠ gb259)); clear HO_4; clear BK259; clear HB; have HO_4 := n0_; have BK259 := n1_; have HB := n2_; have BK262 := n3_; have GW262 := n4_; have GE262 := n5_; have NB259_262 := n6_; have NB262_259 := n7_; clear n0_ n1_ n2_ n3_ n4_ n5_ n6_ n7_; clear hb hbox hg; have hnb19 := NB262_259.out; have hnc19 := NB259_262.out; have hcz20_0 : w18.cell? ⟨gb262, 0, none⟩ = some (.int .i64 0) := (blk_cell BK262.out 0).trans rfl; have hcz20_1 : w18.cell? ⟨gb262, 1, none⟩ = some (.string (⟨#[]⟩ : ByteArray)) := (blk_cell BK262.out 1).trans rfl; have hcz20_2 : w18.cell? ⟨gb262, 2, none⟩ = some (.int .i64 0) := (blk_cell BK262.out 2).trans rfl; have hfz20_0 := blk_frozen BK262.out 0; have hfz20_1 := blk_frozen BK262.out 1; have hfz20_2 := blk_frozen BK262.out 2))
                repeat (go_quiet (first | ((with_reducible refine gate_dst (N := 8) rfl ?_); (try (refine gate_guard (by rfl) ?_; dsimp only)); refine box_event ?hg (N := 8) ?hd (cs := #[.int .i64 0, .string (⟨#[]⟩ : ByteArray), .int .i64 0]) (t := 31) ?hr ?_; (case hd => rfl); (case hg => rfl); (case hr => first | (go_simp; done) | (go_simp; rfl)); intro gb262 hg w18 hbox hb; have n0_ := Aside0.mk (Kd.R_below (Kd.R_elderB (by (with_reducible repeat (first | apply Kd.R_alloc | apply Kd.R_drewN | apply Kd.R_drew)); exact HO_4.out) gb262 (Nat.le_of_eq hg.symm)) hb); have n1_ := Aside0.mk (blk_below (g := gb259) (o := .cells #[.int .i64 t257, .int .i64 t258] 26 (0, 0)) (by (with_reducible repeat (first | refine blk_drewN ?_ _ | refine blk_drew ?_ | refine blk_alloc ?_ _)); exact BK259.out) hb); have n2_ := Aside0.mk (below_step (by repeat (first | (with_reducible first | exact HB.out | apply below_alloc | apply pw_below_drewN | apply below_drew1 | refine below_set ?_ GE259.out) | exact HB.out)) hb); have n3_ := Aside0.mk (hbox); have n4_ := Aside0.mk ((by rw [hg]; exact (below_size (by repeat (first | (with_reducible first | exact HB.out | apply below_alloc | apply pw_below_drewN | apply below_drew1 | refine below_set ?_ GE259.out) | exact HB.out))) : w.heap.size ≤ gb262)); have n5_ := Aside0.mk ((by rw [hg]; exact (below_size (by repeat (first | (with_reducible first | exact HB.out | apply below_alloc | apply pw_below_drewN | apply below_drew1 | refine below_set ?_ GE259.out) | exact HB.out))) : w.heap.size ≤ gb262)); have n6_ := Aside0.mk ((by rw [hg]; exact Nat.ne_of_lt (blk_lt (g := gb259) (o := .cells #[.int .i64 t257, .int .i64 t258] 26 (0, 0)) (by (with_reducible repeat (first | refine blk_drewN ?_ _ | refine blk_drew ?_ | refine blk_alloc ?_ _)); exact BK259.out)) : gb259 ≠ gb262)); have n7_ := Aside0.mk ((by rw [hg]; exact Nat.ne_of_gt (blk_lt (g := gb259) (o := .cells #[.int .i64 t257, .int .i64 t258] 26 (0, 0)) (by (with_reducible repeat (first | refine blk_drewN ?_ _ | refine blk_drew ?_ | refine blk_alloc ?_ _)); exact BK259.out)) : gb262 ≠ gb259)); clear HO_4; clear BK259; clear HB; have HO_4 := n0_; have BK259 := n1_; have HB := n2_; have BK262 := n3_; have GW262 := n4_; have GE262 := n5_; have NB259_262 := n6_; have NB262_259 := n7_; clear n0_ n1_ n2_ n3_ n4_ n5_ n6_ n7_; clear hb hbox hg; have hnb19 := NB262_259.out; have hnc19 := NB259_262.out; have hcz20_0 : w18.cell? ⟨gb262, 0, none⟩ = some (.int .i64 0) := (blk_cell BK262.out 0).trans rfl; have hcz20_1 : w18.cell? ⟨gb262, 1, none⟩ = some (.string (⟨#[]⟩ : ByteArray)) := (blk_cell BK262.out 1).trans rfl; have hcz20_2 : w18.cell? ⟨gb262, 2, none⟩ = some (.int .i64 0) := (blk_cell BK262.out 2).trans rfl; have hfz20_0 := blk_frozen BK262.out 0; have hfz20_1 := blk_frozen BK262.out 1; have hfz20_2 := blk_frozen BK262.out 2)); go_upto_region 10 with (first | ((with_reducible refine gate_dst (N := 8) rfl ?_); (try (refine gate_guard (by rfl) ?_; dsimp only)); refine box_event ?hg (N := 8) ?hd (cs := #[.int .i64 0, .string (⟨#[]⟩ : ByteArray), .int .i64 0]) (t := 31) ?hr ?_; (case hd => rfl); (case hg => rfl); (case hr => first | (go_simp; done) | (go_simp; rfl)); intro gb262 hg w18 hbox hb; have n0_ := Aside0.mk (Kd.R_below (Kd.R_elderB (by (with_reducible repeat (first | apply Kd.R_alloc | apply Kd.R_drewN | apply Kd.R_drew)); exact HO_4.out) gb262 (Nat.le_of_eq hg.symm)) hb); have n1_ := Aside0.mk (blk_below (g := gb259) (o := .cells #[.int .i64 t257, .int .i64 t258] 26 (0, 0)) (by (with_reducible repeat (first | refine blk_drewN ?_ _ | refine blk_drew ?_ | refine blk_alloc ?_ _)); exact BK259.out) hb); have n2_ := Aside0.mk (below_step (by repeat (first | (with_reducible first | exact HB.out | apply below_alloc | apply pw_below_drewN | apply below_drew1 | refine below_set ?_ GE259.out) | exact HB.out)) hb); have n3_ := Aside0.mk (hbox); have n4_ := Aside0.mk ((by rw [hg]; exact (below_size (by repeat (first | (with_reducible first | exact HB.out | apply below_alloc | apply pw_below_drewN | apply below_drew1 | refine below_set ?_ GE259.out) | exact HB.out))) : w.heap.size ≤ gb262)); have n5_ := Aside0.mk ((by rw [hg]; exact (below_size (by repeat (first | (with_reducible first | exact HB.out | apply below_alloc | apply pw_below_drewN | apply below_drew1 | refine below_set ?_ GE259.out) | exact HB.out))) : w.heap.size ≤ gb262)); have n6_ := Aside0.mk ((by rw [hg]; exact Nat.ne_of_lt (blk_lt (g := gb259) (o := .cells #[.int .i64 t257, .int .i64 t258] 26 (0, 0)) (by (with_reducible repeat (first | refine blk_drewN ?_ _ | refine blk_drew ?_ | refine blk_alloc ?_ _)); exact BK259.out)) : gb259 ≠ gb262)); have n7_ := Aside0.mk ((by rw [hg]; exact Nat.ne_of_gt (blk_lt (g := gb259) (o := .cells #[.int .i64 t257, .int .i64 t258] 26 (0, 0)) (by (with_reducible repeat (first | refine blk_drewN ?_ _ | refine blk_drew ?_ | refine blk_alloc ?_ _)); exact BK259.out)) : gb262 ≠ gb259)); clear HO_4; clear BK259; clear HB; have HO_4 := n0_; have BK259 := n1_; have HB := n2_; have BK262 := n3_; have GW262 := n4_; have GE262 := n5_; have NB259_262 := n6_; have NB262_259 := n7_; clear n0_ n1_ n2_ n3_ n4_ n5_ n6_ n7_; clear hb hbox hg; have hnb19 := NB262_259.out; have hnc19 := NB259_262.out; have hcz20_0 : w18.cell? ⟨gb262, 0, none⟩ = some (.int .i64 0) := (blk_cell BK262.out 0).trans rfl; have hcz20_1 : w18.cell? ⟨gb262, 1, none⟩ = some (.string (⟨#[]⟩ : ByteArray)) := (blk_cell BK262.out 1).trans rfl; have hcz20_2 : w18.cell? ⟨gb262, 2, none⟩ = some (.int .i64 0) := (blk_cell BK262.out 2).trans rfl; have hfz20_0 := blk_frozen BK262.out 0; have hfz20_1 := blk_frozen BK262.out 1; have hfz20_2 := blk_frozen BK262.out 2)))
                (try simp only [Act.put, List.setIfInBounds_toArray, List.set_cons_zero, List.set_cons_succ])
                go_cut [86] (fun v86 wc => ∃ (kq : Nat) (x86_15 : Bool), v86 = .bool x86_15 ∧ Aside0 (tiltyardlaw08_TokenCovers.j2 kq a0 t254 x6_2 x7_2 x86_15 ((rd_T31 t254 x7_2).f0) ((rd_T31 t254 x7_2).f1) ((rd_T31 t254 x7_2).f2) = some r) ∧ Aside0 (kq ≤ k2) ∧ Aside0 (Kd.R k31 31 wc w.heap.size (fun k_ => k_ ≠ gb262) (.slice (some ad261) t254.length co17) t254) ∧ Aside0 (wc.heap[gb259]? = some (.cells #[.int .i64 t257, .int .i64 t258] 26 (0, 0))) ∧ Aside0 (wc.heap[gb262]? = some (.cells #[.int .i64 ((rd_T31 t254 x7_2).f0), .string ((rd_T31 t254 x7_2).f1), .int .i64 ((rd_T31 t254 x7_2).f2)] 31 (0, 0))) ∧ Aside0 (Below w.heap.size w wc))
                case first =>
                  have H := HC16.out
                  clear HC16
                  by_cases c21 : ((rd_T31 t254 x7_2).f2) < x6_2
                  · rw [if_pos c21] at H
                    have c21b0 : decide (((rd_T31 t254 x7_2).f2) < x6_2) = true := decide_eq_true c21
                    clear c21
                    (first | rw [c21b0] | (simp only [i64_w, i32_w]; rw [c21b0]) | skip)
                    have H' := Aside0.mk H
                    clear H
                    have hnb22 := NB262_259.out
                    have hnc22 := NB259_262.out
                    have hcz23_0 : w18.cell? ⟨gb262, 0, none⟩ = some (.int .i64 0) := (blk_cell BK262.out 0).trans rfl
                    have hcz23_1 : w18.cell? ⟨gb262, 1, none⟩ = some (.string (⟨#[]⟩ : ByteArray)) := (blk_cell BK262.out 1).trans rfl
                    have hcz23_2 : w18.cell? ⟨gb262, 2, none⟩ = some (.int .i64 0) := (blk_cell BK262.out 2).trans rfl
                    have hfz23_0 := blk_frozen BK262.out 0
                    have hfz23_1 := blk_frozen BK262.out 1
                    have hfz23_2 := blk_frozen BK262.out 2
                    go_wp2
                    repeat (go_quiet (fail); try go_wp2)
                    go_meet
                    case rel => exact ⟨_, (true), (by first | rfl | (simp; done) | (simp [*]; done) | (simp [*]; generalize List.isEmpty _ = q_; generalize ((_ : Int) == _) = p_; cases p_ <;> cases q_ <;> rfl)), H', ⟨by have := HJ3.out; have := HK2.out; first | omega | exact Nat.le_refl _⟩, ⟨by (with_reducible repeat (first | apply Kd.R_alloc | apply Kd.R_drewN | apply Kd.R_drew)); exact Kd.R_mono (Kd.R_far (p := ⟨gb262, 2, none⟩) (Kd.R_far (p := ⟨gb262, 1, none⟩) (Kd.R_far (p := ⟨gb262, 0, none⟩) (Kd.R_mono HO_4.out (fun k_ hk => (⟨hk, hk.2⟩ : _ ∧ k_ ≠ gb262))) (fun _ hk => hk.2) (.int .i64 ((rd_T31 t254 x7_2).f0))) (fun _ hk => hk.2) (.string ((rd_T31 t254 x7_2).f1))) (fun _ hk => hk.2) (.int .i64 ((rd_T31 t254 x7_2).f2))) (fun _ hk => hk.1.2)⟩, ⟨by (with_reducible repeat (first | refine blk_drewN ?_ _ | refine blk_drew ?_ | refine blk_alloc ?_ _)); refine blk_far ?_ NB259_262.out _; (with_reducible repeat (first | refine blk_drewN ?_ _ | refine blk_drew ?_ | refine blk_alloc ?_ _)); refine blk_far ?_ NB259_262.out _; (with_reducible repeat (first | refine blk_drewN ?_ _ | refine blk_drew ?_ | refine blk_alloc ?_ _)); refine blk_far ?_ NB259_262.out _; (with_reducible repeat (first | refine blk_drewN ?_ _ | refine blk_drew ?_ | refine blk_alloc ?_ _)); exact BK259.out⟩, ⟨by (with_reducible repeat (first | refine blk_drewN ?_ _ | refine blk_drew ?_ | refine blk_alloc ?_ _)); refine blk_put (cs := #[.int .i64 ((rd_T31 t254 x7_2).f0), .string ((rd_T31 t254 x7_2).f1), .int .i64 0]) ?_ 2 _ rfl; (with_reducible repeat (first | refine blk_drewN ?_ _ | refine blk_drew ?_ | refine blk_alloc ?_ _)); refine blk_put (cs := #[.int .i64 ((rd_T31 t254 x7_2).f0), .string (⟨#[]⟩ : ByteArray), .int .i64 0]) ?_ 1 _ rfl; (with_reducible repeat (first | refine blk_drewN ?_ _ | refine blk_drew ?_ | refine blk_alloc ?_ _)); refine blk_put (cs := #[.int .i64 0, .string (⟨#[]⟩ : ByteArray), .int .i64 0]) ?_ 0 _ rfl; (with_reducible repeat (first | refine blk_drewN ?_ _ | refine blk_drew ?_ | refine blk_alloc ?_ _)); exact BK262.out⟩, ⟨by repeat (first | (with_reducible first | exact HB.out | apply below_alloc | apply pw_below_drewN | apply below_drew1 | refine below_set ?_ GE259.out | refine below_set ?_ GE262.out) | exact HB.out)⟩⟩
                  · rw [if_neg c21] at H
                    have c21b0 : decide (((rd_T31 t254 x7_2).f2) < x6_2) = false := decide_eq_false c21
                    clear c21
                    (first | rw [c21b0] | (simp only [i64_w, i32_w]; rw [c21b0]) | skip)
                    by_cases c24 : ((rd_T31 t254 x7_2).f2) > (a0.size : Int)
                    · rw [if_pos c24] at H
                      have c24b0 : decide ((a0.size : Int) < ((rd_T31 t254 x7_2).f2)) = true := decide_eq_true c24
                      clear c24
                      have H' := Aside0.mk H
                      clear H
                      have hnb25 := NB262_259.out
                      have hnc25 := NB259_262.out
                      have hcz26_0 : w18.cell? ⟨gb262, 0, none⟩ = some (.int .i64 0) := (blk_cell BK262.out 0).trans rfl
                      have hcz26_1 : w18.cell? ⟨gb262, 1, none⟩ = some (.string (⟨#[]⟩ : ByteArray)) := (blk_cell BK262.out 1).trans rfl
                      have hcz26_2 : w18.cell? ⟨gb262, 2, none⟩ = some (.int .i64 0) := (blk_cell BK262.out 2).trans rfl
                      have hfz26_0 := blk_frozen BK262.out 0
                      have hfz26_1 := blk_frozen BK262.out 1
                      have hfz26_2 := blk_frozen BK262.out 2
                      go_wp2
                      repeat (go_quiet (fail); try go_wp2)
                      go_meet
                      case rel => exact ⟨_, (true), (by first | rfl | (simp; done) | (simp [*]; done) | (simp [*]; generalize List.isEmpty _ = q_; generalize ((_ : Int) == _) = p_; cases p_ <;> cases q_ <;> rfl)), H', ⟨by have := HJ3.out; have := HK2.out; first | omega | exact Nat.le_refl _⟩, ⟨by (with_reducible repeat (first | apply Kd.R_alloc | apply Kd.R_drewN | apply Kd.R_drew)); exact Kd.R_mono (Kd.R_far (p := ⟨gb262, 2, none⟩) (Kd.R_far (p := ⟨gb262, 1, none⟩) (Kd.R_far (p := ⟨gb262, 0, none⟩) (Kd.R_mono HO_4.out (fun k_ hk => (⟨hk, hk.2⟩ : _ ∧ k_ ≠ gb262))) (fun _ hk => hk.2) (.int .i64 ((rd_T31 t254 x7_2).f0))) (fun _ hk => hk.2) (.string ((rd_T31 t254 x7_2).f1))) (fun _ hk => hk.2) (.int .i64 ((rd_T31 t254 x7_2).f2))) (fun _ hk => hk.1.2)⟩, ⟨by (with_reducible repeat (first | refine blk_drewN ?_ _ | refine blk_drew ?_ | refine blk_alloc ?_ _)); refine blk_far ?_ NB259_262.out _; (with_reducible repeat (first | refine blk_drewN ?_ _ | refine blk_drew ?_ | refine blk_alloc ?_ _)); refine blk_far ?_ NB259_262.out _; (with_reducible repeat (first | refine blk_drewN ?_ _ | refine blk_drew ?_ | refine blk_alloc ?_ _)); refine blk_far ?_ NB259_262.out _; (with_reducible repeat (first | refine blk_drewN ?_ _ | refine blk_drew ?_ | refine blk_alloc ?_ _)); exact BK259.out⟩, ⟨by (with_reducible repeat (first | refine blk_drewN ?_ _ | refine blk_drew ?_ | refine blk_alloc ?_ _)); refine blk_put (cs := #[.int .i64 ((rd_T31 t254 x7_2).f0), .string ((rd_T31 t254 x7_2).f1), .int .i64 0]) ?_ 2 _ rfl; (with_reducible repeat (first | refine blk_drewN ?_ _ | refine blk_drew ?_ | refine blk_alloc ?_ _)); refine blk_put (cs := #[.int .i64 ((rd_T31 t254 x7_2).f0), .string (⟨#[]⟩ : ByteArray), .int .i64 0]) ?_ 1 _ rfl; (with_reducible repeat (first | refine blk_drewN ?_ _ | refine blk_drew ?_ | refine blk_alloc ?_ _)); refine blk_put (cs := #[.int .i64 0, .string (⟨#[]⟩ : ByteArray), .int .i64 0]) ?_ 0 _ rfl; (with_reducible repeat (first | refine blk_drewN ?_ _ | refine blk_drew ?_ | refine blk_alloc ?_ _)); exact BK262.out⟩, ⟨by repeat (first | (with_reducible first | exact HB.out | apply below_alloc | apply pw_below_drewN | apply below_drew1 | refine below_set ?_ GE259.out | refine below_set ?_ GE262.out) | exact HB.out)⟩⟩
                    · rw [if_neg c24] at H
                      have c24b0 : decide ((a0.size : Int) < ((rd_T31 t254 x7_2).f2)) = false := decide_eq_false c24
                      clear c24
                      by_cases c27 : (((rd_T31 t254 x7_2).f1).size : Int) > (wrap64 ((a0.size : Int) - ((rd_T31 t254 x7_2).f2)))
                      · rw [if_pos c27] at H
                        have c27b0 : decide ((wrap64 ((a0.size : Int) - ((rd_T31 t254 x7_2).f2))) < (((rd_T31 t254 x7_2).f1).size : Int)) = true := decide_eq_true c27
                        clear c27
                        have H' := Aside0.mk H
                        clear H
                        have hnb28 := NB262_259.out
                        have hnc28 := NB259_262.out
                        have hcz29_0 : w18.cell? ⟨gb262, 0, none⟩ = some (.int .i64 0) := (blk_cell BK262.out 0).trans rfl
                        have hcz29_1 : w18.cell? ⟨gb262, 1, none⟩ = some (.string (⟨#[]⟩ : ByteArray)) := (blk_cell BK262.out 1).trans rfl
                        have hcz29_2 : w18.cell? ⟨gb262, 2, none⟩ = some (.int .i64 0) := (blk_cell BK262.out 2).trans rfl
                        have hfz29_0 := blk_frozen BK262.out 0
                        have hfz29_1 := blk_frozen BK262.out 1
                        have hfz29_2 := blk_frozen BK262.out 2
                        go_wp2
                        repeat (go_quiet (fail); try go_wp2)
                        go_meet
                        case rel => exact ⟨_, (true), (by first | rfl | (simp; done) | (simp [*]; done) | (simp [*]; generalize List.isEmpty _ = q_; generalize ((_ : Int) == _) = p_; cases p_ <;> cases q_ <;> rfl)), H', ⟨by have := HJ3.out; have := HK2.out; first | omega | exact Nat.le_refl _⟩, ⟨by (with_reducible repeat (first | apply Kd.R_alloc | apply Kd.R_drewN | apply Kd.R_drew)); exact Kd.R_mono (Kd.R_far (p := ⟨gb262, 2, none⟩) (Kd.R_far (p := ⟨gb262, 1, none⟩) (Kd.R_far (p := ⟨gb262, 0, none⟩) (Kd.R_mono HO_4.out (fun k_ hk => (⟨hk, hk.2⟩ : _ ∧ k_ ≠ gb262))) (fun _ hk => hk.2) (.int .i64 ((rd_T31 t254 x7_2).f0))) (fun _ hk => hk.2) (.string ((rd_T31 t254 x7_2).f1))) (fun _ hk => hk.2) (.int .i64 ((rd_T31 t254 x7_2).f2))) (fun _ hk => hk.1.2)⟩, ⟨by (with_reducible repeat (first | refine blk_drewN ?_ _ | refine blk_drew ?_ | refine blk_alloc ?_ _)); refine blk_far ?_ NB259_262.out _; (with_reducible repeat (first | refine blk_drewN ?_ _ | refine blk_drew ?_ | refine blk_alloc ?_ _)); refine blk_far ?_ NB259_262.out _; (with_reducible repeat (first | refine blk_drewN ?_ _ | refine blk_drew ?_ | refine blk_alloc ?_ _)); refine blk_far ?_ NB259_262.out _; (with_reducible repeat (first | refine blk_drewN ?_ _ | refine blk_drew ?_ | refine blk_alloc ?_ _)); exact BK259.out⟩, ⟨by (with_reducible repeat (first | refine blk_drewN ?_ _ | refine blk_drew ?_ | refine blk_alloc ?_ _)); refine blk_put (cs := #[.int .i64 ((rd_T31 t254 x7_2).f0), .string ((rd_T31 t254 x7_2).f1), .int .i64 0]) ?_ 2 _ rfl; (with_reducible repeat (first | refine blk_drewN ?_ _ | refine blk_drew ?_ | refine blk_alloc ?_ _)); refine blk_put (cs := #[.int .i64 ((rd_T31 t254 x7_2).f0), .string (⟨#[]⟩ : ByteArray), .int .i64 0]) ?_ 1 _ rfl; (with_reducible repeat (first | refine blk_drewN ?_ _ | refine blk_drew ?_ | refine blk_alloc ?_ _)); refine blk_put (cs := #[.int .i64 0, .string (⟨#[]⟩ : ByteArray), .int .i64 0]) ?_ 0 _ rfl; (with_reducible repeat (first | refine blk_drewN ?_ _ | refine blk_drew ?_ | refine blk_alloc ?_ _)); exact BK262.out⟩, ⟨by repeat (first | (with_reducible first | exact HB.out | apply below_alloc | apply pw_below_drewN | apply below_drew1 | refine below_set ?_ GE259.out | refine below_set ?_ GE262.out) | exact HB.out)⟩⟩
                      · rw [if_neg c27] at H
                        have c27b0 : decide ((wrap64 ((a0.size : Int) - ((rd_T31 t254 x7_2).f2))) < (((rd_T31 t254 x7_2).f1).size : Int)) = false := decide_eq_false c27
                        clear c27
                        by_cases c30 : 0 ≤ ((rd_T31 t254 x7_2).f2)
                        · rw [if_pos c30] at H
                          have c30b0 := eq_true c30
                          have c30b1 : decide (0 ≤ ((rd_T31 t254 x7_2).f2)) = true := decide_eq_true c30
                          clear c30
                          by_cases c31 : ((rd_T31 t254 x7_2).f2) ≤ (wrap64 (((rd_T31 t254 x7_2).f2) + (((rd_T31 t254 x7_2).f1).size : Int)))
                          · rw [if_pos c31] at H
                            have c31b0 := eq_true c31
                            have c31b1 : decide (((rd_T31 t254 x7_2).f2) ≤ (wrap64 (((rd_T31 t254 x7_2).f2) + (((rd_T31 t254 x7_2).f1).size : Int)))) = true := decide_eq_true c31
                            by_cases c32 : (wrap64 (((rd_T31 t254 x7_2).f2) + (((rd_T31 t254 x7_2).f1).size : Int))) ≤ (a0.size : Int)
                            · rw [if_pos c32] at H
                              have c32b0 := eq_true c32
                              have c32b1 : decide ((wrap64 (((rd_T31 t254 x7_2).f2) + (((rd_T31 t254 x7_2).f1).size : Int))) ≤ (a0.size : Int)) = true := decide_eq_true c32
                              by_cases c33 : (a0.extract (((rd_T31 t254 x7_2).f2) : Int).toNat ((wrap64 (((rd_T31 t254 x7_2).f2) + (((rd_T31 t254 x7_2).f1).size : Int))) : Int).toNat).toList = ((rd_T31 t254 x7_2).f1).toList
                              · rw [if_pos c33] at H
                                have c33b0 : ((a0.extract (((rd_T31 t254 x7_2).f2) : Int).toNat ((wrap64 (((rd_T31 t254 x7_2).f2) + (((rd_T31 t254 x7_2).f1).size : Int))) : Int).toNat).toList == ((rd_T31 t254 x7_2).f1).toList) = true := beq_iff_eq.mpr c33
                                have c33b1 : ((a0.extract (((rd_T31 t254 x7_2).f2) : Int).toNat ((wrap64 (((rd_T31 t254 x7_2).f2) + (((rd_T31 t254 x7_2).f1).size : Int))) : Int).toNat).toList != ((rd_T31 t254 x7_2).f1).toList) = false := bne_eq_false_iff_eq.mpr c33
                                clear c33
                                have H' := Aside0.mk H
                                clear H
                                have hnb34 := NB262_259.out
                                have hnc34 := NB259_262.out
                                have hcz35_0 : w18.cell? ⟨gb262, 0, none⟩ = some (.int .i64 0) := (blk_cell BK262.out 0).trans rfl
                                have hcz35_1 : w18.cell? ⟨gb262, 1, none⟩ = some (.string (⟨#[]⟩ : ByteArray)) := (blk_cell BK262.out 1).trans rfl
                                have hcz35_2 : w18.cell? ⟨gb262, 2, none⟩ = some (.int .i64 0) := (blk_cell BK262.out 2).trans rfl
                                have hfz35_0 := blk_frozen BK262.out 0
                                have hfz35_1 := blk_frozen BK262.out 1
                                have hfz35_2 := blk_frozen BK262.out 2
                                go_wp2
                                repeat (go_quiet (fail); try go_wp2)
                                go_meet
                                case rel => exact ⟨_, (((((rd_T31 t254 x7_2).f1).toList == ([] : List UInt8)) != (x7_2 == (wrap64 ((t254.length : Int) - 1))))), (by first | rfl | (simp; done) | (simp [*]; done) | (simp [*]; generalize List.isEmpty _ = q_; generalize ((_ : Int) == _) = p_; cases p_ <;> cases q_ <;> rfl)), H', ⟨by have := HJ3.out; have := HK2.out; first | omega | exact Nat.le_refl _⟩, ⟨by (with_reducible repeat (first | apply Kd.R_alloc | apply Kd.R_drewN | apply Kd.R_drew)); exact Kd.R_mono (Kd.R_far (p := ⟨gb262, 2, none⟩) (Kd.R_far (p := ⟨gb262, 1, none⟩) (Kd.R_far (p := ⟨gb262, 0, none⟩) (Kd.R_mono HO_4.out (fun k_ hk => (⟨hk, hk.2⟩ : _ ∧ k_ ≠ gb262))) (fun _ hk => hk.2) (.int .i64 ((rd_T31 t254 x7_2).f0))) (fun _ hk => hk.2) (.string ((rd_T31 t254 x7_2).f1))) (fun _ hk => hk.2) (.int .i64 ((rd_T31 t254 x7_2).f2))) (fun _ hk => hk.1.2)⟩, ⟨by (with_reducible repeat (first | refine blk_drewN ?_ _ | refine blk_drew ?_ | refine blk_alloc ?_ _)); refine blk_far ?_ NB259_262.out _; (with_reducible repeat (first | refine blk_drewN ?_ _ | refine blk_drew ?_ | refine blk_alloc ?_ _)); refine blk_far ?_ NB259_262.out _; (with_reducible repeat (first | refine blk_drewN ?_ _ | refine blk_drew ?_ | refine blk_alloc ?_ _)); refine blk_far ?_ NB259_262.out _; (with_reducible repeat (first | refine blk_drewN ?_ _ | refine blk_drew ?_ | refine blk_alloc ?_ _)); exact BK259.out⟩, ⟨by (with_reducible repeat (first | refine blk_drewN ?_ _ | refine blk_drew ?_ | refine blk_alloc ?_ _)); refine blk_put (cs := #[.int .i64 ((rd_T31 t254 x7_2).f0), .string ((rd_T31 t254 x7_2).f1), .int .i64 0]) ?_ 2 _ rfl; (with_reducible repeat (first | refine blk_drewN ?_ _ | refine blk_drew ?_ | refine blk_alloc ?_ _)); refine blk_put (cs := #[.int .i64 ((rd_T31 t254 x7_2).f0), .string (⟨#[]⟩ : ByteArray), .int .i64 0]) ?_ 1 _ rfl; (with_reducible repeat (first | refine blk_drewN ?_ _ | refine blk_drew ?_ | refine blk_alloc ?_ _)); refine blk_put (cs := #[.int .i64 0, .string (⟨#[]⟩ : ByteArray), .int .i64 0]) ?_ 0 _ rfl; (with_reducible repeat (first | refine blk_drewN ?_ _ | refine blk_drew ?_ | refine blk_alloc ?_ _)); exact BK262.out⟩, ⟨by repeat (first | (with_reducible first | exact HB.out | apply below_alloc | apply pw_below_drewN | apply below_drew1 | refine below_set ?_ GE259.out | refine below_set ?_ GE262.out) | exact HB.out)⟩⟩
                              · rw [if_neg c33] at H
                                have c33b0 : ((a0.extract (((rd_T31 t254 x7_2).f2) : Int).toNat ((wrap64 (((rd_T31 t254 x7_2).f2) + (((rd_T31 t254 x7_2).f1).size : Int))) : Int).toNat).toList == ((rd_T31 t254 x7_2).f1).toList) = false := beq_eq_false_iff_ne.mpr c33
                                have c33b1 : ((a0.extract (((rd_T31 t254 x7_2).f2) : Int).toNat ((wrap64 (((rd_T31 t254 x7_2).f2) + (((rd_T31 t254 x7_2).f1).size : Int))) : Int).toNat).toList != ((rd_T31 t254 x7_2).f1).toList) = true := bne_iff_ne.mpr c33
                                have H' := Aside0.mk H
                                clear H
                                have hnb36 := NB262_259.out
                                have hnc36 := NB259_262.out
                                have hcz37_0 : w18.cell? ⟨gb262, 0, none⟩ = some (.int .i64 0) := (blk_cell BK262.out 0).trans rfl
                                have hcz37_1 : w18.cell? ⟨gb262, 1, none⟩ = some (.string (⟨#[]⟩ : ByteArray)) := (blk_cell BK262.out 1).trans rfl
                                have hcz37_2 : w18.cell? ⟨gb262, 2, none⟩ = some (.int .i64 0) := (blk_cell BK262.out 2).trans rfl
                                have hfz37_0 := blk_frozen BK262.out 0
                                have hfz37_1 := blk_frozen BK262.out 1
                                have hfz37_2 := blk_frozen BK262.out 2
                                go_wp2
                                repeat (go_quiet (fail); try go_wp2)
                                go_meet
                                case rel => exact ⟨_, (true), (by first | rfl | (simp; done) | (simp [*]; done) | (simp [*]; generalize List.isEmpty _ = q_; generalize ((_ : Int) == _) = p_; cases p_ <;> cases q_ <;> rfl)), H', ⟨by have := HJ3.out; have := HK2.out; first | omega | exact Nat.le_refl _⟩, ⟨by (with_reducible repeat (first | apply Kd.R_alloc | apply Kd.R_drewN | apply Kd.R_drew)); exact Kd.R_mono (Kd.R_far (p := ⟨gb262, 2, none⟩) (Kd.R_far (p := ⟨gb262, 1, none⟩) (Kd.R_far (p := ⟨gb262, 0, none⟩) (Kd.R_mono HO_4.out (fun k_ hk => (⟨hk, hk.2⟩ : _ ∧ k_ ≠ gb262))) (fun _ hk => hk.2) (.int .i64 ((rd_T31 t254 x7_2).f0))) (fun _ hk => hk.2) (.string ((rd_T31 t254 x7_2).f1))) (fun _ hk => hk.2) (.int .i64 ((rd_T31 t254 x7_2).f2))) (fun _ hk => hk.1.2)⟩, ⟨by (with_reducible repeat (first | refine blk_drewN ?_ _ | refine blk_drew ?_ | refine blk_alloc ?_ _)); refine blk_far ?_ NB259_262.out _; (with_reducible repeat (first | refine blk_drewN ?_ _ | refine blk_drew ?_ | refine blk_alloc ?_ _)); refine blk_far ?_ NB259_262.out _; (with_reducible repeat (first | refine blk_drewN ?_ _ | refine blk_drew ?_ | refine blk_alloc ?_ _)); refine blk_far ?_ NB259_262.out _; (with_reducible repeat (first | refine blk_drewN ?_ _ | refine blk_drew ?_ | refine blk_alloc ?_ _)); exact BK259.out⟩, ⟨by (with_reducible repeat (first | refine blk_drewN ?_ _ | refine blk_drew ?_ | refine blk_alloc ?_ _)); refine blk_put (cs := #[.int .i64 ((rd_T31 t254 x7_2).f0), .string ((rd_T31 t254 x7_2).f1), .int .i64 0]) ?_ 2 _ rfl; (with_reducible repeat (first | refine blk_drewN ?_ _ | refine blk_drew ?_ | refine blk_alloc ?_ _)); refine blk_put (cs := #[.int .i64 ((rd_T31 t254 x7_2).f0), .string (⟨#[]⟩ : ByteArray), .int .i64 0]) ?_ 1 _ rfl; (with_reducible repeat (first | refine blk_drewN ?_ _ | refine blk_drew ?_ | refine blk_alloc ?_ _)); refine blk_put (cs := #[.int .i64 0, .string (⟨#[]⟩ : ByteArray), .int .i64 0]) ?_ 0 _ rfl; (with_reducible repeat (first | refine blk_drewN ?_ _ | refine blk_drew ?_ | refine blk_alloc ?_ _)); exact BK262.out⟩, ⟨by repeat (first | (with_reducible first | exact HB.out | apply below_alloc | apply pw_below_drewN | apply below_drew1 | refine below_set ?_ GE259.out | refine below_set ?_ GE262.out) | exact HB.out)⟩⟩
                            · rw [if_neg c32] at H
                              exact absurd H (by simp)
                          · rw [if_neg c31] at H
                            exact absurd H (by simp)
                        · rw [if_neg c30] at H
                          exact absurd H (by simp)
                case rest =>
                  clear HC16
                  try clear c1
                  try clear c2
                  try clear p2
                  try clear q2
                  try clear hx2
                  try clear c3
                  try clear c4
                  try clear p6
                  try clear c9
                  try clear c11
                  try clear c12
                  try clear c14
                  try clear c14b0
                  try clear c15
                  try clear c15b0
                  try clear c19
                  try clear c21
                  try clear c21b0
                  try clear c22
                  try clear c24
                  try clear c24b0
                  try clear c25
                  try clear p26
                  try clear q26
                  try clear hx26
                  try clear c27
                  try clear c27b0
                  try clear c28
                  try clear c30
                  try clear c30b0
                  try clear c30b1
                  try clear c31
                  try clear c31b0
                  try clear c31b1
                  try clear c32
                  try clear c32b0
                  try clear c32b1
                  try clear c33
                  try clear c33b0
                  try clear c33b1
                  try clear c34
                  try clear c36
                  try clear hcz10_0
                  try clear hcz10_1
                  try clear hcz20_0
                  try clear hcz20_1
                  try clear hcz20_2
                  try clear hcz23_0
                  try clear hcz23_1
                  try clear hcz23_2
                  try clear hcz26_0
                  try clear hcz26_1
                  try clear hcz26_2
                  try clear hcz29_0
                  try clear hcz29_1
                  try clear hcz29_2
                  try clear hcz35_0
                  try clear hcz35_1
                  try clear hcz35_2
                  try clear hcz37_0
                  try clear hcz37_1
                  try clear hcz37_2
                  try clear hcz8_0
                  try clear hcz8_1
                  try clear hfz10_0
                  try clear hfz10_1
                  try clear hfz20_0
                  try clear hfz20_1
                  try clear hfz20_2
                  try clear hfz23_0
                  try clear hfz23_1
                  try clear hfz23_2
                  try clear hfz26_0
                  try clear hfz26_1
                  try clear hfz26_2
                  try clear hfz29_0
                  try clear hfz29_1
                  try clear hfz29_2
                  try clear hfz35_0
                  try clear hfz35_1
                  try clear hfz35_2
                  try clear hfz37_0
                  try clear hfz37_1
                  try clear hfz37_2
                  try clear hfz8_0
                  try clear hfz8_1
                  try clear hx261_0
                  try clear hx261_1
                  try clear hx261_2
                  try clear p2
                  try clear p261
                  try clear q261
                  obtain ⟨kq, x86_15, rfl, HA, HJ15, HO_4, BK259, BK262, HB⟩ := hcut
                  cases kq with
                  | zero => exact absurd HA.out (by simp [tiltyardlaw08_TokenCovers.j2])
                  | succ kj15 =>
                    have H := HA.out
                    clear HA
                    simp only [tiltyardlaw08_TokenCovers.j2] at H
                    by_cases c38 : x86_15 = true
                    · subst c38
                      have H1 : (some false) = some r := by rw [if_pos rfl] at H; exact H
                      clear H
                      have H := H1
                      clear H1
                      obtain rfl := Option.some.inj H
                      go_wp2
                      repeat (go_quiet (fail); try go_wp2)
                      go_ret
                      exact ⟨by first | rfl | (simp [errW_none, errW_some] <;> rfl) | (simp [*, errW_none, errW_some] <;> rfl), by repeat (first | (with_reducible first | exact HB.out | apply below_alloc | apply pw_below_drewN | apply below_drew1 | refine below_set ?_ GE259.out | refine below_set ?_ GE262.out) | exact HB.out)⟩
                    · replace c38 := Bool.eq_false_iff.mpr c38
                      subst c38
                      have H1 : (if 0 ≤ x6_2 then (if x6_2 ≤ ((rd_T31 t254 x7_2).f2) then (if ((rd_T31 t254 x7_2).f2) ≤ (a0.size : Int) then ((tiltyardlaw08_blank.f kj15 (a0.extract (x6_2 : Int).toNat (((rd_T31 t254 x7_2).f2) : Int).toNat)).bind fun t263 => (if t263 = true then (tiltyardlaw08_TokenCovers.l0 kj15 a0 t254 (wrap64 (((rd_T31 t254 x7_2).f2) + (((rd_T31 t254 x7_2).f1).size : Int))) (wrap64 (x7_2 + 1))) else (some false))) else (none)) else (none)) else (none)) = some r := by rw [if_neg (show ¬ (false = true) by decide)] at H; exact H
                      clear H
                      have H := H1
                      clear H1
                      by_cases c39 : 0 ≤ x6_2
                      · rw [if_pos c39] at H
                        have c39b0 := eq_true c39
                        have c39b1 : decide (0 ≤ x6_2) = true := decide_eq_true c39
                        clear c39
                        by_cases c40 : x6_2 ≤ ((rd_T31 t254 x7_2).f2)
                        · rw [if_pos c40] at H
                          have c40b0 := eq_true c40
                          have c40b1 : decide (x6_2 ≤ ((rd_T31 t254 x7_2).f2)) = true := decide_eq_true c40
                          clear c40
                          by_cases c41 : ((rd_T31 t254 x7_2).f2) ≤ (a0.size : Int)
                          · rw [if_pos c41] at H
                            have c41b0 := eq_true c41
                            have c41b1 : decide (((rd_T31 t254 x7_2).f2) ≤ (a0.size : Int)) = true := decide_eq_true c41
                            clear c41
                            replace H := Option.bind_eq_some_iff.mp H
                            obtain ⟨t263, A420, H⟩ := H
                            replace H : (if t263 = true then (tiltyardlaw08_TokenCovers.l0 kj15 a0 t254 (wrap64 (((rd_T31 t254 x7_2).f2) + (((rd_T31 t254 x7_2).f1).size : Int))) (wrap64 (x7_2 + 1))) else (some false)) = some r := H
                            have A42 := Aside0.mk A420
                            clear A420
                            by_cases c43 : t263 = true
                            · subst c43
                              have H1 : (tiltyardlaw08_TokenCovers.l0 kj15 a0 t254 (wrap64 (((rd_T31 t254 x7_2).f2) + (((rd_T31 t254 x7_2).f1).size : Int))) (wrap64 (x7_2 + 1))) = some r := by rw [if_pos rfl] at H; exact H
                              clear H
                              have H := H1
                              clear H1
                              have H' := Aside0.mk H
                              clear H
                              have hnb44 := NB262_259.out
                              have hnc44 := NB259_262.out
                              have hcz45_0 : wc.cell? ⟨gb262, 0, none⟩ = some (.int .i64 ((rd_T31 t254 x7_2).f0)) := (blk_cell BK262.out 0).trans rfl
                              have hcz45_1 : wc.cell? ⟨gb262, 1, none⟩ = some (.string ((rd_T31 t254 x7_2).f1)) := (blk_cell BK262.out 1).trans rfl
                              have hcz45_2 : wc.cell? ⟨gb262, 2, none⟩ = some (.int .i64 ((rd_T31 t254 x7_2).f2)) := (blk_cell BK262.out 2).trans rfl
                              have hfz45_0 := blk_frozen BK262.out 0
                              have hfz45_1 := blk_frozen BK262.out 1
                              have hfz45_2 := blk_frozen BK262.out 2
                              go_wp2_with (first | (go_at_call 16; (with_reducible refine (tiltyardlaw08_blank.calls kj15 (a0.extract (x6_2 : Int).toNat (((rd_T31 t254 x7_2).f2) : Int).toNat) true _ A42.out).mono ?_); rintro e w' ⟨rfl, ⟨nd, rfl⟩⟩; (try first | exact ⟨rfl, _, World.drewN_drewN _ _ _⟩ | exact ⟨rfl, _, Eq.trans (World.drewN_drewN _ _ _) (congrArg (World.drewN _) (Nat.add_assoc _ _ _))⟩)))
                              repeat (go_quiet (first | (go_at_call 16; (with_reducible refine (tiltyardlaw08_blank.calls kj15 (a0.extract (x6_2 : Int).toNat (((rd_T31 t254 x7_2).f2) : Int).toNat) true _ A42.out).mono ?_); rintro e w' ⟨rfl, ⟨nd, rfl⟩⟩; (try first | exact ⟨rfl, _, World.drewN_drewN _ _ _⟩ | exact ⟨rfl, _, Eq.trans (World.drewN_drewN _ _ _) (congrArg (World.drewN _) (Nat.add_assoc _ _ _))⟩))); try go_wp2_with (first | (go_at_call 16; (with_reducible refine (tiltyardlaw08_blank.calls kj15 (a0.extract (x6_2 : Int).toNat (((rd_T31 t254 x7_2).f2) : Int).toNat) true _ A42.out).mono ?_); rintro e w' ⟨rfl, ⟨nd, rfl⟩⟩; (try first | exact ⟨rfl, _, World.drewN_drewN _ _ _⟩ | exact ⟨rfl, _, Eq.trans (World.drewN_drewN _ _ _) (congrArg (World.drewN _) (Nat.add_assoc _ _ _))⟩))))
                              go_roundg kj15
                              case measure => have := HJ3.out; have := HK2.out; have := HJ15.out; omega
                              case rel => exact ⟨(wrap64 (((rd_T31 t254 x7_2).f2) + (((rd_T31 t254 x7_2).f1).size : Int))), (wrap64 (x7_2 + 1)), (by first | rfl | (simp; done) | (simp [*]; done) | (simp [*]; generalize List.isEmpty _ = q_; generalize ((_ : Int) == _) = p_; cases p_ <;> cases q_ <;> rfl)), (by first | rfl | (simp; done) | (simp [*]; done) | (simp [*]; generalize List.isEmpty _ = q_; generalize ((_ : Int) == _) = p_; cases p_ <;> cases q_ <;> rfl)), H', ⟨by have := HJ3.out; have := HK2.out; have := HJ15.out; omega⟩, ⟨by (with_reducible repeat (first | apply Kd.R_alloc | apply Kd.R_drewN | apply Kd.R_drew)); exact Kd.R_mono HO_4.out (fun _ hk => trivial)⟩, ⟨by (with_reducible repeat (first | refine blk_drewN ?_ _ | refine blk_drew ?_ | refine blk_alloc ?_ _)); exact BK259.out⟩, ⟨by repeat (first | (with_reducible first | exact HB.out | apply below_alloc | apply pw_below_drewN | apply below_drew1 | refine below_set ?_ GE259.out | refine below_set ?_ GE262.out) | exact HB.out)⟩⟩
                            · replace c43 := Bool.eq_false_iff.mpr c43
                              subst c43
                              have H1 : (some false) = some r := by rw [if_neg (show ¬ (false = true) by decide)] at H; exact H
                              clear H
                              have H := H1
                              clear H1
                              obtain rfl := Option.some.inj H
                              have hnb46 := NB262_259.out
                              have hnc46 := NB259_262.out
                              have hcz47_0 : wc.cell? ⟨gb262, 0, none⟩ = some (.int .i64 ((rd_T31 t254 x7_2).f0)) := (blk_cell BK262.out 0).trans rfl
                              have hcz47_1 : wc.cell? ⟨gb262, 1, none⟩ = some (.string ((rd_T31 t254 x7_2).f1)) := (blk_cell BK262.out 1).trans rfl
                              have hcz47_2 : wc.cell? ⟨gb262, 2, none⟩ = some (.int .i64 ((rd_T31 t254 x7_2).f2)) := (blk_cell BK262.out 2).trans rfl
                              have hfz47_0 := blk_frozen BK262.out 0
                              have hfz47_1 := blk_frozen BK262.out 1
                              have hfz47_2 := blk_frozen BK262.out 2
                              go_wp2_with (first | (go_at_call 16; (with_reducible refine (tiltyardlaw08_blank.calls kj15 (a0.extract (x6_2 : Int).toNat (((rd_T31 t254 x7_2).f2) : Int).toNat) false _ A42.out).mono ?_); rintro e w' ⟨rfl, ⟨nd, rfl⟩⟩; (try first | exact ⟨rfl, _, World.drewN_drewN _ _ _⟩ | exact ⟨rfl, _, Eq.trans (World.drewN_drewN _ _ _) (congrArg (World.drewN _) (Nat.add_assoc _ _ _))⟩)))
                              repeat (go_quiet (first | (go_at_call 16; (with_reducible refine (tiltyardlaw08_blank.calls kj15 (a0.extract (x6_2 : Int).toNat (((rd_T31 t254 x7_2).f2) : Int).toNat) false _ A42.out).mono ?_); rintro e w' ⟨rfl, ⟨nd, rfl⟩⟩; (try first | exact ⟨rfl, _, World.drewN_drewN _ _ _⟩ | exact ⟨rfl, _, Eq.trans (World.drewN_drewN _ _ _) (congrArg (World.drewN _) (Nat.add_assoc _ _ _))⟩))); try go_wp2_with (first | (go_at_call 16; (with_reducible refine (tiltyardlaw08_blank.calls kj15 (a0.extract (x6_2 : Int).toNat (((rd_T31 t254 x7_2).f2) : Int).toNat) false _ A42.out).mono ?_); rintro e w' ⟨rfl, ⟨nd, rfl⟩⟩; (try first | exact ⟨rfl, _, World.drewN_drewN _ _ _⟩ | exact ⟨rfl, _, Eq.trans (World.drewN_drewN _ _ _) (congrArg (World.drewN _) (Nat.add_assoc _ _ _))⟩))))
                              go_ret
                              exact ⟨by first | rfl | (simp [errW_none, errW_some] <;> rfl) | (simp [*, errW_none, errW_some] <;> rfl), by repeat (first | (with_reducible first | exact HB.out | apply below_alloc | apply pw_below_drewN | apply below_drew1 | refine below_set ?_ GE259.out | refine below_set ?_ GE262.out) | exact HB.out)⟩
                          · rw [if_neg c41] at H
                            exact absurd H (by simp)
                        · rw [if_neg c40] at H
                          exact absurd H (by simp)
                      · rw [if_neg c39] at H
                        exact absurd H (by simp)
              · rw [if_neg c15] at H
                exact absurd H (by simp)
            · rw [if_neg c14] at H
              have c14b0 : decide (x7_2 < (t254.length : Int)) = false := decide_eq_false c14
              clear c14
              by_cases c48 : (t254.length : Int) > 0
              · rw [if_pos c48] at H
                have c48b0 : decide (0 < (t254.length : Int)) = true := decide_eq_true c48
                have c48b1 : decide (0 < t254.length) = true := decide_eq_true (by omega)
                clear c48
                obtain ⟨ji49, hji49⟩ : ∃ j_ : Int, (wrap64 ((t254.length : Int) - 1)) = j_ := ⟨_, rfl⟩
                replace H : (if 0 ≤ (ji49) then (if (ji49) < (t254.length : Int) then (if ((rd_T31 t254 (ji49)).f0) = 6 then (some (x6_2 == (a0.size : Int))) else (some false)) else (none)) else (none)) = some r := by first | (rw [hji49] at H; exact H) | (simp only [hji49] at H ⊢; exact H)
                have hji49w : (IntKind.i64.wrap ((t254.length : Int) - 1)) = ji49 := (i64_w _).trans hji49
                by_cases c50 : 0 ≤ (ji49)
                · rw [if_pos c50] at H
                  have c50b0 : decide (0 ≤ (ji49)) = true := decide_eq_true c50
                  clear c50
                  by_cases c51 : (ji49) < (t254.length : Int)
                  · rw [if_pos c51] at H
                    have c51b0 : decide ((ji49) < (t254.length : Int)) = true := decide_eq_true c51
                    clear c51
                    by_cases c52 : ((rd_T31 t254 (ji49)).f0) = 6
                    · rw [if_pos c52] at H
                      have c52b0 : (((rd_T31 t254 (ji49)).f0) == 6) = true := beq_iff_eq.mpr c52
                      have c52b1 : (((rd_T31 t254 (ji49)).f0) != 6) = false := bne_eq_false_iff_eq.mpr c52
                      clear c52
                      obtain rfl := Option.some.inj H
                      obtain ⟨Ao53, co53, eo53⟩ := Kd.R_slice HO_4.out
                      subst eo53
                      have p260 : 0 ≤ ((ji49) : Int) := of_decide_eq_true (by first | (with_reducible assumption) | assumption)
                      have q260 : (ji49) < (t254.length : Int) := of_decide_eq_true (by first | (with_reducible assumption) | assumption)
                      obtain ⟨ad260, e260, hx260_0, hx260_1, hx260_2⟩ := at_T31 (Kd.R_reads' HO_4.out).2.2 (ji49) p260 q260
                      cases e260
                      replace p260 := eq_true p260
                      replace q260 := eq_true q260
                      go_wp2
                      repeat (go_quiet (fail); try go_wp2)
                      go_ret
                      exact ⟨by first | rfl | (simp [errW_none, errW_some] <;> rfl) | (simp only [← hji49]; first | rfl | (simp [errW_none, errW_some] <;> rfl)) | (simp [*, errW_none, errW_some] <;> rfl), by repeat (first | (with_reducible first | exact HB.out | apply below_alloc | apply pw_below_drewN | apply below_drew1 | refine below_set ?_ GE259.out) | exact HB.out)⟩
                    · rw [if_neg c52] at H
                      have c52b0 : (((rd_T31 t254 (ji49)).f0) == 6) = false := beq_eq_false_iff_ne.mpr c52
                      have c52b1 : (((rd_T31 t254 (ji49)).f0) != 6) = true := bne_iff_ne.mpr c52
                      obtain rfl := Option.some.inj H
                      obtain ⟨Ao54, co54, eo54⟩ := Kd.R_slice HO_4.out
                      subst eo54
                      have p260 : 0 ≤ ((ji49) : Int) := of_decide_eq_true (by first | (with_reducible assumption) | assumption)
                      have q260 : (ji49) < (t254.length : Int) := of_decide_eq_true (by first | (with_reducible assumption) | assumption)
                      obtain ⟨ad260, e260, hx260_0, hx260_1, hx260_2⟩ := at_T31 (Kd.R_reads' HO_4.out).2.2 (ji49) p260 q260
                      cases e260
                      replace p260 := eq_true p260
                      replace q260 := eq_true q260
                      go_wp2
                      repeat (go_quiet (fail); try go_wp2)
                      go_ret
                      exact ⟨by first | rfl | (simp [errW_none, errW_some] <;> rfl) | (simp only [← hji49]; first | rfl | (simp [errW_none, errW_some] <;> rfl)) | (simp [*, errW_none, errW_some] <;> rfl), by repeat (first | (with_reducible first | exact HB.out | apply below_alloc | apply pw_below_drewN | apply below_drew1 | refine below_set ?_ GE259.out) | exact HB.out)⟩
                  · rw [if_neg c51] at H
                    exact absurd H (by simp)
                · rw [if_neg c50] at H
                  exact absurd H (by simp)
              · rw [if_neg c48] at H
                have c48b0 : decide (0 < (t254.length : Int)) = false := decide_eq_false c48
                have c48b1 : decide (0 < t254.length) = false := decide_eq_false (by omega)
                clear c48
                obtain rfl := Option.some.inj H
                obtain ⟨Ao55, co55, eo55⟩ := Kd.R_slice HO_4.out
                subst eo55
                go_wp2
                repeat (go_quiet (fail); try go_wp2)
                go_ret
                exact ⟨by first | rfl | (simp [errW_none, errW_some] <;> rfl) | (simp [*, errW_none, errW_some] <;> rfl), by repeat (first | (with_reducible first | exact HB.out | apply below_alloc | apply pw_below_drewN | apply below_drew1 | refine below_set ?_ GE259.out) | exact HB.out)⟩

/-- THE ONE PURE STATEMENT of tiltyardlaw08_TokenCovers: yours. -/
def tiltyardlaw08_TokenCovers.Pure : Prop := ∀ (a0 : ByteArray), a0.size ≤ 140737488351232 → ∃ k, tiltyardlaw08_TokenCovers.f k a0 = some true
end Go.Proofs.YtklkikndcieojaaDoor.PTk
