/- wire.ReadText. -/
import Derived.Test.YtcgjaobbjeagoaaDoorWireE
namespace Go.Proofs.YtcgjaobbjeagoaaDoor
open Go.RowKit Go.Proofs.YtcgjaobbjeagoaaDoorW.PrintWords Go.Proofs.YtcgjaobbjeagoaaDoorW.PrintLast Go.Proofs.YtcgjaobbjeagoaaDoorW.PrintMore
set_option linter.unusedVariables false
set_option linter.unusedSimpArgs false

def rtF (l : List Int) (at_ : Int) : ByteArray × Int × Int :=
  if (tk l at_ 9).2.2 ≠ 0 then (ByteArray.empty, 0, (tk l at_ 9).2.2)
  else if 65536 < (tk l at_ 9).1 then (ByteArray.empty, 0, 2)
  else if (l.length : Int) - (tk l at_ 9).2.1 < (tk l at_ 9).1 then (ByteArray.empty, 0, 3)
  else (strOfNums ((l.take ((tk l at_ 9).2.1 + (tk l at_ 9).1).toNat).drop (tk l at_ 9).2.1.toNat), (tk l at_ 9).2.1 + (tk l at_ 9).1, 0)

set_option maxHeartbeats 4000000 in
set_option maxRecDepth 100000 in
theorem ReadText_calls (A0 : Option Addr) (c0 : Nat) (l0 : List Int) (at_ : Int) (w : World)
    (hr0 : Kd.C (Kd.int .u8) w A0 l0.length l0) (hc0 : l0.length ≤ c0) (hb : ∀ x ∈ l0, 0 ≤ x ∧ x < 256) (hl : l0.length ≤ 140737488355318) (ha1 : -9223372036854775808 ≤ at_) (ha2 : at_ ≤ 9223372036854775807) :
    Calls Tryd.prog 18 #[.slice A0 l0.length c0, .int .i64 at_] w
      fun e w' => e = .returned (.tuple #[.string (rtF l0 at_).1, .int .i64 (rtF l0 at_).2.1, .int .i64 (rtF l0 at_).2.2]) ∧ w' = w := by
  have hc := ReadNum_calls A0 c0 l0 at_ w hr0 hc0 hb hl ha1 ha2
  have hr := tk_range l0 at_ 9 (by decide) (by decide) hb
  rw [show ((128 ^ (9 : Int).toNat : Nat) : Int) = 9223372036854775808 by decide] at hr
  have hf : rtF l0 at_ = if (tk l0 at_ 9).2.2 ≠ 0 then (ByteArray.empty, 0, (tk l0 at_ 9).2.2) else if 65536 < (tk l0 at_ 9).1 then (ByteArray.empty, 0, 2)
    else if (l0.length : Int) - (tk l0 at_ 9).2.1 < (tk l0 at_ 9).1 then (ByteArray.empty, 0, 3)
    else (strOfNums ((l0.take ((tk l0 at_ 9).2.1 + (tk l0 at_ 9).1).toNat).drop (tk l0 at_ 9).2.1.toNat), (tk l0 at_ 9).2.1 + (tk l0 at_ 9).1, 0) := rfl
  rw [hf]
  clear hf
  generalize tk l0 at_ 9 = t at hc hr ⊢
  obtain ⟨z, p, e⟩ := t
  simp only [] at hc hr ⊢
  have hsub : wrap64 ((l0.length : Int) - p) = (l0.length : Int) - p := by simp only [wrap64]; omega
  by_cases h1 : e ≠ 0
  · rw [if_pos h1]
    have b1 : (e == 0) = false := beq_eq_false_iff_ne.mpr h1
    have b2 : (e != 0) = true := bne_iff_ne.mpr h1
    clear h1 hr0 hc0 hb hr
    go_enter Tryd.func18, Tryd.ntmps18
    go_wp2_with fail
    ((with_reducible refine hc.mono ?_); rintro e_ W1 ⟨rfl, rfl⟩)
    clear hc
    go_wp2
    go_ret3
    exact ⟨rfl, rfl⟩
  · rw [if_neg h1]
    have he : e = 0 := by omega
    subst he
    clear h1
    by_cases h2 : 65536 < z
    · rw [if_pos h2]
      have d2 : decide (65536 < z) = true := decide_eq_true h2
      clear h2 hr0 hc0 hb hr
      go_enter Tryd.func18, Tryd.ntmps18
      go_wp2_with fail
      ((with_reducible refine hc.mono ?_); rintro e_ W1 ⟨rfl, rfl⟩)
      clear hc
      go_wp2
      go_ret3
      exact ⟨rfl, rfl⟩
    · rw [if_neg h2]
      have d2 : decide (65536 < z) = false := decide_eq_false h2
      by_cases h3 : (l0.length : Int) - p < z
      · rw [if_pos h3]
        have d3 : decide ((l0.length : Int) - p < z) = true := decide_eq_true h3
        clear h2 h3 hr0 hc0 hb
        go_enter Tryd.func18, Tryd.ntmps18
        go_wp2_with fail
        ((with_reducible refine hc.mono ?_); rintro e_ W1 ⟨rfl, rfl⟩)
        clear hc
        go_wp2
        go_ret3
        exact ⟨rfl, rfl⟩
      · rw [if_neg h3]
        have d3 : decide ((l0.length : Int) - p < z) = false := decide_eq_false h3
        obtain ⟨i0, hi0, _, hsz0, _⟩ := info_parts infoB
        have hadd : wrap64 (p + z) = p + z := by simp only [wrap64]; omega
        obtain ⟨A1, hcut, hA, hc1⟩ := print_mid_of (P := Tryd.prog) (Value.int .u8) (0 : Int) 23 5 .i64 .i64 Tryd.underlying23 hi0 hsz0 A0 c0 l0 p (p + z) (by omega) (by omega) (by omega) hc0
        have hC1 : Kd.C (Kd.int .u8) w A1 ((l0.take (p + z).toNat).drop p.toNat).length ((l0.take (p + z).toNat).drop p.toNat) := Kd.C_of_reads (h1 := fun _ => rfl) (hA w (Kd.reads_of_C hr0))
        have s1 := Kd.C_string (P := Tryd.prog) (c := c0 - p.toNat) Tryd.underlying23 Tryd.underlying5 Tryd.underlying9 hC1
        have hlen : ((l0.take (p + z).toNat).drop p.toNat).length = z.toNat := by rw [List.length_drop, List.length_take]; omega
        rw [hlen] at s1
        generalize strOfNums ((l0.take (p + z).toNat).drop p.toNat) = S at s1 ⊢
        have hcut' : ∀ W : World, (Instr.slice 23 (.slice A0 l0.length c0) (some (.int .i64 p)) (some (.int .i64 (p + z))) none).run Tryd.prog W = .ok (.slice A1 z.toNat (c0 - p.toNat)) W := by
          intro W; have := hcut W; rw [hlen] at this; exact this
        clear h2 h3 hr0 hb hA hC1 hcut hc1 hlen
        go_enter Tryd.func18, Tryd.ntmps18
        go_wp2_with fail
        ((with_reducible refine hc.mono ?_); rintro e_ W1 ⟨rfl, rfl⟩)
        clear hc
        go_wp2
        go_ret3
        rw [hadd]
        exact ⟨rfl, rfl⟩
end Go.Proofs.YtcgjaobbjeagoaaDoor
