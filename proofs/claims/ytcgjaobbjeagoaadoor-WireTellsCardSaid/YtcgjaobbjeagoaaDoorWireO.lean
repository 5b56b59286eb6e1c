/- The document's read, ReadNum, ReadInt: the walks. -/
import Derived.Test.YtcgjaobbjeagoaaDoorWireN
namespace Go.Proofs.YtcgjaobbjeagoaaDoor
open Go.RowKit Go.Proofs.YtcgjaobbjeagoaaDoorW.PrintWords Go.Proofs.YtcgjaobbjeagoaaDoorW.PrintLast Go.Proofs.YtcgjaobbjeagoaaDoorW.PrintMore
set_option linter.unusedVariables false
set_option linter.unusedSimpArgs false

theorem rd_drop (l : List Int) (a n : Int) (ha : 0 ≤ a) (hn : 0 ≤ n) (h : a + n < l.length) : rd (l.drop a.toNat) n = rd l (a + n) := by
  obtain ⟨a, rfl⟩ := Int.eq_ofNat_of_zero_le ha
  obtain ⟨n, rfl⟩ := Int.eq_ofNat_of_zero_le hn
  rw [Int.toNat_natCast]
  have h1 : n < (l.drop a).length := by rw [List.length_drop]; omega
  rw [rd_get h1, show (a : Int) + (n : Int) = ((a + n : Nat) : Int) by omega, rd_get (by omega), List.getElem_drop]

theorem horner (R : List Int) (n : Nat) (i : Int) (h0 : 0 ≤ i) (h1 : i ≤ n) (hn : n < R.length) :
    val ((R.take (n + 1)).drop i.toNat) = rd R i % 128 + 128 * val ((R.take (n + 1)).drop (i + 1).toNat) := by
  obtain ⟨i, rfl⟩ := Int.eq_ofNat_of_zero_le h0
  have hl : (R.take (n + 1)).length = n + 1 := by rw [List.length_take]; omega
  rw [Int.toNat_natCast, val_drop _ i (by omega), show ((i : Int) + 1).toNat = i + 1 by omega, rd_get (by omega), rd_get (by omega), List.getElem_take]
set_option maxHeartbeats 4000000 in
set_option maxRecDepth 100000 in
theorem rread_calls (A0 : Option Addr) (c0 : Nat) (l0 : List Int) (at_ most : Int) (w : World)
    (hr0 : Kd.C (Kd.int .u8) w A0 l0.length l0) (hb : ∀ x ∈ l0, 0 ≤ x ∧ x < 256) (hl : l0.length ≤ 140737488355318) (ha1 : -9223372036854775808 ≤ at_) (ha2 : at_ ≤ 9223372036854775807) (hm : most = 9 ∨ most = 10) :
    Calls Tryd.prog 35 #[.slice A0 l0.length c0, .int .i64 at_, .int .i64 most] w
      fun e w' => e = .returned (.tuple #[.int .u64 (tk l0 at_ most).1, .int .i64 (tk l0 at_ most).2.1, .int .i64 (tk l0 at_ most).2.2]) ∧ w' = w := by
  have HR := Aside0.mk hr0
  clear hr0
  by_cases hat : at_ < 0 ∨ (l0.length : Int) < at_
  · have ht : tk l0 at_ most = (0, 0, 1) := if_pos hat
    rw [ht]
    rcases hat with h | h
    · have d1 : decide (at_ < 0) = true := decide_eq_true h
      clear h
      go_enter Tryd.func35, Tryd.ntmps35
      go_wp2
      go_ret3
      exact ⟨rfl, rfl⟩
    · by_cases h0 : at_ < 0
      · omega
      have d0 : decide (at_ < 0) = false := decide_eq_false h0
      have d1 : decide ((l0.length : Int) < at_) = true := decide_eq_true h
      clear h h0
      go_enter Tryd.func35, Tryd.ntmps35
      go_wp2
      go_ret3
      exact ⟨rfl, rfl⟩
  · have h0 : 0 ≤ at_ := by omega
    have h1 : at_ ≤ l0.length := by omega
    have d0 : decide (at_ < 0) = false := decide_eq_false (by omega)
    have d1 : decide ((l0.length : Int) < at_) = false := decide_eq_false (by omega)
    have hRl : (l0.drop at_.toNat).length = l0.length - at_.toNat := List.length_drop
    have hRl2 : (l0.length : Int) = at_ + ((l0.drop at_.toNat).length : Int) := by omega
    have hRb : ∀ x ∈ l0.drop at_.toNat, 0 ≤ x ∧ x < 256 := fun x hx => hb x (List.mem_of_mem_drop hx)
    have htk : tk l0 at_ most = if (rdw most (l0.drop at_.toNat) 0 0).2.2 = 0 then ((rdw most (l0.drop at_.toNat) 0 0).1, at_ + (rdw most (l0.drop at_.toNat) 0 0).2.1, 0) else (0, 0, (rdw most (l0.drop at_.toNat) 0 0).2.2) := if_neg hat
    have HRD : Aside0 (∀ n : Int, 0 ≤ n → at_ + n < l0.length → rd (l0.drop at_.toNat) n = rd l0 (at_ + n)) := ⟨fun n h2 h => rd_drop l0 at_ n h0 h2 h⟩
    have hrg := tk_range l0 at_ most (by omega) (by omega) hb
    clear hRl
    generalize l0.drop at_.toNat = R at hRl2 hRb htk HRD
    have HTK := Aside0.mk htk; have HRB := Aside0.mk hRb; have HRG := Aside0.mk hrg.2.2.1; have HL2 := Aside0.mk hRl2
    clear hat htk hRb hb hrg
    go_enter Tryd.func35, Tryd.ntmps35
    go_wp2
    go_loop [9] (fun vn => ∃ n : Int, vn = .int .i64 n ∧ 0 ≤ n ∧ n ≤ most ∧ n ≤ R.length ∧ Aside0 (∀ j : Nat, (j : Int) < n → 128 ≤ rd R (j : Int))) (fun vn => (most - intOf vn).toNat)
    case atStart => exact ⟨0, rfl, by omega, by omega, by omega, ⟨fun j hj => absurd hj (by omega)⟩⟩
    case round =>
      obtain ⟨n, rfl, hn0, hn1, hn2, HC⟩ := hrel
      by_cases e1 : n < R.length
      · have d2 : decide (at_ + n < (l0.length : Int)) = true := decide_eq_true (by omega)
        obtain ⟨ad, e, hcell⟩ := Kd.at_int HR.out (at_ + n) (by omega) (by omega)
        cases e
        have hci := HRD.out n hn0 (by omega)
        obtain ⟨c, hc⟩ : ∃ c, c = rd l0 (at_ + n) := ⟨_, rfl⟩
        rw [← hc] at hcell hci
        have hcb := rd_mem HRB.out hn0 e1
        rw [hci] at hcb
        have HCI := Aside0.mk hci
        clear hc hci
        by_cases e2 : n < most
        · have d3 : decide (n < most) = true := decide_eq_true e2
          by_cases e3 : 128 ≤ c
          · have d4 : decide (128 ≤ c) = true := decide_eq_true e3
            go_wp2
            refine ⟨⟨_, rfl, by omega, by omega, by omega, ⟨fun j hj => ?_⟩⟩, by simp only [intOf]; omega⟩
            by_cases e : (j : Int) < n
            · exact HC.out j e
            · rw [show (j : Int) = n by omega, HCI.out]; exact e3
          · have d4 : decide (128 ≤ c) = false := decide_eq_false e3
            have d5 : (n == most) = false := beq_eq_false_iff_ne.mpr (by omega)
            have d6 : (at_ + n == (l0.length : Int)) = false := beq_eq_false_iff_ne.mpr (by omega)
            have hc' : ∀ j : Nat, j < n.toNat → 128 ≤ rd R (j : Int) := fun j hj => HC.out j (by omega)
            have hrn := rdw_num most R HRB.out (by omega) n.toNat (by omega) (by omega) hc' (by rw [Int.toNat_of_nonneg hn0, HCI.out]; omega)
            rw [Int.toNat_of_nonneg hn0, HCI.out] at hrn
            by_cases g1 : (c = 0 ∧ 0 < n) ∨ (n = 9 ∧ 1 < c)
            · have hw : tk l0 at_ most = (0, 0, 20) := by
                rw [HTK.out, hrn, if_pos g1]; rfl
              have HW := Aside0.mk hw; clear hw hrn hc'
              rcases g1 with ⟨g1, g2⟩ | ⟨g1, g2⟩
              · have q1 : (c == 0) = true := beq_iff_eq.mpr g1
                have q2 : decide (0 < n) = true := decide_eq_true g2
                clear g1
                go_wp2
                go_ret3
                rw [HW.out]
                exact ⟨rfl, rfl⟩
              · have q1 : (c == 0) = false := beq_eq_false_iff_ne.mpr (by omega)
                have q2 : (n == 9) = true := beq_iff_eq.mpr g1
                have q3 : decide (1 < c) = true := decide_eq_true g2
                clear g1
                go_wp2
                go_ret3
                rw [HW.out]
                exact ⟨rfl, rfl⟩
            · have hw : tk l0 at_ most = (val (R.take (n + 1).toNat), at_ + n + 1, 0) := by
                rw [HTK.out, hrn, if_neg g1, if_pos rfl, show n.toNat + 1 = (n + 1).toNat by omega, show at_ + (n + 1) = at_ + n + 1 by omega]
              have HV : Aside0 (val (R.take (n + 1).toNat) < 18446744073709551616) := ⟨by have := HRG.out; rw [hw] at this; exact this⟩
              have HW := Aside0.mk hw; clear hw hrn hc'
              by_cases g2 : c = 0
              · have q1 : (c == 0) = true := beq_iff_eq.mpr g2
                have q2 : decide (0 < n) = false := decide_eq_false (by omega)
                have q3 : (n == 9) = false := beq_eq_false_iff_ne.mpr (by omega)
                clear g1 g2
                go_wp2
                go_loop [10, 11] (fun vz vi => ∃ z i : Int, vz = .int .u64 z ∧ vi = .int .i64 i ∧ -1 ≤ i ∧ i ≤ n ∧ Aside0 (z = val ((R.take (n + 1).toNat).drop (i + 1).toNat))) (fun _ vi => (intOf vi + 1).toNat)
                case atStart => exact ⟨0, n, rfl, rfl, by omega, by omega, ⟨by rw [List.drop_eq_nil_of_le (by rw [List.length_take]; omega)]; rfl⟩⟩
                case round =>
                  obtain ⟨z, i, rfl, rfl, hi0, hi1, HZ⟩ := hrel
                  by_cases f1 : 0 ≤ i
                  · have k1 : decide (0 ≤ i) = true := decide_eq_true f1
                    obtain ⟨ad2, e2_, hcell2⟩ := Kd.at_int HR.out (at_ + i) (by omega) (by omega)
                    cases e2_
                    have hbi := HRD.out i f1 (by omega)
                    obtain ⟨b, hbb⟩ : ∃ b, b = rd l0 (at_ + i) := ⟨_, rfl⟩
                    rw [← hbb] at hcell2 hbi
                    have hbr := rd_mem HRB.out f1 (by omega)
                    rw [hbi] at hbr
                    have HST := Aside0.mk (horner R n.toNat i f1 (by omega) (by omega))
                    have HBI := Aside0.mk hbi
                    clear hbb hbi
                    have hz64 : 0 ≤ z ∧ z < 18446744073709551616 ∧ z * 128 + b % 128 < 18446744073709551616 := by
                      have h1 := HST.out
                      have h2 := val_drop_le (R.take (n + 1).toNat) (i + 1).toNat
                      have h3 := val_drop_le (R.take (n + 1).toNat) i.toNat
                      have h4 := val_nonneg ((R.take (n + 1).toNat).drop (i + 1).toNat)
                      have h5 := HV.out
                      rw [show n.toNat + 1 = (n + 1).toNat by omega, ← HZ.out, HBI.out] at h1
                      rw [← HZ.out] at h2 h4
                      omega
                    go_wp2
                    refine ⟨⟨_, _, rfl, rfl, by omega, by omega, ⟨?_⟩⟩, by simp only [intOf]; omega⟩
                    have h1 := HST.out
                    rw [show n.toNat + 1 = (n + 1).toNat by omega, ← HZ.out, HBI.out] at h1
                    rw [show (i - 1 + 1).toNat = i.toNat by omega, h1]
                    omega
                  · have k1 : decide (0 ≤ i) = false := decide_eq_false f1
                    have hie : i = -1 := by omega
                    subst hie
                    have HWz : Aside0 (tk l0 at_ most = (z, at_ + n + 1, 0)) := ⟨by rw [HW.out, HZ.out]; rfl⟩
                    go_wp2
                    go_ret3
                    rw [HWz.out]
                    exact ⟨rfl, rfl⟩
              · have q1 : (c == 0) = false := beq_eq_false_iff_ne.mpr g2
                by_cases g3 : n = 9
                · have q2 : (n == 9) = true := beq_iff_eq.mpr g3
                  have q3 : decide (1 < c) = false := decide_eq_false (by omega)
                  have HG3 := Aside0.mk g3
                  clear g1 g2 g3
                  go_wp2
                  go_loop [10, 11] (fun vz vi => ∃ z i : Int, vz = .int .u64 z ∧ vi = .int .i64 i ∧ -1 ≤ i ∧ i ≤ n ∧ Aside0 (z = val ((R.take (n + 1).toNat).drop (i + 1).toNat))) (fun _ vi => (intOf vi + 1).toNat)
                  case atStart => exact ⟨0, n, rfl, rfl, by omega, by omega, ⟨by rw [List.drop_eq_nil_of_le (by rw [List.length_take]; omega)]; rfl⟩⟩
                  case round =>
                    obtain ⟨z, i, rfl, rfl, hi0, hi1, HZ⟩ := hrel
                    by_cases f1 : 0 ≤ i
                    · have k1 : decide (0 ≤ i) = true := decide_eq_true f1
                      obtain ⟨ad2, e2_, hcell2⟩ := Kd.at_int HR.out (at_ + i) (by omega) (by omega)
                      cases e2_
                      have hbi := HRD.out i f1 (by omega)
                      obtain ⟨b, hbb⟩ : ∃ b, b = rd l0 (at_ + i) := ⟨_, rfl⟩
                      rw [← hbb] at hcell2 hbi
                      have hbr := rd_mem HRB.out f1 (by omega)
                      rw [hbi] at hbr
                      have HST := Aside0.mk (horner R n.toNat i f1 (by omega) (by omega))
                      have HBI := Aside0.mk hbi
                      clear hbb hbi
                      have hz64 : 0 ≤ z ∧ z < 18446744073709551616 ∧ z * 128 + b % 128 < 18446744073709551616 := by
                        have h1 := HST.out
                        have h2 := val_drop_le (R.take (n + 1).toNat) (i + 1).toNat
                        have h3 := val_drop_le (R.take (n + 1).toNat) i.toNat
                        have h4 := val_nonneg ((R.take (n + 1).toNat).drop (i + 1).toNat)
                        have h5 := HV.out
                        rw [show n.toNat + 1 = (n + 1).toNat by omega, ← HZ.out, HBI.out] at h1
                        rw [← HZ.out] at h2 h4
                        omega
                      go_wp2
                      refine ⟨⟨_, _, rfl, rfl, by omega, by omega, ⟨?_⟩⟩, by simp only [intOf]; omega⟩
                      have h1 := HST.out
                      rw [show n.toNat + 1 = (n + 1).toNat by omega, ← HZ.out, HBI.out] at h1
                      rw [show (i - 1 + 1).toNat = i.toNat by omega, h1]
                      omega
                    · have k1 : decide (0 ≤ i) = false := decide_eq_false f1
                      have hie : i = -1 := by omega
                      subst hie
                      have HWz : Aside0 (tk l0 at_ most = (z, at_ + n + 1, 0)) := ⟨by rw [HW.out, HZ.out]; rfl⟩
                      go_wp2
                      go_ret3
                      rw [HWz.out]
                      exact ⟨rfl, rfl⟩
                · have q2 : (n == 9) = false := beq_eq_false_iff_ne.mpr g3
                  clear g1 g2 g3
                  go_wp2
                  go_loop [10, 11] (fun vz vi => ∃ z i : Int, vz = .int .u64 z ∧ vi = .int .i64 i ∧ -1 ≤ i ∧ i ≤ n ∧ Aside0 (z = val ((R.take (n + 1).toNat).drop (i + 1).toNat))) (fun _ vi => (intOf vi + 1).toNat)
                  case atStart => exact ⟨0, n, rfl, rfl, by omega, by omega, ⟨by rw [List.drop_eq_nil_of_le (by rw [List.length_take]; omega)]; rfl⟩⟩
                  case round =>
                    obtain ⟨z, i, rfl, rfl, hi0, hi1, HZ⟩ := hrel
                    by_cases f1 : 0 ≤ i
                    · have k1 : decide (0 ≤ i) = true := decide_eq_true f1
                      obtain ⟨ad2, e2_, hcell2⟩ := Kd.at_int HR.out (at_ + i) (by omega) (by omega)
                      cases e2_
                      have hbi := HRD.out i f1 (by omega)
                      obtain ⟨b, hbb⟩ : ∃ b, b = rd l0 (at_ + i) := ⟨_, rfl⟩
                      rw [← hbb] at hcell2 hbi
                      have hbr := rd_mem HRB.out f1 (by omega)
                      rw [hbi] at hbr
                      have HST := Aside0.mk (horner R n.toNat i f1 (by omega) (by omega))
                      have HBI := Aside0.mk hbi
                      clear hbb hbi
                      have hz64 : 0 ≤ z ∧ z < 18446744073709551616 ∧ z * 128 + b % 128 < 18446744073709551616 := by
                        have h1 := HST.out
                        have h2 := val_drop_le (R.take (n + 1).toNat) (i + 1).toNat
                        have h3 := val_drop_le (R.take (n + 1).toNat) i.toNat
                        have h4 := val_nonneg ((R.take (n + 1).toNat).drop (i + 1).toNat)
                        have h5 := HV.out
                        rw [show n.toNat + 1 = (n + 1).toNat by omega, ← HZ.out, HBI.out] at h1
                        rw [← HZ.out] at h2 h4
                        omega
                      go_wp2
                      refine ⟨⟨_, _, rfl, rfl, by omega, by omega, ⟨?_⟩⟩, by simp only [intOf]; omega⟩
                      have h1 := HST.out
                      rw [show n.toNat + 1 = (n + 1).toNat by omega, ← HZ.out, HBI.out] at h1
                      rw [show (i - 1 + 1).toNat = i.toNat by omega, h1]
                      omega
                    · have k1 : decide (0 ≤ i) = false := decide_eq_false f1
                      have hie : i = -1 := by omega
                      subst hie
                      have HWz : Aside0 (tk l0 at_ most = (z, at_ + n + 1, 0)) := ⟨by rw [HW.out, HZ.out]; rfl⟩
                      go_wp2
                      go_ret3
                      rw [HWz.out]
                      exact ⟨rfl, rfl⟩
        · have d3 : decide (n < most) = false := decide_eq_false e2
          have d5 : (n == most) = true := beq_iff_eq.mpr (by omega)
          have hw : tk l0 at_ most = (0, 0, 20) := by
            rw [HTK.out, rdw_long most hm R HRB.out n.toNat (by omega) (by omega) (fun j hj => HC.out j (by omega))]; rfl
          have HW := Aside0.mk hw; clear hw
          go_wp2
          go_ret3
          rw [HW.out]
          exact ⟨rfl, rfl⟩
      · have d2 : decide (at_ + n < (l0.length : Int)) = false := decide_eq_false (by omega)
        by_cases e2 : n = most
        · have d5 : (n == most) = true := beq_iff_eq.mpr e2
          have hw : tk l0 at_ most = (0, 0, 20) := by
            rw [HTK.out, rdw_long most hm R HRB.out n.toNat (by omega) (by omega) (fun j hj => HC.out j (by omega))]; rfl
          have HW := Aside0.mk hw; clear hw
          clear e2
          go_wp2
          go_ret3
          rw [HW.out]
          exact ⟨rfl, rfl⟩
        · have d5 : (n == most) = false := beq_eq_false_iff_ne.mpr e2
          have d6 : (at_ + n == (l0.length : Int)) = true := beq_iff_eq.mpr (by omega)
          have hw : tk l0 at_ most = (0, 0, 3) := by
            rw [HTK.out, rdw_end most R HRB.out (by omega) (by omega) (fun j hj => HC.out j (by omega))]; rfl
          have HW := Aside0.mk hw; clear hw
          clear e2
          go_wp2
          go_ret3
          rw [HW.out]
          exact ⟨rfl, rfl⟩
end Go.Proofs.YtcgjaobbjeagoaaDoor
