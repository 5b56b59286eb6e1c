/- wire.take. -/
import Derived.Test.YtcgjaobbjeagoaaDoorWireC
import Derived.ScopeJumps
namespace Go.Proofs.YtcgjaobbjeagoaaDoor
open Go.RowKit Go.Proofs.YtcgjaobbjeagoaaDoorW.PrintWords Go.Proofs.YtcgjaobbjeagoaaDoorW.PrintLast Go.Proofs.YtcgjaobbjeagoaaDoorW.PrintMore
set_option linter.unusedVariables false
set_option linter.unusedSimpArgs false

/-- One of at most so many bytes, read from the i-th on. -/
def rdw (most : Int) : List Int → Int → Int → Int × Int × Int
  | [], i, _ => if most ≤ i then (0, 0, 20) else (0, 0, 3)
  | c :: cs, i, acc =>
    if i = most ∨ (i = 9 ∧ 1 < c) then (0, 0, 20)
    else if c < 128 then (if c = 0 ∧ 0 < i then (0, 0, 20) else (acc + c * (128 ^ i.toNat : Nat), i + 1, 0))
    else rdw most cs (i + 1) (acc + (c - 128) * (128 ^ i.toNat : Nat))
def tk (l : List Int) (at_ most : Int) : Int × Int × Int :=
  if at_ < 0 ∨ (l.length : Int) < at_ then (0, 0, 1)
  else if (rdw most (l.drop at_.toNat) 0 0).2.2 = 0 then ((rdw most (l.drop at_.toNat) 0 0).1, at_ + (rdw most (l.drop at_.toNat) 0 0).2.1, 0)
  else (0, 0, (rdw most (l.drop at_.toNat) 0 0).2.2)

theorem u8_and127' (c : Int) (h0 : 0 ≤ c) (h1 : c < 256) : bits .and .u8 c 127 = c % 128 := by
  exact bits_mask .u8 8 (by decide) wraps_u8 7 (by decide) c h0 h1
theorem w64id (x : Int) (h0 : 0 ≤ x) (h1 : x < 18446744073709551616) : IntKind.u64.wrap x = x := by
  show x % 18446744073709551616 = x
  omega
theorem mul_pow_lt (b n : Nat) (hn : n ≤ 9) (hb : b < 128) (h9 : n = 9 → b ≤ 1) : b * 128 ^ n < 18446744073709551616 := by
  have h : n = 0 ∨ n = 1 ∨ n = 2 ∨ n = 3 ∨ n = 4 ∨ n = 5 ∨ n = 6 ∨ n = 7 ∨ n = 8 ∨ n = 9 := by omega
  rcases h with rfl | rfl | rfl | rfl | rfl | rfl | rfl | rfl | rfl | rfl <;> simp at h9 ⊢ <;> omega
theorem shl_or (z c : Int) (n : Nat) (hn : n ≤ 9) (hz0 : 0 ≤ z) (hz1 : z < (128 ^ n : Nat)) (hc0 : 0 ≤ c) (hc1 : c < 256) (h9 : n = 9 → c ≤ 1) :
    bits .or .u64 z (IntKind.u64.wrap (IntKind.u64.wrap (bits .and .u8 c 127) * 2 ^ (7 * (n : Int)).toNat)) = z + c % 128 * (128 ^ n : Nat) := by
  rw [u8_and127' c hc0 hc1, w64id (c % 128) (by omega) (by omega)]
  have e : (7 * (n : Int)).toNat = 7 * n := by omega
  rw [e]
  obtain ⟨a, rfl⟩ := Int.eq_ofNat_of_zero_le hz0
  obtain ⟨b, rfl⟩ := Int.eq_ofNat_of_zero_le hc0
  have e2 : (128 : Nat) ^ n = 2 ^ (7 * n) := by rw [Nat.pow_mul]
  have hlt := mul_pow_lt (b % 128) n hn (by omega) (by omega)
  have hp : (2 : Int) ^ (7 * n) = ((2 ^ (7 * n) : Nat) : Int) := by simp
  have ha : a < 2 ^ (7 * n) := by rw [← e2]; omega
  have e3 : (b : Int) % 128 * (2 : Int) ^ (7 * n) = ((b % 128 * 2 ^ (7 * n) : Nat) : Int) := by rw [hp]; simp
  rw [e2] at hlt
  rw [e3, w64id _ (by omega) (by omega), e2]
  have ha2 : a < 18446744073709551616 := by
    have : 2 ^ (7 * n) ≤ 2 ^ 63 := Nat.pow_le_pow_right (by decide) (by omega)
    omega
  rw [bits_or_u64_nat a _ ha2 hlt, Nat.or_comm, ← Nat.shiftLeft_eq, ← Nat.shiftLeft_add_eq_or_of_lt ha, Nat.shiftLeft_eq]
  simp
  omega
theorem pow_step (n : Nat) (z c : Int) (hz0 : 0 ≤ z) (hz1 : z < (128 ^ n : Nat)) (hc0 : 0 ≤ c) : 0 ≤ z + c % 128 * (128 ^ n : Nat) ∧ z + c % 128 * (128 ^ n : Nat) < (128 ^ (n + 1) : Nat) := by
  have h1 : c % 128 ≤ 127 := by omega
  have h0 : 0 ≤ c % 128 := by omega
  rw [Nat.pow_succ]
  have hp : (0 : Int) ≤ (128 ^ n : Nat) := Int.natCast_nonneg _
  rw [Int.natCast_mul]
  generalize ((128 ^ n : Nat) : Int) = p at *
  have h2 := Int.mul_le_mul_of_nonneg_right h1 hp
  have h3 := Int.mul_nonneg h0 hp
  omega
theorem rdw_at (most : Int) (R : List Int) (i z : Int) (h0 : 0 ≤ i) (h1 : i < R.length) :
    rdw most (R.drop i.toNat) i z = if i = most ∨ (i = 9 ∧ 1 < rd R i) then (0, 0, 20)
    else if rd R i < 128 then (if rd R i = 0 ∧ 0 < i then (0, 0, 20) else (z + rd R i * (128 ^ i.toNat : Nat), i + 1, 0))
    else rdw most (R.drop (i + 1).toNat) (i + 1) (z + (rd R i - 128) * (128 ^ i.toNat : Nat)) := by
  have hl : i.toNat < R.length := by omega
  have hr : rd R i = R[i.toNat] := by simp [rd, List.getD_eq_getElem?_getD, List.getElem?_eq_getElem hl]
  have hs : (i + 1).toNat = i.toNat + 1 := by omega
  rw [List.drop_eq_getElem_cons hl, rdw, hr, hs]
theorem rd_mem {R : List Int} (hb : ∀ x ∈ R, 0 ≤ x ∧ x < 256) {i : Int} (h0 : 0 ≤ i) (h1 : i < R.length) : 0 ≤ rd R i ∧ rd R i < 256 := by
  have hl : i.toNat < R.length := by omega
  have : rd R i = R[i.toNat] := by simp [rd, List.getD_eq_getElem?_getD, List.getElem?_eq_getElem hl]
  rw [this]
  exact hb _ (List.getElem_mem hl)
set_option maxHeartbeats 4000000 in
set_option maxRecDepth 100000 in
theorem take_calls (A0 : Option Addr) (c0 : Nat) (l0 : List Int) (at_ most : Int) (w : World)
    (hr0 : Kd.C (Kd.int .u8) w A0 l0.length l0) (hc0 : l0.length ≤ c0) (hb : ∀ x ∈ l0, 0 ≤ x ∧ x < 256) (hl : l0.length ≤ 140737488355318) (ha1 : -9223372036854775808 ≤ at_) (ha2 : at_ ≤ 9223372036854775807) (hm : most = 9 ∨ most = 10) :
    Calls Tryd.prog 34 #[.slice A0 l0.length c0, .int .i64 at_, .int .i64 most] w
      fun e w' => e = .returned (.tuple #[.int .u64 (tk l0 at_ most).1, .int .i64 (tk l0 at_ most).2.1, .int .i64 (tk l0 at_ most).2.2]) ∧ w' = w := by
  by_cases hat : at_ < 0 ∨ (l0.length : Int) < at_
  · have ht : tk l0 at_ most = (0, 0, 1) := if_pos hat
    rw [ht]
    rcases hat with h | h
    · have d1 : decide (at_ < 0) = true := decide_eq_true h
      clear h
      go_enter Tryd.func34, Tryd.ntmps34
      go_wp2
      refine wp_scope_jumps 0 (fun a' w' => False) (fun a' _ => 0) rfl ?_ (fun _ _ h => h.elim)
      go_wp2
      simp only [Exit.jump]
      go_ret3
      exact ⟨rfl, rfl⟩
    · by_cases h0 : at_ < 0
      · omega
      have d0 : decide (at_ < 0) = false := decide_eq_false h0
      have d1 : decide ((l0.length : Int) < at_) = true := decide_eq_true h
      clear h h0
      go_enter Tryd.func34, Tryd.ntmps34
      go_wp2
      refine wp_scope_jumps 0 (fun a' w' => False) (fun a' _ => 0) rfl ?_ (fun _ _ h => h.elim)
      go_wp2
      simp only [Exit.jump]
      go_ret3
      exact ⟨rfl, rfl⟩
  · have h0 : 0 ≤ at_ := by omega
    have h1 : at_ ≤ l0.length := by omega
    have d0 : decide (at_ < 0) = false := decide_eq_false (by omega)
    have d1 : decide ((l0.length : Int) < at_) = false := decide_eq_false (by omega)
    obtain ⟨i0, hi0, _, hsz0, _⟩ := info_parts infoB
    obtain ⟨A1, hcut, hA, hc1⟩ := print_drop_of (P := Tryd.prog) (Value.int .u8) (0 : Int) 23 5 .i64 Tryd.underlying23 hi0 hsz0 A0 c0 l0 at_ h0 h1 hc0
    have HR1 := Kd.C_of_reads (h1 := fun _ => rfl) (hA w (Kd.reads_of_C hr0))
    have HLL := Aside0.mk hl; clear hl
    have HTB := Aside0.mk hb; clear hb
    have hRl : (l0.drop at_.toNat).length = l0.length - at_.toNat := List.length_drop
    have hRb : ∀ x ∈ l0.drop at_.toNat, 0 ≤ x ∧ x < 256 := fun x hx => HTB.out x (List.mem_of_mem_drop hx)
    have htk : tk l0 at_ most = if (rdw most (l0.drop at_.toNat) 0 0).2.2 = 0 then ((rdw most (l0.drop at_.toNat) 0 0).1, at_ + (rdw most (l0.drop at_.toNat) 0 0).2.1, 0) else (0, 0, (rdw most (l0.drop at_.toNat) 0 0).2.2) := if_neg hat
    generalize l0.drop at_.toNat = R at hcut HR1 hRl hRb htk hc1
    change Kd.C (Kd.int .u8) w A1 R.length R at HR1
    clear hA hat hr0
    have HR := Aside0.mk HR1
    have HTK := Aside0.mk htk; clear htk
    have HLR := Aside0.mk hRl
    have hRl2 : (l0.length : Int) = at_ + R.length := by omega
    have HL2 := Aside0.mk hRl2; clear hRl2 hRl
    clear HR1
    go_enter Tryd.func34, Tryd.ntmps34
    go_wp2
    refine wp_scope_jumps 0 (fun a' w' => ∃ (u0 u1 u2 u3 u4 u5 u6 u7 u8 u9 u10 u11 u12 u13 u14 u15 u16 u17 u18 u19 u20 u21 u22 u23 u24 u25 u26 u27 u28 u29 u30 u31 u32 u33 u34 u35 u36 u37 u38 u39 u40 u41 u42 u43 u44 u45 u46 u47 u48 u49 u50 u51 u52 u53 u54 u55 u56 u57 u58 u59 u60 u61 u62 u63 u64 u65 : Value), a' = { tmps := #[u0, u1, u2, u3, u4, u5, u6, u7, u8, u9, u10, u11, u12, u13, u14, u15, u16, u17, u18, u19, u20, u21, u22, u23, u24, u25, u26, u27, u28, u29, u30, u31, u32, u33, u34, u35, u36, u37, u38, u39, u40, u41, u42, u43, u44, u45, u46, u47, u48, u49, u50, u51, u52, u53, u54, u55, u56, u57, u58, u59, u60, u61, u62, u63, u64, u65], defers := [] } ∧ w' = w ∧ tk l0 at_ most = (0, 0, 20)) (fun a' _ => 0) rfl ?_ ?_
    · go_wp2
      go_loop [9, 24] (fun vz vi => ∃ (z i : Int), vz = .int .u64 z ∧ vi = .int .i64 i ∧ 0 ≤ i ∧ i ≤ R.length ∧ i ≤ most ∧ 0 ≤ z ∧ z < (128 ^ i.toNat : Nat) ∧ rdw most R 0 0 = rdw most (R.drop i.toNat) i z) (fun _ vi => (R.length - intOf vi).toNat)
      case atStart => exact ⟨0, 0, rfl, rfl, by omega, by omega, by omega, by omega, by simp, rfl⟩
      case round =>
        obtain ⟨z, i, rfl, rfl, hi0, hi1, hi2, hz0, hz1, hrd⟩ := hrel
        by_cases hx : i < R.length
        · have dx : decide (i < (R.length : Int)) = true := decide_eq_true hx
          obtain ⟨ad, e, hcell⟩ := Kd.at_int HR.out i hi0 hx
          cases e
          obtain ⟨c, hc⟩ : ∃ c, c = rd R i := ⟨_, rfl⟩
          rw [← hc] at hcell
          have hcb : 0 ≤ c ∧ c < 256 := hc ▸ rd_mem hRb hi0 hx
          have HZ := Aside0.mk (And.intro hz0 (And.intro hz1 hrd)); clear hz0 hz1 hrd
          have HC := Aside0.mk hc; clear hc
          have hle9 : i ≤ 9 ∨ i = most := by omega
          by_cases e1 : i = most
          · have b1 : (i == most) = true := beq_iff_eq.mpr e1
            have hw : tk l0 at_ most = (0, 0, 20) := by
              have h1 := HZ.out.2.2
              rw [rdw_at most R i z hi0 hx, if_pos (.inl e1)] at h1
              rw [HTK.out, h1]; rfl
            have HW := Aside0.mk hw; clear hw
            clear e1 hle9
            go_wp2
            go_step3; exact ⟨rfl, _, _, _, _, _, _, _, _, _, _, _, _, _, _, _, _, _, _, _, _, _, _, _, _, _, _, _, _, _, _, _, _, _, _, _, _, _, _, _, _, _, _, _, _, _, _, _, _, _, _, _, _, _, _, _, _, _, _, _, _, _, _, _, _, _, _, rfl, rfl, HW.out⟩
          · have b1 : (i == most) = false := beq_eq_false_iff_ne.mpr e1
            by_cases e2 : i = 9
            · have b2 : (i == 9) = true := beq_iff_eq.mpr e2
              by_cases e3 : 1 < c
              · have b3 : decide (1 < c) = true := decide_eq_true e3
                have hw : tk l0 at_ most = (0, 0, 20) := by
                  have h1 := HZ.out.2.2
                  rw [rdw_at most R i z hi0 hx, if_pos (.inr ⟨e2, HC.out ▸ e3⟩)] at h1
                  rw [HTK.out, h1]; rfl
                have HW := Aside0.mk hw; clear hw
                clear e1 e2 e3 hle9
                go_wp2
                go_step3; exact ⟨rfl, _, _, _, _, _, _, _, _, _, _, _, _, _, _, _, _, _, _, _, _, _, _, _, _, _, _, _, _, _, _, _, _, _, _, _, _, _, _, _, _, _, _, _, _, _, _, _, _, _, _, _, _, _, _, _, _, _, _, _, _, _, _, _, _, _, _, rfl, rfl, HW.out⟩
              · have b3 : decide (1 < c) = false := decide_eq_false e3
                have b4 : decide (c < 128) = true := decide_eq_true (by omega)
                by_cases e4 : c = 0
                · have b5 : (c == 0) = true := beq_iff_eq.mpr e4
                  have b6 : decide (0 < i) = true := decide_eq_true (by omega)
                  have hw : tk l0 at_ most = (0, 0, 20) := by
                    have h1 := HZ.out.2.2
                    rw [rdw_at most R i z hi0 hx, ← HC.out, if_neg (by omega), if_pos (by omega), if_pos (by omega)] at h1
                    rw [HTK.out, h1]; rfl
                  have HW := Aside0.mk hw; clear hw
                  have HE := Aside0.mk e4; clear e4
                  clear e1 e2 e3 hle9
                  go_wp2
                  go_step3; exact ⟨rfl, _, _, _, _, _, _, _, _, _, _, _, _, _, _, _, _, _, _, _, _, _, _, _, _, _, _, _, _, _, _, _, _, _, _, _, _, _, _, _, _, _, _, _, _, _, _, _, _, _, _, _, _, _, _, _, _, _, _, _, _, _, _, _, _, _, _, rfl, rfl, HW.out⟩
                · have b5 : (c == 0) = false := beq_eq_false_iff_ne.mpr e4
                  have hw : tk l0 at_ most = (bits .or .u64 z (IntKind.u64.wrap (IntKind.u64.wrap (bits .and .u8 c 127) * 2 ^ (7 * i).toNat)), wrap64 (wrap64 (at_ + i) + 1), 0) := by
                    have h1 := HZ.out.2.2
                    rw [rdw_at most R i z hi0 hx, ← HC.out, if_neg (by omega), if_pos (by omega), if_neg (by omega)] at h1
                    rw [HTK.out, h1, if_pos rfl]
                    have h2 := shl_or z c i.toNat (by omega) HZ.out.1 HZ.out.2.1 hcb.1 hcb.2 (by omega)
                    rw [show ((i.toNat : Nat) : Int) = i by omega] at h2
                    rw [h2, show c % 128 = c by omega, show at_ + (i + 1) = wrap64 (wrap64 (at_ + i) + 1) by (have := HL2.out; have := HLL.out; simp only [wrap64]; omega)]
                  have HW := Aside0.mk hw; clear hw
                  have HE := Aside0.mk e2
                  clear e1 e2 e3 e4 hle9
                  go_wp2
                  simp only [Exit.jump]
                  go_ret3
                  rw [HW.out]
                  exact ⟨rfl, rfl⟩
            · have b2 : (i == 9) = false := beq_eq_false_iff_ne.mpr e2
              by_cases e3 : c < 128
              · have b3 : decide (c < 128) = true := decide_eq_true e3
                by_cases e4 : c = 0
                · have b5 : (c == 0) = true := beq_iff_eq.mpr e4
                  by_cases e5 : 0 < i
                  · have b6 : decide (0 < i) = true := decide_eq_true e5
                    have hw : tk l0 at_ most = (0, 0, 20) := by
                      have h1 := HZ.out.2.2
                      rw [rdw_at most R i z hi0 hx, ← HC.out, if_neg (by omega), if_pos (by omega), if_pos (by omega)] at h1
                      rw [HTK.out, h1]; rfl
                    have HW := Aside0.mk hw; clear hw
                    have HE := Aside0.mk e4; clear e4
                    clear e1 e2 e3 hle9 e5
                    go_wp2
                    go_step3; exact ⟨rfl, _, _, _, _, _, _, _, _, _, _, _, _, _, _, _, _, _, _, _, _, _, _, _, _, _, _, _, _, _, _, _, _, _, _, _, _, _, _, _, _, _, _, _, _, _, _, _, _, _, _, _, _, _, _, _, _, _, _, _, _, _, _, _, _, _, _, rfl, rfl, HW.out⟩
                  · have b6 : decide (0 < i) = false := decide_eq_false e5
                    have hw : tk l0 at_ most = (bits .or .u64 z (IntKind.u64.wrap (IntKind.u64.wrap (bits .and .u8 c 127) * 2 ^ (7 * i).toNat)), wrap64 (wrap64 (at_ + i) + 1), 0) := by
                        have h1 := HZ.out.2.2
                        rw [rdw_at most R i z hi0 hx, ← HC.out, if_neg (by omega), if_pos (by omega), if_neg (by omega)] at h1
                        rw [HTK.out, h1, if_pos rfl]
                        have h2 := shl_or z c i.toNat (by omega) HZ.out.1 HZ.out.2.1 hcb.1 hcb.2 (by omega)
                        rw [show ((i.toNat : Nat) : Int) = i by omega] at h2
                        rw [h2, show c % 128 = c by omega, show at_ + (i + 1) = wrap64 (wrap64 (at_ + i) + 1) by (have := HL2.out; have := HLL.out; simp only [wrap64]; omega)]
                    have HW := Aside0.mk hw; clear hw
                    have HE := Aside0.mk e4
                    clear e1 e2 e3 e4 e5
                    go_wp2
                    simp only [Exit.jump]
                    go_ret3
                    rw [HW.out]
                    exact ⟨rfl, rfl⟩
                · have b5 : (c == 0) = false := beq_eq_false_iff_ne.mpr e4
                  have hw : tk l0 at_ most = (bits .or .u64 z (IntKind.u64.wrap (IntKind.u64.wrap (bits .and .u8 c 127) * 2 ^ (7 * i).toNat)), wrap64 (wrap64 (at_ + i) + 1), 0) := by
                      have h1 := HZ.out.2.2
                      rw [rdw_at most R i z hi0 hx, ← HC.out, if_neg (by omega), if_pos (by omega), if_neg (by omega)] at h1
                      rw [HTK.out, h1, if_pos rfl]
                      have h2 := shl_or z c i.toNat (by omega) HZ.out.1 HZ.out.2.1 hcb.1 hcb.2 (by omega)
                      rw [show ((i.toNat : Nat) : Int) = i by omega] at h2
                      rw [h2, show c % 128 = c by omega, show at_ + (i + 1) = wrap64 (wrap64 (at_ + i) + 1) by (have := HL2.out; have := HLL.out; simp only [wrap64]; omega)]
                  have HW := Aside0.mk hw; clear hw
                  have HE := Aside0.mk e4
                  clear e1 e2 e3 e4 
                  go_wp2
                  simp only [Exit.jump]
                  go_ret3
                  rw [HW.out]
                  exact ⟨rfl, rfl⟩
              · have b3 : decide (c < 128) = false := decide_eq_false e3
                have HN : Aside0 (0 ≤ z + c % 128 * (128 ^ i.toNat : Nat) ∧ z + c % 128 * (128 ^ i.toNat : Nat) < (128 ^ (i + 1).toNat : Nat) ∧ rdw most R 0 0 = rdw most (R.drop (i + 1).toNat) (i + 1) (z + c % 128 * (128 ^ i.toNat : Nat))) := by
                  have h1 := HZ.out.2.2
                  rw [rdw_at most R i z hi0 hx, ← HC.out, if_neg (by omega), if_neg (by omega)] at h1
                  have h2 := pow_step i.toNat z c HZ.out.1 HZ.out.2.1 hcb.1
                  rw [show (i + 1).toNat = i.toNat + 1 by omega]
                  rw [show (i + 1).toNat = i.toNat + 1 by omega, show c - 128 = c % 128 by omega] at h1
                  exact ⟨h2.1, h2.2, h1⟩
                have h2 := shl_or z c i.toNat (by omega) HZ.out.1 HZ.out.2.1 hcb.1 hcb.2 (by omega)
                rw [show ((i.toNat : Nat) : Int) = i by omega] at h2
                have HS := Aside0.mk h2; clear h2
                have HI : Aside0 (i + 1 ≤ R.length ∧ i + 1 ≤ most ∧ 0 ≤ i + 1) := ⟨by omega⟩
                clear e1 e2 e3
                go_wp2
                rw [HS.out]
                refine ⟨⟨_, _, rfl, rfl, HI.out.2.2, HI.out.1, HI.out.2.1, HN.out.1, HN.out.2.1, HN.out.2.2⟩, ?_⟩
                have := HI.out
                simp only [intOf]
                omega
        · have dx : decide (i < (R.length : Int)) = false := decide_eq_false hx
          have hie : i = R.length := by omega
          have HIE := Aside0.mk hie; clear hie
          have hrd0 : rdw most R 0 0 = if most ≤ i then (0, 0, 20) else (0, 0, 3) := by
            rw [hrd, List.drop_eq_nil_of_le (by omega), rdw]
          have HRD := Aside0.mk hrd0; clear hrd0 hrd
          have hsub : wrap64 ((l0.length : Int) - at_) = i := by
            have := HL2.out; have := HIE.out
            simp only [wrap64]; omega
          by_cases e1 : most ≤ i
          · have b1 : decide (most ≤ i) = true := decide_eq_true e1
            have hw : tk l0 at_ most = (0, 0, 20) := by rw [HTK.out, HRD.out, if_pos e1]; rfl
            have HW := Aside0.mk hw; clear hw
            clear e1 hx hi1 hi2
            go_wp2
            go_step3; exact ⟨rfl, _, _, _, _, _, _, _, _, _, _, _, _, _, _, _, _, _, _, _, _, _, _, _, _, _, _, _, _, _, _, _, _, _, _, _, _, _, _, _, _, _, _, _, _, _, _, _, _, _, _, _, _, _, _, _, _, _, _, _, _, _, _, _, _, _, _, rfl, rfl, HW.out⟩
          · have b1 : decide (most ≤ i) = false := decide_eq_false e1
            have hw : tk l0 at_ most = (0, 0, 3) := by rw [HTK.out, HRD.out, if_neg e1]; rfl
            have HW := Aside0.mk hw; clear hw
            clear e1 hx hi1 hi2
            go_wp2
            simp only [Exit.jump]
            go_ret3
            rw [HW.out]
            exact ⟨rfl, rfl⟩
    · rintro a' w' ⟨u0, u1, u2, u3, u4, u5, u6, u7, u8, u9, u10, u11, u12, u13, u14, u15, u16, u17, u18, u19, u20, u21, u22, u23, u24, u25, u26, u27, u28, u29, u30, u31, u32, u33, u34, u35, u36, u37, u38, u39, u40, u41, u42, u43, u44, u45, u46, u47, u48, u49, u50, u51, u52, u53, u54, u55, u56, u57, u58, u59, u60, u61, u62, u63, u64, u65, rfl, rfl, hw⟩
      go_wp2
      simp only [Exit.jump]
      go_ret3
      rw [hw]
      exact ⟨rfl, rfl⟩
end Go.Proofs.YtcgjaobbjeagoaaDoor
