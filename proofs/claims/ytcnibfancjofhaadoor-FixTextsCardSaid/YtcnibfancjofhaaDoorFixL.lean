/- Print, of numbers from 0 on whose whole part is below 100. -/
import Derived.Test.YtcnibfancjofhaaDoorFixI
namespace Go.Proofs.YtcnibfancjofhaaDoor
open Go.RowKit Go.Proofs.YtcnibfancjofhaaDoorW.PrintWords Go.Proofs.YtcnibfancjofhaaDoorW.PrintLast Go.Proofs.YtcnibfancjofhaaDoorW.PrintMore
set_option linter.unusedVariables false
set_option linter.unusedSimpArgs false
set_option maxHeartbeats 1000000 in
set_option maxRecDepth 100000 in
theorem iFormat_small (u : Nat) (h : u < 100) (w : World) :
    Calls Tryd.prog 62 #[.int .u64 u, .int .i64 10] w fun e w' => e = .returned (.string ⟨(Lib.decDigits u).toArray⟩) ∧ w' = w := by
  have hS := Tryd.internal_strconv_small u h w
  have d1 : decide ((u : Int) < 100) = true := decide_eq_true (by omega)
  have d1n : decide (u < 100) = true := decide_eq_true (by omega)
  have hw : IntKind.i64.wrap (u : Int) = u := by rw [wrap_i64]; omega
  clear h
  go_enter Tryd.func62, Tryd.ntmps62
  go_wp2_with fail
  ((with_reducible refine hS.mono ?_); rintro e_ W1 ⟨rfl, rfl⟩)
  clear hS
  go_wp2
  go_ret
  exact ⟨rfl, rfl⟩
set_option maxHeartbeats 1000000 in
set_option maxRecDepth 100000 in
theorem Format_small (u : Nat) (h : u < 100) (w : World) :
    Calls Tryd.prog 38 #[.int .u64 u, .int .i64 10] w fun e w' => e = .returned (.string ⟨(Lib.decDigits u).toArray⟩) ∧ w' = w := by
  have hS := iFormat_small u h w
  clear h
  go_enter Tryd.func38, Tryd.ntmps38
  go_wp2_with fail
  ((with_reducible refine hS.mono ?_); rintro e_ W1 ⟨rfl, rfl⟩)
  clear hS
  go_wp2
  go_ret
  exact ⟨rfl, rfl⟩
/-- The digits behind the point. -/
def fracD : Nat → Int → List UInt8
  | 0, _ => []
  | k + 1, r => UInt8.ofNat (48 + (r * 10 / 4294967296).toNat) :: if r * 10 % 4294967296 = 0 then [] else fracD k (r * 10 % 4294967296)
def printF (a : Int) : List UInt8 := Lib.decDigits (a / 4294967296).toNat ++ [46] ++ fracD 32 (a % 4294967296)
theorem u64_and32 (z : Int) (h0 : 0 ≤ z) (h1 : z < 18446744073709551616) : bits .and .u64 z 4294967295 = z % 4294967296 := by go_bits2
def Div2 (k : Nat) (r : Int) : Prop := r % 2 ^ (32 - k) = 0
theorem div2_step {k : Nat} {r : Int} (hk : k + 1 ≤ 32) (h : Div2 (k + 1) r) : Div2 k (r * 10 % 4294967296) := by
  unfold Div2 at *
  have e : 32 - k = (32 - (k + 1)) + 1 := by omega
  rw [e]
  have hd : (2 : Int) ^ ((32 - (k + 1)) + 1) ∣ 4294967296 := by
    have h2 := Nat.pow_dvd_pow 2 (show (32 - (k + 1)) + 1 ≤ 32 by omega)
    rw [show (2 : Nat) ^ 32 = 4294967296 by decide] at h2
    have h3 := Int.natCast_dvd_natCast.2 h2
    rw [Int.natCast_pow] at h3
    exact h3
  rw [Int.emod_emod_of_dvd _ hd]
  have h1 := Int.dvd_of_emod_eq_zero h
  obtain ⟨c, rfl⟩ := h1
  rw [Int.pow_succ]
  refine Int.emod_eq_zero_of_dvd ⟨c * 5, by grind⟩
theorem div2_last {r : Int} (h : Div2 0 r) (h0 : 0 ≤ r) (h1 : r < 4294967296) : r = 0 := by
  unfold Div2 at h
  have e : (2 : Int) ^ (32 - 0) = 4294967296 := by decide
  rw [e] at h
  omega
theorem byteCells_snoc (l : List UInt8) (q : Int) (h0 : 0 ≤ q) (h1 : q ≤ 9) : Lib.byteCells l ++ [.int .u8 (48 + q)] = Lib.byteCells (l ++ [UInt8.ofNat (48 + q.toNat)]) := by
  have e : ((UInt8.ofNat (48 + q.toNat)).toNat : Int) = 48 + q := by
    rw [UInt8.toNat_ofNat_of_lt' (by show 48 + q.toNat < 256; omega)]; omega
  simp only [Lib.byteCells, List.map_append, List.map_cons, List.map_nil, e]
theorem strCells_byte (s : ByteArray) : Lib.strCells s = Lib.byteCells s.data.toList := by simp [Lib.strCells, Lib.byteCells]
set_option maxHeartbeats 8000000 in
set_option maxRecDepth 100000 in
theorem Print_small (a : Int) (h0 : 0 ≤ a) (h1 : a / 4294967296 < 100) (w : World) :
    Calls Tryd.prog 14 #[.int .i64 a] w fun e w' => e = .returned (.string ⟨(printF a).toArray⟩) ∧ Below w.heap.size w w' := by
  have ha : In64 a := by unfold In64; omega
  have hab : ab a = a := by rw [ab_pos h0]
  have hS := fun W => size_calls a W ha
  rw [hab] at hS
  have da : decide (a < 0) = false := decide_eq_false (by omega)
  have hF := fun W => Format_small (a / 4294967296).toNat (by omega) W
  have hc : (((a / 4294967296).toNat : Nat) : Int) = a / 4294967296 := by omega
  rw [hc] at hF
  obtain ⟨t, ht⟩ : ∃ t, t = Lib.decDigits (a / 4294967296).toNat := ⟨_, rfl⟩
  rw [← ht] at hF
  have htl : t.length ≤ 3 := by
    rw [ht]
    generalize hu : (a / 4294967296).toNat = u
    have hu1 : u < 100 := by omega
    rw [Lib.decDigits]
    split
    · simp
    · rw [Lib.decDigits, dif_pos (by omega)]; simp
  have HT := Aside0.mk ht
  have hsz : ((⟨t.toArray⟩ : ByteArray) ++ (⟨#[46]⟩ : ByteArray)).size = t.length + 1 := by rw [ByteArray.size_append]; rfl
  have hsz1 : (⟨t.toArray⟩ : ByteArray).size = t.length := rfl
  have hcs : Lib.strCells ((⟨t.toArray⟩ : ByteArray) ++ (⟨#[46]⟩ : ByteArray)) = Lib.byteCells (t ++ [46]) := by rw [strCells_byte, ByteArray.data_append]; simp
  have hss : (⟨t.toArray⟩ : ByteArray).size + 1 ≤ 9223372036854775807 := by rw [hsz1]; omega
  obtain ⟨st, hst⟩ : ∃ st : ByteArray, st = ⟨t.toArray⟩ := ⟨_, rfl⟩
  rw [← hst] at hF hsz hcs hss
  clear ht hc ha hab hst
  have ha32 := u64_and32 a h0 (by omega)
  have hr0 : 0 ≤ a % 4294967296 ∧ a % 4294967296 < 4294967296 := by omega
  have HD : Aside0 (Div2 32 (a % 4294967296)) := ⟨by unfold Div2; simp⟩
  have hfr := Lib.IsBuilderF.of (Lib.fresh_isBuilder 51 5 w)
  have hbw := (Below.refl w.heap.size w).alloc (Nat.le_refl _) (.cells #[.pointer none, .slice none 0 0] 51)
  have hbz := hbw.size
  obtain ⟨r, hr⟩ : ∃ r, r = a % 4294967296 := ⟨_, rfl⟩
  rw [← hr] at ha32 hr0 HD
  have HR := Aside0.mk hr
  obtain ⟨q, hq⟩ : ∃ q, q = a / 4294967296 := ⟨_, rfl⟩
  rw [← hq] at hF
  have HQ := Aside0.mk hq
  have hdv : a / 4294967296 = q := hq.symm
  clear hr hq
  obtain ⟨b, hb⟩ : ∃ b, b = w.heap.size := ⟨_, rfl⟩
  go_enter Tryd.func14, Tryd.ntmps14
  go_wp2_with fail
  ((with_reducible refine (hS _).mono ?_); rintro e_ W1 ⟨rfl, rfl⟩)
  go_wp2_with fail
  ((with_reducible refine (hF _).mono ?_); rintro e_ W2 ⟨rfl, rfl⟩)
  have hW := WriteString_calls w.heap.size w.heap.size [] (st ++ (⟨#[46]⟩ : ByteArray)) (w.alloc (.cells #[.pointer none, .slice none 0 0] 51)) hfr (by rw [hsz]; simp; omega) hbz
  clear hF hS hfr
  go_wp2_with fail
  ((with_reducible refine hW.mono ?_); rintro e_ W3 ⟨rfl, hB3, hb3⟩)
  rw [hcs, List.nil_append] at hB3
  have HB3 := Aside0.mk hB3; have Hb3 := Aside0.mk (hbw.trans hb3)
  clear hB3 hb3 hbw hW hcs hsz
  have HTL : Aside0 ((t ++ [46]).length + 32 ≤ 100) := ⟨by simp; omega⟩
  have HE : Aside0 ((t ++ [46]) ++ fracD 32 r = printF a) := ⟨by unfold printF; rw [HT.out, HR.out]⟩
  go_wp2
  go_loopg [4] 32 (fun kq v4 w' => ∃ (r' : Int) (done : List UInt8), v4 = .int .u64 r' ∧ 1 ≤ kq ∧ kq ≤ 32 ∧ 0 ≤ r' ∧ r' < 4294967296 ∧ Aside0 (Div2 kq r') ∧ Aside0 (IsB w.heap.size w.heap.size (Lib.byteCells done) w') ∧ Aside0 (done ++ fracD kq r' = printF a) ∧ Aside0 (done.length + kq ≤ 100) ∧ Aside0 (Below w.heap.size w w'))
  case atStart => exact ⟨r, t ++ [46], rfl, by omega, by omega, hr0.1, hr0.2, HD, HB3, HE, HTL, Hb3⟩
  case round =>
    obtain ⟨r', done, rfl, hk1, hk2, hr1, hr2, HDV, HBL, HEQ, HLN, HBE⟩ := hrel
    cases gk with
    | zero => omega
    | succ k1 =>
      have hst := div2_step (k := k1) hk2 HDV.out
      have hfd : fracD (k1 + 1) r' = UInt8.ofNat (48 + (r' * 10 / 4294967296).toNat) :: if r' * 10 % 4294967296 = 0 then [] else fracD k1 (r' * 10 % 4294967296) := rfl
      have heq := HEQ.out
      rw [hfd] at heq
      have hand := u64_and32 (r' * 10) (by omega) (by omega)
      have hw1 : IntKind.u64.wrap (r' * 10) = r' * 10 := by rw [wrap_u64]; omega
      have hq0 : 0 ≤ r' * 10 / 4294967296 ∧ r' * 10 / 4294967296 ≤ 9 := by omega
      have hm0 : 0 ≤ r' * 10 % 4294967296 ∧ r' * 10 % 4294967296 < 4294967296 := by omega
      obtain ⟨m10, hm10⟩ : ∃ m, m = r' * 10 % 4294967296 := ⟨_, rfl⟩
      rw [← hm10] at hand hst heq hm0
      obtain ⟨q10, hq10⟩ : ∃ q, q = r' * 10 / 4294967296 := ⟨_, rfl⟩
      rw [← hq10] at heq hq0
      have hq10' : r' * 10 / 4294967296 = q10 := hq10.symm
      have hw2 : IntKind.u64.wrap (48 + q10) = 48 + q10 := by rw [wrap_u64]; omega
      have hw3 : IntKind.u8.wrap (48 + q10) = 48 + q10 := by rw [IntKind.wrap_u8]; omega
      have hWB := WriteByte_calls w.heap.size w.heap.size (Lib.byteCells done) (48 + q10) wr HBL.out (by rw [Lib.byteCells_length]; have := HLN.out; omega) HBE.out.size
      rw [byteCells_snoc done q10 hq0.1 hq0.2] at hWB
      have HST := Aside0.mk hst; have HQ := Aside0.mk heq
      clear hst heq hfd hm10 hq10 HDV HBL HEQ
      go_wp2_with fail
      ((with_reducible refine hWB.mono ?_); rintro e_ W5 ⟨rfl, hB5, hb5⟩)
      have HB5 := Aside0.mk hB5; have Hb5 := Aside0.mk (HBE.out.trans hb5)
      clear hB5 hb5 hWB
      by_cases hz : m10 = 0
      · have dz : (m10 == 0) = true := beq_iff_eq.2 hz
        have hfin := HQ.out
        rw [if_pos hz] at hfin
        have HFIN := Aside0.mk hfin
        have hSt := String_calls w.heap.size w.heap.size (done ++ [UInt8.ofNat (48 + q10.toNat)]) W5 HB5.out (by simp)
        rw [hfin] at hSt
        clear hz hfin
        go_wp2_with fail
        ((with_reducible refine hSt.mono ?_); rintro e_ W6 ⟨rfl, hb6⟩)
        have Hb6 := Aside0.mk (Hb5.out.trans hb6)
        clear hb6 hSt
        go_wp2
        go_ret
        exact ⟨rfl, Hb6.out⟩
      · have dz : (m10 == 0) = false := beq_eq_false_iff_ne.2 hz
        have hfin := HQ.out
        rw [if_neg hz] at hfin
        have hk3 : 1 ≤ k1 := by
          apply Classical.byContradiction
          intro hk
          have e0 : k1 = 0 := by omega
          subst e0
          exact hz (div2_last HST.out hm0.1 hm0.2)
        have HFIN : Aside0 ((done ++ [UInt8.ofNat (48 + q10.toNat)]) ++ fracD k1 m10 = printF a) := ⟨by rw [← hfin]; simp⟩
        have HLN2 : Aside0 ((done ++ [UInt8.ofNat (48 + q10.toNat)]).length + k1 ≤ 100) := ⟨by have := HLN.out; simp; omega⟩
        clear hz hfin
        go_wp2
        go_roundg k1
        case measure => omega
        case rel => exact ⟨m10, _, rfl, hk3, by omega, hm0.1, hm0.2, HST, HB5, HFIN, HLN2, Hb5⟩
end Go.Proofs.YtcnibfancjofhaaDoor
