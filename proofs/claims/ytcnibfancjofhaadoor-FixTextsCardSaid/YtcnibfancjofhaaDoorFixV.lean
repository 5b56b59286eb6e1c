/- Merged: FixS FixT FixU -/
import Derived.Test.YtcnibfancjofhaaDoorFixM
import Derived.Lib.ItoaMem
/- FormatUint of any number (the table of powers of ten wanted), Print of any number. -/
namespace Go.Proofs.YtcnibfancjofhaaDoor
open Go.RowKit Go.Sort Go.Proofs.YtcnibfancjofhaaDoorW.PrintWords Go.Proofs.YtcnibfancjofhaaDoorW.PrintLast Go.Proofs.YtcnibfancjofhaaDoorW.PrintMore
set_option linter.unusedVariables false
set_option linter.unusedSimpArgs false
abbrev PowT (w : World) : Prop := Lib.TabIs Tryd.prog w "internal/strconv.uint64pow10" .u64 Lib.pow10Tab
theorem PowT.below {w w' : World} (hp : PowT w) (hb : Below w.heap.size w w') : PowT w' := by
  unfold PowT Lib.TabIs World.var? at *
  cases hg : Tryd.prog.globalNamed "internal/strconv.uint64pow10" with
  | none => rw [hg] at hp; simp at hp
  | some g =>
    rw [hg] at hp
    simp only [Option.bind_some] at hp ⊢
    have hlt : g < w.heap.size := by
      cases hh : w.heap[g]? with
      | none => rw [hh] at hp; cases hp
      | some o => exact (Array.getElem?_eq_some_iff.1 hh).1
    rw [hb.block g hlt]
    exact hp
theorem holds_zero0 (w : World) (T : TypeId) (nd : Nat) (hs : nd ≤ 24) : Holds (fun (b : UInt8) => Value.int .u8 (b.toNat : Int)) (w.alloc (.cells Lib.zeros24 T)) w.heap.size 0 (Array.replicate nd (0 : UInt8)) := fun j hj => by
  have hj' : j < nd := by simpa using hj
  refine ⟨?_, World.frozen?_alloc_new _ _ _ _⟩
  rw [World.cell?_alloc_new, Lib.zeros24_at _ (by omega), getElem!_pos _ j hj]
  simp
theorem below_put0 (w : World) (o : Obj) (dk : Array UInt8) : Below w.heap.size w (putRow (fun (b : UInt8) => Value.int .u8 (b.toNat : Int)) (w.alloc o) w.heap.size 0 dk) := by
  rw [alloc_eq_grow]
  obtain ⟨os', _, e⟩ := putRow_grow_new (fun (b : UInt8) => Value.int .u8 (b.toNat : Int)) w #[o] w.heap.size 0 dk (Nat.le_refl _)
  rw [e]
  exact ⟨rfl, rfl, rfl, by simp [grow], fun k hk => heap_grow_old w os' hk⟩
theorem IsB.below {B b : Nat} {bs : List Value} {w w' : World} (h : IsB B b bs w) (hb : Below w.heap.size w w') : IsB B b bs w' := by
  have key : ∀ p, Lib.BuilderAtF 51 5 B b p bs w → Lib.BuilderAtF 51 5 B b p bs w' := by
    rintro p ⟨hB, v, hbk, ⟨hl, hr⟩, hne⟩
    refine ⟨hB, v, (hb.block b (Array.getElem?_eq_some_iff.1 hbk).1).trans hbk, ⟨hl, ?_⟩, hne⟩
    rcases hr with hr | ⟨g, cap, cur, fz, h1, h2, h3, h4⟩
    · exact .inl hr
    · exact .inr ⟨g, cap, cur, fz, h1, h2, (hb.block g (Array.getElem?_eq_some_iff.1 h3).1).trans h3, h4⟩
  exact h.elim (fun x => .inl (key _ x)) (fun x => .inr (key _ x))
set_option maxHeartbeats 6400000 in
set_option maxRecDepth 100000 in
theorem iFormat_big (u : Nat) (hu1 : 100 ≤ u) (hu64 : u < 18446744073709551616) (w : World) (htab : PowT w) :
    Calls Tryd.prog 62 #[.int .u64 u, .int .i64 10] w fun e w' => e = .returned (.string ⟨(Lib.decDigits u).toArray⟩) ∧ Below w.heap.size w w' := by
  have hnd20 : Lib.nDigits u ≤ 20 := by have := Lib.numDigits_eq u (by omega) hu64; split at this <;> omega
  have hal : Tryd.prog.arrayLen 95 = 24 := by simp [Program.arrayLen, Tryd.underlying95]
  have hsl : ∀ W, (Instr.sliceAt 95 (.pointer (some ⟨w.heap.size, 0, none⟩)) none (some (.int .i64 (Lib.nDigits u : Int))) none).run Tryd.prog W = .ok (.slice (some ⟨w.heap.size, 0, none⟩) (Lib.nDigits u) 24) W := fun W => by
    rw [run_sliceAt_array_h W 95 ⟨w.heap.size, 0, none⟩ (by simp [Program.arrayLen, Program.elem, Tryd.underlying95]) .i64 (Lib.nDigits u : Int) (by omega) (by rw [hal]; omega)]
    go_simp
    try omega
  have d1 : decide ((u : Int) < 100) = false := decide_eq_false (by omega)
  have d1n : decide (u < 100) = false := decide_eq_false (by omega)
  have hH0 := holds_zero0 w 95 (Lib.nDigits u) (by omega)
  have hfmt := Tryd.internal_strconv_formatBase10 w.heap.size 0 24 u (Array.replicate (Lib.nDigits u) 0) (w.alloc (.cells Lib.zeros24 95)) hH0 (by rw [Array.size_replicate]; exact Lib.lt_pow_nDigits u) hu64 (by rw [Array.size_replicate]; omega)
  rw [Array.size_replicate] at hfmt
  have hnum := Tryd.internal_strconv_numDigits u (by omega) hu64 (w.alloc (.cells Lib.zeros24 95)) (Lib.tabIs_alloc htab _)
  have HH0 := Lib.hid hH0
  clear hH0 hal htab
  go_enter Tryd.func62, Tryd.ntmps62
  go_wp2_with fail
  (refine hnum.mono ?_; rintro e_ W1 ⟨rfl, rfl⟩)
  go_wp2_with fail
  (refine hfmt.mono ?_; rintro e_ W2 ⟨rfl, k, v', dk, rfl, hF⟩)
  have hcv : (convert 39 9 (.slice (some ⟨w.heap.size, 0, none⟩) (Lib.nDigits u) 24)).run Tryd.prog ((putRow (fun (b : UInt8) => Value.int .u8 (b.toNat : Int)) (w.alloc (.cells Lib.zeros24 95)) w.heap.size 0 dk).drewN k) = .ok (.string ⟨(Lib.decDigits u).toArray⟩) ((putRow (fun (b : UInt8) => Value.int .u8 (b.toNat : Int)) (w.alloc (.cells Lib.zeros24 95)) w.heap.size 0 dk).drewN k) := by
    have h := run_convert_bytes_back (P := Tryd.prog) ((putRow (fun (b : UInt8) => Value.int .u8 (b.toNat : Int)) (w.alloc (.cells Lib.zeros24 95)) w.heap.size 0 dk).drewN k) 39 9 5 ⟨w.heap.size, 0, none⟩ 24 (Lib.decDigits u) Tryd.underlying39 Tryd.underlying5 Tryd.underlying9 (fun j hj => by
      rw [Lib.row_is_numeral hF j hj, Lib.add_plain, World.cell?_drewN]
      exact cell?_putRow (fun (b : UInt8) => Value.int .u8 (b.toNat : Int)) _ w.heap.size 0 _ dk HH0.out (by rw [hF.size, Array.size_replicate]) j (by rw [hF.size]; rw [Lib.decDigits_length] at hj; exact hj))
    rw [Lib.decDigits_length] at h
    exact h
  go_wp2
  go_ret
  exact ⟨rfl, pw_below_drewN (below_put0 w _ dk) k⟩
theorem Format_calls (u : Nat) (hu64 : u < 18446744073709551616) (w : World) (htab : PowT w) :
    Calls Tryd.prog 38 #[.int .u64 u, .int .i64 10] w fun e w' => e = .returned (.string ⟨(Lib.decDigits u).toArray⟩) ∧ Below w.heap.size w w' := by
  by_cases h : u < 100
  · refine (Format_small u h w).mono ?_
    rintro e w' ⟨rfl, rfl⟩
    exact ⟨rfl, Below.refl _ _⟩
  · have hS := iFormat_big u (by omega) hu64 w htab
    clear h htab
    go_enter Tryd.func38, Tryd.ntmps38
    go_wp2_with fail
    ((with_reducible refine hS.mono ?_); rintro e_ W1 ⟨rfl, hb⟩)
    have HB := Aside0.mk hb
    clear hS hb
    go_wp2
    go_ret
    exact ⟨rfl, HB.out⟩
theorem decDigits_le {u k : Nat} (hk : u < 10 ^ (k + 1)) : (Lib.decDigits u).length ≤ k + 1 := by
  induction k generalizing u with
  | zero => rw [Lib.decDigits, dif_pos (by simpa using hk)]; simp
  | succ k ih =>
    rw [Lib.decDigits]
    split
    · simp
    · rw [List.length_append]
      have := ih (u := u / 10) (by rw [Nat.pow_succ] at hk; omega)
      simp; omega
set_option maxHeartbeats 8000000 in
set_option maxRecDepth 100000 in
theorem Print_pos (a : Int) (h0 : 0 ≤ a) (h1 : a ≤ 9223372036854775807) (w : World) (hT : PowT w) :
    Calls Tryd.prog 14 #[.int .i64 a] w fun e w' => e = .returned (.string ⟨(printF a).toArray⟩) ∧ Below w.heap.size w w' := by
  have ha : In64 a := by unfold In64; omega
  have hab : ab a = a := by rw [ab_pos h0]
  have HPT := Aside0.mk hT
  clear hT
  have hS := fun W => size_calls a W ha
  rw [hab] at hS
  have da : decide (a < 0) = false := decide_eq_false (by omega)
  have hF := fun W h => Format_calls (a / 4294967296).toNat (by omega) W h
  have hc : (((a / 4294967296).toNat : Nat) : Int) = a / 4294967296 := by omega
  rw [hc] at hF
  obtain ⟨t, ht⟩ : ∃ t, t = Lib.decDigits (a / 4294967296).toNat := ⟨_, rfl⟩
  rw [← ht] at hF
  have htl : t.length ≤ 10 := by
    rw [ht]
    exact decDigits_le (k := 9) (by omega)
  have HT := Aside0.mk ht
  have hsz : ((⟨t.toArray⟩ : ByteArray) ++ (⟨#[46]⟩ : ByteArray)).size = t.length + 1 := by rw [ByteArray.size_append]; rfl
  have hsz1 : (⟨t.toArray⟩ : ByteArray).size = t.length := rfl
  have hcs : Lib.strCells ((⟨t.toArray⟩ : ByteArray) ++ (⟨#[46]⟩ : ByteArray)) = Lib.byteCells (t ++ [46]) := by rw [strCells_byte, ByteArray.data_append]; simp
  have hss : (⟨t.toArray⟩ : ByteArray).size + 1 ≤ 9223372036854775807 := by rw [hsz1]; omega
  obtain ⟨st, hst⟩ : ∃ st : ByteArray, st = ⟨t.toArray⟩ := ⟨_, rfl⟩
  rw [← hst] at hF hsz hcs hss
  clear ht hc ha hab hst
  have ha32 := u64_and32 a h0 (by omega)
  have hr0 : 0 ≤ a % 4294967296 ∧ a % 4294967296 < 4294967296 := by omega
  have HD : Aside0 (Div2 32 (a % 4294967296)) := ⟨by unfold Div2; simp⟩
  have hfr := Lib.IsBuilderF.of (Lib.fresh_isBuilder 51 5 w)
  have hbw := (Below.refl w.heap.size w).alloc (Nat.le_refl _) (.cells #[.pointer none, .slice none 0 0] 51)
  have hbz := hbw.size
  obtain ⟨r, hr⟩ : ∃ r, r = a % 4294967296 := ⟨_, rfl⟩
  rw [← hr] at ha32 hr0 HD
  have HR := Aside0.mk hr
  obtain ⟨q, hq⟩ : ∃ q, q = a / 4294967296 := ⟨_, rfl⟩
  rw [← hq] at hF
  have HQ := Aside0.mk hq
  have hdv : a / 4294967296 = q := hq.symm
  clear hr hq
  obtain ⟨b, hb⟩ : ∃ b, b = w.heap.size := ⟨_, rfl⟩
  go_enter Tryd.func14, Tryd.ntmps14
  go_wp2_with fail
  ((with_reducible refine (hS _).mono ?_); rintro e_ W1 ⟨rfl, rfl⟩)
  go_wp2_with fail
  ((with_reducible refine (hF _ (HPT.out.below hbw)).mono ?_); rintro e_ W2 ⟨rfl, hbF⟩)
  have hfr2 := IsB.below hfr hbF
  have hbw2 := below_step hbw hbF
  have hbz2 := hbw2.size
  have hW := WriteString_calls w.heap.size w.heap.size [] (st ++ (⟨#[46]⟩ : ByteArray)) W2 hfr2 (by rw [hsz]; simp; omega) hbz2
  clear hF hS hfr hfr2
  go_wp2_with fail
  ((with_reducible refine hW.mono ?_); rintro e_ W3 ⟨rfl, hB3, hb3⟩)
  rw [hcs, List.nil_append] at hB3
  have HB3 := Aside0.mk hB3; have Hb3 := Aside0.mk (hbw2.trans hb3)
  clear hB3 hb3 hbw hbw2 hbF hW hcs hsz
  have HTL : Aside0 ((t ++ [46]).length + 32 ≤ 100) := ⟨by simp; omega⟩
  have HE : Aside0 ((t ++ [46]) ++ fracD 32 r = printF a) := ⟨by unfold printF; rw [HT.out, HR.out]⟩
  go_wp2
  go_loopg [4] 32 (fun kq v4 w' => ∃ (r' : Int) (done : List UInt8), v4 = .int .u64 r' ∧ 1 ≤ kq ∧ kq ≤ 32 ∧ 0 ≤ r' ∧ r' < 4294967296 ∧ Aside0 (Div2 kq r') ∧ Aside0 (IsB w.heap.size w.heap.size (Lib.byteCells done) w') ∧ Aside0 (done ++ fracD kq r' = printF a) ∧ Aside0 (done.length + kq ≤ 100) ∧ Aside0 (Below w.heap.size w w'))
  case atStart => exact ⟨r, t ++ [46], rfl, by omega, by omega, hr0.1, hr0.2, HD, HB3, HE, HTL, Hb3⟩
  case round =>
    obtain ⟨r', done, rfl, hk1, hk2, hr1, hr2, HDV, HBL, HEQ, HLN, HBE⟩ := hrel
    cases gk with
    | zero => omega
    | succ k1 =>
      have hst := div2_step (k := k1) hk2 HDV.out
      have hfd : fracD (k1 + 1) r' = UInt8.ofNat (48 + (r' * 10 / 4294967296).toNat) :: if r' * 10 % 4294967296 = 0 then [] else fracD k1 (r' * 10 % 4294967296) := rfl
      have heq := HEQ.out
      rw [hfd] at heq
      have hand := u64_and32 (r' * 10) (by omega) (by omega)
      have hw1 : IntKind.u64.wrap (r' * 10) = r' * 10 := by rw [wrap_u64]; omega
      have hq0 : 0 ≤ r' * 10 / 4294967296 ∧ r' * 10 / 4294967296 ≤ 9 := by omega
      have hm0 : 0 ≤ r' * 10 % 4294967296 ∧ r' * 10 % 4294967296 < 4294967296 := by omega
      obtain ⟨m10, hm10⟩ : ∃ m, m = r' * 10 % 4294967296 := ⟨_, rfl⟩
      rw [← hm10] at hand hst heq hm0
      obtain ⟨q10, hq10⟩ : ∃ q, q = r' * 10 / 4294967296 := ⟨_, rfl⟩
      rw [← hq10] at heq hq0
      have hq10' : r' * 10 / 4294967296 = q10 := hq10.symm
      have hw2 : IntKind.u64.wrap (48 + q10) = 48 + q10 := by rw [wrap_u64]; omega
      have hw3 : IntKind.u8.wrap (48 + q10) = 48 + q10 := by rw [IntKind.wrap_u8]; omega
      have hWB := WriteByte_calls w.heap.size w.heap.size (Lib.byteCells done) (48 + q10) wr HBL.out (by rw [Lib.byteCells_length]; have := HLN.out; omega) HBE.out.size
      rw [byteCells_snoc done q10 hq0.1 hq0.2] at hWB
      have HST := Aside0.mk hst; have HQ := Aside0.mk heq
      clear hst heq hfd hm10 hq10 HDV HBL HEQ
      go_wp2_with fail
      ((with_reducible refine hWB.mono ?_); rintro e_ W5 ⟨rfl, hB5, hb5⟩)
      have HB5 := Aside0.mk hB5; have Hb5 := Aside0.mk (HBE.out.trans hb5)
      clear hB5 hb5 hWB
      by_cases hz : m10 = 0
      · have dz : (m10 == 0) = true := beq_iff_eq.2 hz
        have hfin := HQ.out
        rw [if_pos hz] at hfin
        have HFIN := Aside0.mk hfin
        have hSt := String_calls w.heap.size w.heap.size (done ++ [UInt8.ofNat (48 + q10.toNat)]) W5 HB5.out (by simp)
        rw [hfin] at hSt
        clear hz hfin
        go_wp2_with fail
        ((with_reducible refine hSt.mono ?_); rintro e_ W6 ⟨rfl, hb6⟩)
        have Hb6 := Aside0.mk (Hb5.out.trans hb6)
        clear hb6 hSt
        go_wp2
        go_ret
        exact ⟨rfl, Hb6.out⟩
      · have dz : (m10 == 0) = false := beq_eq_false_iff_ne.2 hz
        have hfin := HQ.out
        rw [if_neg hz] at hfin
        have hk3 : 1 ≤ k1 := by
          apply Classical.byContradiction
          intro hk
          have e0 : k1 = 0 := by omega
          subst e0
          exact hz (div2_last HST.out hm0.1 hm0.2)
        have HFIN : Aside0 ((done ++ [UInt8.ofNat (48 + q10.toNat)]) ++ fracD k1 m10 = printF a) := ⟨by rw [← hfin]; simp⟩
        have HLN2 : Aside0 ((done ++ [UInt8.ofNat (48 + q10.toNat)]).length + k1 ≤ 100) := ⟨by have := HLN.out; simp; omega⟩
        clear hz hfin
        go_wp2
        go_roundg k1
        case measure => omega
        case rel => exact ⟨m10, _, rfl, hk3, by omega, hm0.1, hm0.2, HST, HB5, HFIN, HLN2, Hb5⟩
set_option maxHeartbeats 8000000 in
set_option maxRecDepth 100000 in
theorem Print_neg (a u : Int) (hu : u = -a) (h0 : a < 0) (h1 : -9223372036854775808 ≤ a) (w : World) (hT : PowT w) :
    Calls Tryd.prog 14 #[.int .i64 a] w fun e w' => e = .returned (.string ⟨(45 :: printF u).toArray⟩) ∧ Below w.heap.size w w' := by
  have ha : In64 a := by unfold In64; omega
  have hab : ab a = u := by rw [ab_neg h0, hu]
  have hu0 : 0 ≤ u ∧ u ≤ 9223372036854775808 := by omega
  have HPT := Aside0.mk hT
  clear hT
  have hS := fun W => size_calls a W ha
  rw [hab] at hS
  have da : decide (a < 0) = true := decide_eq_true h0
  have hF := fun W h => Format_calls (u / 4294967296).toNat (by omega) W h
  have hc : (((u / 4294967296).toNat : Nat) : Int) = u / 4294967296 := by omega
  rw [hc] at hF
  obtain ⟨t, ht⟩ : ∃ t, t = Lib.decDigits (u / 4294967296).toNat := ⟨_, rfl⟩
  rw [← ht] at hF
  have htl : t.length ≤ 10 := by
    rw [ht]
    exact decDigits_le (k := 9) (by omega)
  have HT := Aside0.mk ht
  have hsz : ((⟨t.toArray⟩ : ByteArray) ++ (⟨#[46]⟩ : ByteArray)).size = t.length + 1 := by rw [ByteArray.size_append]; rfl
  have hsz1 : (⟨t.toArray⟩ : ByteArray).size = t.length := rfl
  have hcs : Lib.strCells ((⟨t.toArray⟩ : ByteArray) ++ (⟨#[46]⟩ : ByteArray)) = Lib.byteCells (t ++ [46]) := by rw [strCells_byte, ByteArray.data_append]; simp
  have hss : (⟨t.toArray⟩ : ByteArray).size + 1 ≤ 9223372036854775807 := by rw [hsz1]; omega
  obtain ⟨st, hst⟩ : ∃ st : ByteArray, st = ⟨t.toArray⟩ := ⟨_, rfl⟩
  rw [← hst] at hF hsz hcs hss
  clear ht hc ha hab hst hu
  have ha32 := u64_and32 u hu0.1 (by omega)
  have hr0 : 0 ≤ u % 4294967296 ∧ u % 4294967296 < 4294967296 := by omega
  have HD : Aside0 (Div2 32 (u % 4294967296)) := ⟨by unfold Div2; simp⟩
  have hfr := Lib.IsBuilderF.of (Lib.fresh_isBuilder 51 5 w)
  have hbw := (Below.refl w.heap.size w).alloc (Nat.le_refl _) (.cells #[.pointer none, .slice none 0 0] 51)
  have hbz := hbw.size
  obtain ⟨r, hr⟩ : ∃ r, r = u % 4294967296 := ⟨_, rfl⟩
  rw [← hr] at ha32 hr0 HD
  have HR := Aside0.mk hr
  obtain ⟨q, hq⟩ : ∃ q, q = u / 4294967296 := ⟨_, rfl⟩
  rw [← hq] at hF
  have HQ := Aside0.mk hq
  have hdv : u / 4294967296 = q := hq.symm
  clear hr hq
  obtain ⟨b, hb⟩ : ∃ b, b = w.heap.size := ⟨_, rfl⟩
  go_enter Tryd.func14, Tryd.ntmps14
  go_wp2_with fail
  ((with_reducible refine (WriteByte_calls w.heap.size w.heap.size [] 45 _ hfr (by simp) hbz).mono ?_); rintro e_ W0 ⟨rfl, hB0, hb0⟩)
  have hbw0 := hbw.trans hb0
  go_wp2_with fail
  ((with_reducible refine (hS _).mono ?_); rintro e_ W1 ⟨rfl, rfl⟩)
  go_wp2_with fail
  ((with_reducible refine (hF _ (HPT.out.below hbw0)).mono ?_); rintro e_ W2 ⟨rfl, hbF⟩)
  have hfr2 := IsB.below hB0 hbF
  have hbw2 := below_step hbw0 hbF
  have hbz2 := hbw2.size
  have hW := WriteString_calls w.heap.size w.heap.size ([] ++ [.int .u8 45]) (st ++ (⟨#[46]⟩ : ByteArray)) W2 hfr2 (by rw [hsz]; simp; omega) hbz2
  clear hF hS hfr hfr2
  go_wp2_with fail
  ((with_reducible refine hW.mono ?_); rintro e_ W3 ⟨rfl, hB3, hb3⟩)
  rw [hcs, List.nil_append, show [Value.int .u8 45] ++ Lib.byteCells (t ++ [46]) = Lib.byteCells (45 :: (t ++ [46])) by rfl] at hB3
  have HB3 := Aside0.mk hB3; have Hb3 := Aside0.mk (hbw2.trans hb3)
  clear hB3 hb3 hbw hbw0 hb0 hB0 hbw2 hbF hW hcs hsz
  have HTL : Aside0 ((45 :: (t ++ [46])).length + 32 ≤ 100) := ⟨by simp; omega⟩
  have HE : Aside0 ((45 :: (t ++ [46])) ++ fracD 32 r = 45 :: printF u) := ⟨by unfold printF; rw [HT.out, HR.out]; simp⟩
  go_wp2
  go_loopg [4] 32 (fun kq v4 w' => ∃ (r' : Int) (done : List UInt8), v4 = .int .u64 r' ∧ 1 ≤ kq ∧ kq ≤ 32 ∧ 0 ≤ r' ∧ r' < 4294967296 ∧ Aside0 (Div2 kq r') ∧ Aside0 (IsB w.heap.size w.heap.size (Lib.byteCells done) w') ∧ Aside0 (done ++ fracD kq r' = 45 :: printF u) ∧ Aside0 (done.length + kq ≤ 100) ∧ Aside0 (Below w.heap.size w w'))
  case atStart => exact ⟨r, 45 :: (t ++ [46]), rfl, by omega, by omega, hr0.1, hr0.2, HD, HB3, HE, HTL, Hb3⟩
  case round =>
    obtain ⟨r', done, rfl, hk1, hk2, hr1, hr2, HDV, HBL, HEQ, HLN, HBE⟩ := hrel
    cases gk with
    | zero => omega
    | succ k1 =>
      have hst := div2_step (k := k1) hk2 HDV.out
      have hfd : fracD (k1 + 1) r' = UInt8.ofNat (48 + (r' * 10 / 4294967296).toNat) :: if r' * 10 % 4294967296 = 0 then [] else fracD k1 (r' * 10 % 4294967296) := rfl
      have heq := HEQ.out
      rw [hfd] at heq
      have hand := u64_and32 (r' * 10) (by omega) (by omega)
      have hw1 : IntKind.u64.wrap (r' * 10) = r' * 10 := by rw [wrap_u64]; omega
      have hq0 : 0 ≤ r' * 10 / 4294967296 ∧ r' * 10 / 4294967296 ≤ 9 := by omega
      have hm0 : 0 ≤ r' * 10 % 4294967296 ∧ r' * 10 % 4294967296 < 4294967296 := by omega
      obtain ⟨m10, hm10⟩ : ∃ m, m = r' * 10 % 4294967296 := ⟨_, rfl⟩
      rw [← hm10] at hand hst heq hm0
      obtain ⟨q10, hq10⟩ : ∃ q, q = r' * 10 / 4294967296 := ⟨_, rfl⟩
      rw [← hq10] at heq hq0
      have hq10' : r' * 10 / 4294967296 = q10 := hq10.symm
      have hw2 : IntKind.u64.wrap (48 + q10) = 48 + q10 := by rw [wrap_u64]; omega
      have hw3 : IntKind.u8.wrap (48 + q10) = 48 + q10 := by rw [IntKind.wrap_u8]; omega
      have hWB := WriteByte_calls w.heap.size w.heap.size (Lib.byteCells done) (48 + q10) wr HBL.out (by rw [Lib.byteCells_length]; have := HLN.out; omega) HBE.out.size
      rw [byteCells_snoc done q10 hq0.1 hq0.2] at hWB
      have HST := Aside0.mk hst; have HQ := Aside0.mk heq
      clear hst heq hfd hm10 hq10 HDV HBL HEQ
      go_wp2_with fail
      ((with_reducible refine hWB.mono ?_); rintro e_ W5 ⟨rfl, hB5, hb5⟩)
      have HB5 := Aside0.mk hB5; have Hb5 := Aside0.mk (HBE.out.trans hb5)
      clear hB5 hb5 hWB
      by_cases hz : m10 = 0
      · have dz : (m10 == 0) = true := beq_iff_eq.2 hz
        have hfin := HQ.out
        rw [if_pos hz] at hfin
        have HFIN := Aside0.mk hfin
        have hSt := String_calls w.heap.size w.heap.size (done ++ [UInt8.ofNat (48 + q10.toNat)]) W5 HB5.out (by simp)
        rw [hfin] at hSt
        clear hz hfin
        go_wp2_with fail
        ((with_reducible refine hSt.mono ?_); rintro e_ W6 ⟨rfl, hb6⟩)
        have Hb6 := Aside0.mk (Hb5.out.trans hb6)
        clear hb6 hSt
        go_wp2
        go_ret
        exact ⟨rfl, Hb6.out⟩
      · have dz : (m10 == 0) = false := beq_eq_false_iff_ne.2 hz
        have hfin := HQ.out
        rw [if_neg hz] at hfin
        have hk3 : 1 ≤ k1 := by
          apply Classical.byContradiction
          intro hk
          have e0 : k1 = 0 := by omega
          subst e0
          exact hz (div2_last HST.out hm0.1 hm0.2)
        have HFIN : Aside0 ((done ++ [UInt8.ofNat (48 + q10.toNat)]) ++ fracD k1 m10 = 45 :: printF u) := ⟨by rw [← hfin]; simp⟩
        have HLN2 : Aside0 ((done ++ [UInt8.ofNat (48 + q10.toNat)]).length + k1 ≤ 100) := ⟨by have := HLN.out; simp; omega⟩
        clear hz hfin
        go_wp2
        go_roundg k1
        case measure => omega
        case rel => exact ⟨m10, _, rfl, hk3, by omega, hm0.1, hm0.2, HST, HB5, HFIN, HLN2, Hb5⟩
end Go.Proofs.YtcnibfancjofhaaDoor

/- What Print writes, Parse reads. -/
namespace Go.Proofs.YtcnibfancjofhaaDoor
open Go.RowKit Go.Proofs.YtcnibfancjofhaaDoorW.PrintWords Go.Proofs.YtcnibfancjofhaaDoorW.PrintLast Go.Proofs.YtcnibfancjofhaaDoorW.PrintMore
set_option linter.unusedVariables false
set_option linter.unusedSimpArgs false
def bI (l : List UInt8) : List Int := l.map (fun b => (b.toNat : Int))
theorem bI_append (a b : List UInt8) : bI (a ++ b) = bI a ++ bI b := by simp [bI]
theorem bytesOf_bI (s : ByteArray) : bytesOf s = bI s.data.toList := by simp [bytesOf, bI]
theorem numV_snoc (l : List Int) (n c : Int) : numV n (l ++ [c]) = numV n l * 10 + (c - 48) := by simp [numV, List.foldl_append]
theorem dig_val {u : Nat} (h : u < 10) : ((UInt8.ofNat (48 + u)).toNat : Int) = 48 + u := by
  rw [UInt8.toNat_ofNat_of_lt' (by show 48 + u < 256; omega)]; omega
theorem dec_num (u : Nat) : numV 0 (bI (Lib.decDigits u)) = u ∧ Digs (bI (Lib.decDigits u)) ∧ 1 ≤ (Lib.decDigits u).length := by
  induction u using Nat.strongRecOn with
  | _ u ih =>
    rw [Lib.decDigits]
    split
    · rename_i h
      have e := dig_val h
      refine ⟨?_, ?_, by simp⟩
      · simp only [bI, List.map_cons, List.map_nil, numV, List.foldl_cons, List.foldl_nil, e]; omega
      · intro c hc
        simp only [bI, List.map_cons, List.map_nil, List.mem_singleton] at hc
        rw [hc, e]; omega
    · obtain ⟨i1, i2, i3⟩ := ih (u / 10) (by omega)
      have e := dig_val (u := u % 10) (by omega)
      refine ⟨?_, ?_, by simp⟩
      · rw [bI_append]
        show numV 0 (bI (Lib.decDigits (u / 10)) ++ [((UInt8.ofNat (48 + u % 10)).toNat : Int)]) = u
        rw [numV_snoc, i1, e]; omega
      · intro c hc
        rw [bI_append] at hc
        rcases List.mem_append.1 hc with hc | hc
        · exact i2 c hc
        · simp only [bI, List.map_cons, List.map_nil, List.mem_singleton] at hc
          rw [hc, e]; omega
theorem dec_head (u : Nat) (h : 10 ≤ u) : ∃ x r, Lib.decDigits u = x :: r ∧ x ≠ 48 := by
  induction u using Nat.strongRecOn with
  | _ u ih =>
    rw [Lib.decDigits, dif_neg (by omega)]
    by_cases h2 : u / 10 < 10
    · rw [Lib.decDigits, dif_pos h2]
      refine ⟨_, _, rfl, ?_⟩
      intro e
      have e2 := dig_val h2
      rw [e] at e2
      have : ((48 : UInt8).toNat : Int) = 48 := by decide
      omega
    · obtain ⟨x, r, e, hx⟩ := ih (u / 10) (by omega) (by omega)
      rw [e]
      exact ⟨x, _, rfl, hx⟩
theorem fracD_succ (k : Nat) (r : Int) : fracD (k + 1) r = UInt8.ofNat (48 + (r * 10 / 4294967296).toNat) :: if r * 10 % 4294967296 = 0 then [] else fracD k (r * 10 % 4294967296) := rfl
theorem frac_e3 {n r q m : Int} (e : r * 10 = q * 4294967296 + m) : (n * 10 + q) * 4294967296 + m = (n * 4294967296 + r) * 10 := by omega
theorem frac_one {n r q m : Int} (e : r * 10 = q * 4294967296 + m) (hz : m = 0) : (n * 10 + q) * 4294967296 = (n * 4294967296 + r) * 10 := by
  have h := frac_e3 (n := n) e
  rw [hz, Int.add_zero] at h
  exact h
theorem frac_step {n r q m N p : Int} (e : r * 10 = q * 4294967296 + m) (i1 : N * 4294967296 = ((n * 10 + q) * 4294967296 + m) * p) : N * 4294967296 = (n * 4294967296 + r) * (p * 10) := by
  rw [i1]
  have e3 : (n * 10 + q) * 4294967296 + m = (n * 4294967296 + r) * 10 := by omega
  rw [e3]; grind
theorem frac_num : ∀ (k : Nat) (n r : Int), k ≤ 32 → 1 ≤ k → Div2 k r → 0 ≤ r → r < 4294967296 →
    numV n (bI (fracD k r)) * 4294967296 = (n * 4294967296 + r) * 10 ^ (fracD k r).length ∧ Digs (bI (fracD k r)) ∧ 1 ≤ (fracD k r).length ∧ (fracD k r).length ≤ k
  | 0, _, _, _, h, _, _, _ => absurd h (by omega)
  | k + 1, n, r, hk, _, hd, h0, h1 => by
    have hst := div2_step hk hd
    rw [fracD_succ]
    have em : r * 10 = (r * 10 / 4294967296) * 4294967296 + r * 10 % 4294967296 := by omega
    have hq : 0 ≤ r * 10 / 4294967296 ∧ r * 10 / 4294967296 < 10 := by omega
    have hm : 0 ≤ r * 10 % 4294967296 ∧ r * 10 % 4294967296 < 4294967296 := by omega
    generalize r * 10 / 4294967296 = q at em hq
    generalize r * 10 % 4294967296 = m at em hm hst
    have e := dig_val (u := q.toNat) (by omega)
    have e4 : ((UInt8.ofNat (48 + q.toNat)).toNat : Int) - 48 = q := by omega
    have hdg : ∀ c, c = ((UInt8.ofNat (48 + q.toNat)).toNat : Int) → 48 ≤ c ∧ c ≤ 57 := by intro c hc; omega
    generalize UInt8.ofNat (48 + q.toNat) = x at e e4 hdg
    by_cases hz : m = 0
    · rw [if_pos hz]
      refine ⟨?_, ?_, by simp, by simp⟩
      · have hv : numV n (bI [x]) = n * 10 + q := by
          simp only [bI, numV, List.map_cons, List.map_nil, List.foldl_cons, List.foldl_nil]
          rw [e4]
        have hp : (10 : Int) ^ [x].length = 10 := by rw [List.length_singleton]; decide
        rw [hv, hp]
        exact frac_one em hz
      · intro c hc
        rcases List.mem_cons.1 hc with hc | hc
        · exact hdg c hc
        · cases hc
    · rw [if_neg hz]
      have hk1 : 1 ≤ k := by
        apply Classical.byContradiction
        intro hk0
        have e0 : k = 0 := by omega
        subst e0
        exact hz (div2_last hst (by omega) (by omega))
      obtain ⟨i1, i2, i3, i4⟩ := frac_num k (n * 10 + q) m (by omega) hk1 hst hm.1 hm.2
      refine ⟨?_, ?_, by simp, by simp; omega⟩
      · have hb : bI (x :: fracD k m) = (x.toNat : Int) :: bI (fracD k m) := by simp only [bI, List.map_cons]
        rw [hb, numV_cons, e4, List.length_cons, Int.pow_succ]
        exact frac_step em i1
      · intro c hc
        rcases List.mem_cons.1 hc with hc | hc
        · exact hdg c hc
        · exact i2 c hc
theorem div2_all (r : Int) : Div2 32 r := by unfold Div2; simp
theorem no_point {l : List UInt8} (h : Digs (bI l)) : (46 : UInt8) ∉ l := by
  intro hm
  have := h 46 (List.mem_map.2 ⟨46, hm, by decide⟩)
  omega
theorem index_point {l f : List UInt8} (h : (46 : UInt8) ∉ l) : Lib.indexByte (l ++ [46] ++ f) 46 = (l.length : Int) := by
  rcases indexByte_at 46 (l ++ [46] ++ f) with ⟨_, hn⟩ | ⟨k, e, hk, hc, hn⟩
  · exact absurd (by simp) hn
  · rw [e]
    have h1 : ¬ k < l.length := by
      intro hlt
      rw [List.append_assoc, List.getElem?_append_left hlt] at hc
      exact h (List.mem_of_getElem? hc)
    have h2 : ¬ l.length < k := by
      intro hlt
      apply hn
      have : (46 : UInt8) ∈ (l ++ [46]).take k := by rw [List.take_of_length_le (by simp; omega)]; simp
      rw [List.take_append]
      exact List.mem_append.2 (.inl this)
    omega
theorem ba_take (l f : List UInt8) : (⟨l.toArray⟩ : ByteArray) = (⟨(l ++ [46] ++ f).toArray⟩ : ByteArray).extract 0 l.length := by
  apply ByteArray.ext
  rw [ByteArray.data_extract]
  apply Array.toList_inj.1
  simp
theorem ba_drop (l f : List UInt8) : (⟨f.toArray⟩ : ByteArray) = (⟨(l ++ [46] ++ f).toArray⟩ : ByteArray).extract (l.length + 1) (⟨(l ++ [46] ++ f).toArray⟩ : ByteArray).size := by
  apply ByteArray.ext
  rw [ByteArray.data_extract]
  apply Array.toList_inj.1
  have e : (⟨(l ++ [46] ++ f).toArray⟩ : ByteArray).size = l.length + 1 + f.length := by show (l ++ [46] ++ f).toArray.size = _; simp; omega
  rw [e]
  simp
theorem Bt_head (x : UInt8) (r : List UInt8) : Bt (⟨(x :: r).toArray⟩ : ByteArray) 0 = (x.toNat : Int) := by
  have h : 0 < (⟨(x :: r).toArray⟩ : ByteArray).size := by show 0 < (x :: r).toArray.size; simp
  have := Go.Proofs.YtcnibfancjofhaaDoorW.PrintWords.bt_at (⟨(x :: r).toArray⟩ : ByteArray) 0 h
  exact this.symm
/-- What Print writes, part by part. -/
theorem print_parts (a : Int) (h0 : 0 ≤ a) (h1 : a ≤ 9223372036854775808) : ∃ l f : List UInt8, printF a = l ++ [46] ++ f ∧ numV 0 (bI l) = a / 4294967296 ∧ Digs (bI l) ∧ 1 ≤ l.length ∧ l.length ≤ 10 ∧ (∀ x r, l = x :: r → r ≠ [] → x ≠ 48) ∧
    numV 0 (bI f) * 4294967296 = (a % 4294967296) * 10 ^ f.length ∧ Digs (bI f) ∧ 1 ≤ f.length ∧ f.length ≤ 32 := by
  obtain ⟨d1, d2, d3⟩ := dec_num (a / 4294967296).toNat
  obtain ⟨f1, f2, f3, f4⟩ := frac_num 32 0 (a % 4294967296) (by omega) (by omega) (div2_all _) (by omega) (by omega)
  refine ⟨_, _, rfl, ?_, d2, d3, decDigits_le (u := (a / 4294967296).toNat) (k := 9) (by omega), ?_, ?_, f2, f3, f4⟩
  · rw [d1]; omega
  · intro x r e hr hx
    by_cases h10 : 10 ≤ (a / 4294967296).toNat
    · obtain ⟨y, t, e2, hy⟩ := dec_head _ h10
      rw [e2] at e
      injection e with e3 e4
      exact hy (e3.trans hx)
    · rw [Lib.decDigits, dif_pos (by omega)] at e
      injection e with e3 e4
      exact hr e4.symm
  · rw [f1, Int.zero_mul, Int.zero_add]
theorem lead_no {l : List UInt8} (h : ∀ x r, l = x :: r → r ≠ [] → x ≠ 48) (hn : 1 ≤ l.length) : ¬ (Bt (⟨l.toArray⟩ : ByteArray) 0 = 48 ∧ 1 < (⟨l.toArray⟩ : ByteArray).size) := by
  cases l with
  | nil => simp at hn
  | cons x r =>
    rintro ⟨e1, e2⟩
    rw [Bt_head] at e1
    have e3 : (⟨(x :: r).toArray⟩ : ByteArray).size = r.length + 1 := by show (x :: r).toArray.size = _; simp
    refine h x r rfl (fun e => ?_) ?_
    · have e5 : r.length = 0 := by rw [e]; rfl
      omega
    · apply UInt8.toNat_inj.1
      have h48 : ((48 : UInt8).toNat : Int) = 48 := by decide
      omega
theorem sum_size (l f : List UInt8) : (⟨(l ++ [46] ++ f).toArray⟩ : ByteArray).size = l.length + 1 + f.length := by show (l ++ [46] ++ f).toArray.size = _; simp; omega
theorem point_at {L f : List UInt8} (h : (46 : UInt8) ∉ L) : Lib.indexByte (⟨(L ++ [46] ++ f).toArray⟩ : ByteArray).data.toList 46 = (L.length : Int) := by
  show Lib.indexByte (L ++ [46] ++ f).toArray.toList 46 = _
  rw [List.toList_toArray]
  exact index_point h
theorem frac_back {N r : Int} {k : Nat} (h : N * 4294967296 = r * 10 ^ k) : N * 4294967296 / 10 ^ k = r := by
  have hp : (0 : Int) < 10 ^ k := Int.pow_pos (by decide)
  rw [h, Int.mul_ediv_cancel _ (by omega)]
set_option maxHeartbeats 2000000 in
set_option maxRecDepth 100000 in
/-- Every number from 0 on is read again. -/
theorem Parse_print (a : Int) (h0 : 0 ≤ a) (h1 : a ≤ 9223372036854775807) (w : World) :
    Calls Tryd.prog 12 #[.string ⟨(printF a).toArray⟩] w fun e w' => e = .returned (.tuple #[.int .i64 a, .int .i64 0]) ∧ Below w.heap.size w w' := by
  obtain ⟨l, f, e, d1, d2, d3, hl, hlead, f1, f2, f3, f4⟩ := print_parts a h0 (by omega)
  rw [e]
  have hix := point_at (f := f) (no_point d2)
  have e1 : bytesOf (⟨l.toArray⟩ : ByteArray) = bI l := bytesOf_bI _
  have e2 : bytesOf (⟨f.toArray⟩ : ByteArray) = bI f := bytesOf_bI _
  have s1 : (⟨l.toArray⟩ : ByteArray).size = l.length := rfl
  have s2 : (⟨f.toArray⟩ : ByteArray).size = f.length := rfl
  have hs := sum_size l f
  have hd : Digs (bytesOf ((⟨l.toArray⟩ : ByteArray) ++ (⟨f.toArray⟩ : ByteArray))) := by rw [digs_append, e1, e2]; exact ⟨d2, f2⟩
  have hP := Parse_good ⟨(l ++ [46] ++ f).toArray⟩ l.length w (by omega) hix ⟨l.toArray⟩ ⟨f.toArray⟩ (ba_take l f) (ba_drop l f) (by omega) (by omega) (by omega) (by omega) (lead_no hlead d3) hd (by rw [e1, d1]; omega)
  have hfr : fracF (⟨f.toArray⟩ : ByteArray) = a % 4294967296 := by
    unfold fracF
    rw [e2, s2]
    exact frac_back f1
  rw [hfr, e1, d1] at hP
  have ha : a / 4294967296 * 4294967296 + a % 4294967296 = a := by omega
  rw [ha] at hP
  exact hP
set_option maxHeartbeats 2000000 in
set_option maxRecDepth 100000 in
theorem Parse_signed (L f : List UInt8) (hnp : (46 : UInt8) ∉ L) (hb0 : Bt (⟨L.toArray⟩ : ByteArray) 0 = 45) (hm : (45 : UInt8) ∈ L) (hl1 : 1 ≤ L.length) (hl2 : L.length ≤ 1000) (f3 : 1 ≤ f.length) (f4 : f.length ≤ 32) (w : World) :
    Calls Tryd.prog 12 #[.string ⟨(L ++ [46] ++ f).toArray⟩] w (ParseBad w) := by
  have hix := point_at (f := f) hnp
  have s1 : (⟨L.toArray⟩ : ByteArray).size = L.length := rfl
  have s2 : (⟨f.toArray⟩ : ByteArray).size = f.length := rfl
  have hs := sum_size L f
  have e1 : bytesOf (⟨L.toArray⟩ : ByteArray) = bI L := bytesOf_bI _
  have ta := ba_take L f
  have tb := ba_drop L f
  generalize (⟨(L ++ [46] ++ f).toArray⟩ : ByteArray) = S at hix hs ta tb ⊢
  generalize (⟨L.toArray⟩ : ByteArray) = A at s1 ta e1 hb0
  generalize (⟨f.toArray⟩ : ByteArray) = B at s2 tb
  have hnd : ¬ Digs (bytesOf (A ++ B)) := by
    intro hd
    have h45 := ((digs_append _ _).1 hd).1 45 (by rw [e1]; exact List.mem_map.2 ⟨45, hm, by decide⟩)
    exact absurd h45.1 (by decide)
  have hl : ¬ (Bt A 0 = 48 ∧ 1 < A.size) := fun h => absurd (hb0.symm.trans h.1) (by decide)
  generalize L.length = m at *
  clear hb0 hnp hm e1
  by_cases h10 : m ≤ 10
  · exact Parse_bad2 S m w (by omega) hix A B ta tb (by omega) (by omega) (by omega) (by omega) hl hnd
  · exact Parse_bad1 S m w (by omega) hix A B ta tb (by omega)
/-- No number below 0 is. -/
theorem Parse_minus (u : Int) (h0 : 0 < u) (h1 : u ≤ 9223372036854775808) (w : World) :
    Calls Tryd.prog 12 #[.string ⟨(45 :: printF u).toArray⟩] w (ParseBad w) := by
  obtain ⟨l, f, e, d1, d2, d3, hl, hlead, f1, f2, f3, f4⟩ := print_parts u (by omega) h1
  rw [e]
  have hnp : (46 : UInt8) ∉ (45 :: l) := by
    intro hm
    rcases List.mem_cons.1 hm with e | hm
    · exact absurd e (by decide)
    · exact no_point d2 hm
  have hb0 : Bt (⟨(45 :: l).toArray⟩ : ByteArray) 0 = 45 := by rw [Bt_head]; decide
  have := Parse_signed (45 :: l) f hnp hb0 List.mem_cons_self (by simp) (by simp; omega) f3 f4 w
  rw [List.cons_append, List.cons_append] at this
  exact this
/-- Any text is read as a number from 0 on, or is wrong. -/
theorem Parse_any (s : ByteArray) (w : World) (hs : s.size ≤ 140737488355328) (hW : FixW w) :
    Calls Tryd.prog 12 #[.string s] w fun e w' => (∃ y : Int, 0 ≤ y ∧ y ≤ 9223372036854775807 ∧ e = .returned (.tuple #[.int .i64 y, .int .i64 0]) ∧ Below w.heap.size w w') ∨ ParseBad w e w' := by
  rcases indexByte_at 46 s.data.toList with ⟨_, hn⟩ | ⟨k, e, hk, hc, hn⟩
  · exact (Parse_none s w hn).mono fun e w' h => .inr h
  · obtain ⟨a, ha⟩ : ∃ a, a = s.extract 0 k := ⟨_, rfl⟩
    obtain ⟨b, hb⟩ : ∃ b, b = s.extract (k + 1) s.size := ⟨_, rfl⟩
    by_cases g : 1 ≤ a.size ∧ a.size ≤ 10 ∧ 1 ≤ b.size ∧ b.size ≤ 32 ∧ ¬ (Bt a 0 = 48 ∧ 1 < a.size)
    · obtain ⟨g1, g2, g3, g4, g5⟩ := g
      by_cases hd : Digs (bytesOf (a ++ b))
      · by_cases hv : numV 0 (bytesOf a) ≤ 2147483647
        · refine (Parse_good s k w hs e a b ha hb g1 g2 g3 g4 g5 hd hv).mono fun e w' h => .inl ⟨_, ?_, ?_, h.1, h.2⟩
          · have h1 := numV_le10 ((digs_append a b).1 hd).1
            have h2 : 0 ≤ fracF b := Int.ediv_nonneg (Int.mul_nonneg (numV_le10 ((digs_append a b).1 hd).2) (by decide)) (Int.le_of_lt (Int.pow_pos (by decide)))
            omega
          · have h1 := (PS.start ((digs_append a b).1 hd).2 0)
            have hlt : numV 0 (bytesOf b) < 10 ^ b.size := by
              have := valD_lt (PS.row h1).2
              rw [(PS.row h1).1] at this
              rw [valD_numV]; omega
            have h2 : fracF b < 4294967296 := by
              unfold fracF
              apply Int.ediv_lt_of_lt_mul (Int.pow_pos (by decide))
              rw [Int.mul_comm 4294967296]
              exact Int.mul_lt_mul_of_pos_right hlt (by decide)
            omega
        · exact (Parse_bad3 s k w hs e a b ha hb g1 g2 g3 g4 g5 hW hd (by omega)).mono fun e w' h => .inr h
      · exact (Parse_bad2 s k w hs e a b ha hb g1 g2 g3 g4 g5 hd).mono fun e w' h => .inr h
    · exact (Parse_bad1 s k w hs e a b ha hb g).mono fun e w' h => .inr h
end Go.Proofs.YtcnibfancjofhaaDoor

/- The law FixPrints, walked. -/
namespace Go.Proofs.YtcnibfancjofhaaDoor
open Go.RowKit Go.Proofs.YtcnibfancjofhaaDoorW.PrintWords Go.Proofs.YtcnibfancjofhaaDoorW.PrintLast Go.Proofs.YtcnibfancjofhaaDoorW.PrintMore
set_option linter.unusedVariables false
set_option linter.unusedSimpArgs false
set_option maxHeartbeats 8000000 in
set_option maxRecDepth 100000 in
theorem FixPrints_calls (a : Int) (s : ByteArray) (w : World) (hW : FixW w) (ha : -9223372036854775808 ≤ a ∧ a ≤ 9223372036854775807) (hs : s.size ≤ 140737488355328) : Calls Tryd.prog 5 #[.int .i64 a, .string s] w fun e w' => e = .returned (.bool true) ∧ Below w.heap.size w w' := by
  have HW := Aside0.mk hW
  clear hW
  by_cases h0 : 0 ≤ a
  · have d0 : decide (0 ≤ a) = true := decide_eq_true h0
    have hPr := fun W h => Print_pos a h0 ha.2 W h
    have hPa := fun W => Parse_print a h0 ha.2 W
    generalize (⟨(printF a).toArray⟩ : ByteArray) = t at hPr hPa
    go_enter Tryd.func5, Tryd.ntmps5
    go_wp2_with fail
    ((with_reducible refine (awake_calls _).mono ?_); rintro e_ W1 ⟨rfl, hb⟩)
    have HB1 := Aside0.mk hb
    clear hb
    go_wp2_with fail
    ((with_reducible refine (hPr W1 (HW.out.below HB1.out).pow).mono ?_); rintro e_ W2 ⟨rfl, hb⟩)
    have HB2 := Aside0.mk (below_step HB1.out hb)
    clear hb
    go_wp2_with fail
    ((with_reducible refine (hPa W2).mono ?_); rintro e_ W3 ⟨rfl, hb⟩)
    have HB3 := Aside0.mk (below_step HB2.out hb)
    clear hb hPr hPa
    have hAny := Parse_any s W3 hs (HW.out.below HB3.out)
    go_wp2_with fail
    ((with_reducible refine hAny.mono ?_); rintro e_ W4 (⟨y, hy0, hy1, rfl, hb⟩ | ⟨rfl, hb⟩))
    · have HB4 := Aside0.mk (below_step HB3.out hb)
      clear hb hAny
      have dy : decide (0 ≤ y) = true := decide_eq_true hy0
      have hPr2 := fun W h => Print_pos y hy0 hy1 W h
      have hPa2 := fun W => Parse_print y hy0 hy1 W
      generalize (⟨(printF y).toArray⟩ : ByteArray) = t2 at hPr2 hPa2
      go_wp2_with fail
      ((with_reducible refine (hPr2 W4 (HW.out.below HB4.out).pow).mono ?_); rintro e_ W5 ⟨rfl, hb⟩)
      have HB5 := Aside0.mk (below_step HB4.out hb)
      clear hb
      go_wp2_with fail
      ((with_reducible refine (hPa2 W5).mono ?_); rintro e_ W6 ⟨rfl, hb⟩)
      have HB6 := Aside0.mk (below_step HB5.out hb)
      clear hb hPr2 hPa2
      go_wp2
      go_ret
      exact ⟨rfl, HB6.out⟩
    · have HB4 := Aside0.mk (below_step HB3.out hb)
      clear hb hAny
      go_wp2
      go_ret
      exact ⟨rfl, HB4.out⟩
  · have d0 : decide (0 ≤ a) = false := decide_eq_false h0
    obtain ⟨u, hu⟩ : ∃ u, u = -a := ⟨_, rfl⟩
    have hPr := fun W h => Print_neg a u hu (by omega) ha.1 W h
    have hPa := fun W => Parse_minus u (by omega) (by omega) W
    unfold ParseBad at hPa
    generalize (⟨(45 :: printF u).toArray⟩ : ByteArray) = t at hPr hPa
    clear hu
    go_enter Tryd.func5, Tryd.ntmps5
    go_wp2_with fail
    ((with_reducible refine (awake_calls _).mono ?_); rintro e_ W1 ⟨rfl, hb⟩)
    have HB1 := Aside0.mk hb
    clear hb
    go_wp2_with fail
    ((with_reducible refine (hPr W1 (HW.out.below HB1.out).pow).mono ?_); rintro e_ W2 ⟨rfl, hb⟩)
    have HB2 := Aside0.mk (below_step HB1.out hb)
    clear hb
    go_wp2_with fail
    ((with_reducible refine (hPa W2).mono ?_); rintro e_ W3 ⟨rfl, hb⟩)
    have HB3 := Aside0.mk (below_step HB2.out hb)
    clear hb hPr hPa
    have hAny := Parse_any s W3 hs (HW.out.below HB3.out)
    go_wp2_with fail
    ((with_reducible refine hAny.mono ?_); rintro e_ W4 (⟨y, hy0, hy1, rfl, hb⟩ | ⟨rfl, hb⟩))
    · have HB4 := Aside0.mk (below_step HB3.out hb)
      clear hb hAny
      have dy : decide (0 ≤ y) = true := decide_eq_true hy0
      have hPr2 := fun W h => Print_pos y hy0 hy1 W h
      have hPa2 := fun W => Parse_print y hy0 hy1 W
      generalize (⟨(printF y).toArray⟩ : ByteArray) = t2 at hPr2 hPa2
      go_wp2_with fail
      ((with_reducible refine (hPr2 W4 (HW.out.below HB4.out).pow).mono ?_); rintro e_ W5 ⟨rfl, hb⟩)
      have HB5 := Aside0.mk (below_step HB4.out hb)
      clear hb
      go_wp2_with fail
      ((with_reducible refine (hPa2 W5).mono ?_); rintro e_ W6 ⟨rfl, hb⟩)
      have HB6 := Aside0.mk (below_step HB5.out hb)
      clear hb hPr2 hPa2
      go_wp2
      go_ret
      exact ⟨rfl, HB6.out⟩
    · have HB4 := Aside0.mk (below_step HB3.out hb)
      clear hb hAny
      go_wp2
      go_ret
      exact ⟨rfl, HB4.out⟩
end Go.Proofs.YtcnibfancjofhaaDoor
