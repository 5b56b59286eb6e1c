/- FormatUint of any number (the table of powers of ten wanted), Print of any number. -/
import Derived.Test.YtcnibfancjofhaaDoorFixM
import Derived.Lib.ItoaMem
namespace Go.Proofs.YtcnibfancjofhaaDoor
open Go.RowKit Go.Sort Go.Proofs.YtcnibfancjofhaaDoorW.PrintWords Go.Proofs.YtcnibfancjofhaaDoorW.PrintLast Go.Proofs.YtcnibfancjofhaaDoorW.PrintMore
set_option linter.unusedVariables false
set_option linter.unusedSimpArgs false
abbrev PowT (w : World) : Prop := Lib.TabIs Tryd.prog w "internal/strconv.uint64pow10" .u64 Lib.pow10Tab
theorem PowT.below {w w' : World} (hp : PowT w) (hb : Below w.heap.size w w') : PowT w' := by
  unfold PowT Lib.TabIs World.var? at *
  cases hg : Tryd.prog.globalNamed "internal/strconv.uint64pow10" with
  | none => rw [hg] at hp; simp at hp
  | some g =>
    rw [hg] at hp
    simp only [Option.bind_some] at hp ⊢
    have hlt : g < w.heap.size := by
      cases hh : w.heap[g]? with
      | none => rw [hh] at hp; cases hp
      | some o => exact (Array.getElem?_eq_some_iff.1 hh).1
    rw [hb.block g hlt]
    exact hp
theorem holds_zero0 (w : World) (T : TypeId) (nd : Nat) (hs : nd ≤ 24) : Holds (fun (b : UInt8) => Value.int .u8 (b.toNat : Int)) (w.alloc (.cells Lib.zeros24 T)) w.heap.size 0 (Array.replicate nd (0 : UInt8)) := fun j hj => by
  have hj' : j < nd := by simpa using hj
  refine ⟨?_, World.frozen?_alloc_new _ _ _ _⟩
  rw [World.cell?_alloc_new, Lib.zeros24_at _ (by omega), getElem!_pos _ j hj]
  simp
theorem below_put0 (w : World) (o : Obj) (dk : Array UInt8) : Below w.heap.size w (putRow (fun (b : UInt8) => Value.int .u8 (b.toNat : Int)) (w.alloc o) w.heap.size 0 dk) := by
  rw [alloc_eq_grow]
  obtain ⟨os', _, e⟩ := putRow_grow_new (fun (b : UInt8) => Value.int .u8 (b.toNat : Int)) w #[o] w.heap.size 0 dk (Nat.le_refl _)
  rw [e]
  exact ⟨rfl, rfl, rfl, by simp [grow], fun k hk => heap_grow_old w os' hk⟩
theorem IsB.below {B b : Nat} {bs : List Value} {w w' : World} (h : IsB B b bs w) (hb : Below w.heap.size w w') : IsB B b bs w' := by
  have key : ∀ p, Lib.BuilderAtF 51 5 B b p bs w → Lib.BuilderAtF 51 5 B b p bs w' := by
    rintro p ⟨hB, v, hbk, ⟨hl, hr⟩, hne⟩
    refine ⟨hB, v, (hb.block b (Array.getElem?_eq_some_iff.1 hbk).1).trans hbk, ⟨hl, ?_⟩, hne⟩
    rcases hr with hr | ⟨g, cap, cur, fz, h1, h2, h3, h4⟩
    · exact .inl hr
    · exact .inr ⟨g, cap, cur, fz, h1, h2, (hb.block g (Array.getElem?_eq_some_iff.1 h3).1).trans h3, h4⟩
  exact h.elim (fun x => .inl (key _ x)) (fun x => .inr (key _ x))
set_option maxHeartbeats 6400000 in
set_option maxRecDepth 100000 in
theorem iFormat_big (u : Nat) (hu1 : 100 ≤ u) (hu64 : u < 18446744073709551616) (w : World) (htab : PowT w) :
    Calls Tryd.prog 62 #[.int .u64 u, .int .i64 10] w fun e w' => e = .returned (.string ⟨(Lib.decDigits u).toArray⟩) ∧ Below w.heap.size w w' := by
  have hnd20 : Lib.nDigits u ≤ 20 := by have := Lib.numDigits_eq u (by omega) hu64; split at this <;> omega
  have hal : Tryd.prog.arrayLen 95 = 24 := by simp [Program.arrayLen, Tryd.underlying95]
  have hsl : ∀ W, (Instr.sliceAt 95 (.pointer (some ⟨w.heap.size, 0, none⟩)) none (some (.int .i64 (Lib.nDigits u : Int))) none).run Tryd.prog W = .ok (.slice (some ⟨w.heap.size, 0, none⟩) (Lib.nDigits u) 24) W := fun W => by
    rw [run_sliceAt_array_h W 95 ⟨w.heap.size, 0, none⟩ (by simp [Program.arrayLen, Program.elem, Tryd.underlying95]) .i64 (Lib.nDigits u : Int) (by omega) (by rw [hal]; omega)]
    go_simp
    try omega
  have d1 : decide ((u : Int) < 100) = false := decide_eq_false (by omega)
  have d1n : decide (u < 100) = false := decide_eq_false (by omega)
  have hH0 := holds_zero0 w 95 (Lib.nDigits u) (by omega)
  have hfmt := Tryd.internal_strconv_formatBase10 w.heap.size 0 24 u (Array.replicate (Lib.nDigits u) 0) (w.alloc (.cells Lib.zeros24 95)) hH0 (by rw [Array.size_replicate]; exact Lib.lt_pow_nDigits u) hu64 (by rw [Array.size_replicate]; omega)
  rw [Array.size_replicate] at hfmt
  have hnum := Tryd.internal_strconv_numDigits u (by omega) hu64 (w.alloc (.cells Lib.zeros24 95)) (Lib.tabIs_alloc htab _)
  have HH0 := Lib.hid hH0
  clear hH0 hal htab
  go_enter Tryd.func62, Tryd.ntmps62
  go_wp2_with fail
  (refine hnum.mono ?_; rintro e_ W1 ⟨rfl, rfl⟩)
  go_wp2_with fail
  (refine hfmt.mono ?_; rintro e_ W2 ⟨rfl, k, v', dk, rfl, hF⟩)
  have hcv : (convert 39 9 (.slice (some ⟨w.heap.size, 0, none⟩) (Lib.nDigits u) 24)).run Tryd.prog ((putRow (fun (b : UInt8) => Value.int .u8 (b.toNat : Int)) (w.alloc (.cells Lib.zeros24 95)) w.heap.size 0 dk).drewN k) = .ok (.string ⟨(Lib.decDigits u).toArray⟩) ((putRow (fun (b : UInt8) => Value.int .u8 (b.toNat : Int)) (w.alloc (.cells Lib.zeros24 95)) w.heap.size 0 dk).drewN k) := by
    have h := run_convert_bytes_back (P := Tryd.prog) ((putRow (fun (b : UInt8) => Value.int .u8 (b.toNat : Int)) (w.alloc (.cells Lib.zeros24 95)) w.heap.size 0 dk).drewN k) 39 9 5 ⟨w.heap.size, 0, none⟩ 24 (Lib.decDigits u) Tryd.underlying39 Tryd.underlying5 Tryd.underlying9 (fun j hj => by
      rw [Lib.row_is_numeral hF j hj, Lib.add_plain, World.cell?_drewN]
      exact cell?_putRow (fun (b : UInt8) => Value.int .u8 (b.toNat : Int)) _ w.heap.size 0 _ dk HH0.out (by rw [hF.size, Array.size_replicate]) j (by rw [hF.size]; rw [Lib.decDigits_length] at hj; exact hj))
    rw [Lib.decDigits_length] at h
    exact h
  go_wp2
  go_ret
  exact ⟨rfl, pw_below_drewN (below_put0 w _ dk) k⟩
theorem Format_calls (u : Nat) (hu64 : u < 18446744073709551616) (w : World) (htab : PowT w) :
    Calls Tryd.prog 38 #[.int .u64 u, .int .i64 10] w fun e w' => e = .returned (.string ⟨(Lib.decDigits u).toArray⟩) ∧ Below w.heap.size w w' := by
  by_cases h : u < 100
  · refine (Format_small u h w).mono ?_
    rintro e w' ⟨rfl, rfl⟩
    exact ⟨rfl, Below.refl _ _⟩
  · have hS := iFormat_big u (by omega) hu64 w htab
    clear h htab
    go_enter Tryd.func38, Tryd.ntmps38
    go_wp2_with fail
    ((with_reducible refine hS.mono ?_); rintro e_ W1 ⟨rfl, hb⟩)
    have HB := Aside0.mk hb
    clear hS hb
    go_wp2
    go_ret
    exact ⟨rfl, HB.out⟩
theorem decDigits_le {u k : Nat} (hk : u < 10 ^ (k + 1)) : (Lib.decDigits u).length ≤ k + 1 := by
  induction k generalizing u with
  | zero => rw [Lib.decDigits, dif_pos (by simpa using hk)]; simp
  | succ k ih =>
    rw [Lib.decDigits]
    split
    · simp
    · rw [List.length_append]
      have := ih (u := u / 10) (by rw [Nat.pow_succ] at hk; omega)
      simp; omega
set_option maxHeartbeats 8000000 in
set_option maxRecDepth 100000 in
theorem Print_pos (a : Int) (h0 : 0 ≤ a) (h1 : a ≤ 9223372036854775807) (w : World) (hT : PowT w) :
    Calls Tryd.prog 14 #[.int .i64 a] w fun e w' => e = .returned (.string ⟨(printF a).toArray⟩) ∧ Below w.heap.size w w' := by
  have ha : In64 a := by unfold In64; omega
  have hab : ab a = a := by rw [ab_pos h0]
  have HPT := Aside0.mk hT
  clear hT
  have hS := fun W => size_calls a W ha
  rw [hab] at hS
  have da : decide (a < 0) = false := decide_eq_false (by omega)
  have hF := fun W h => Format_calls (a / 4294967296).toNat (by omega) W h
  have hc : (((a / 4294967296).toNat : Nat) : Int) = a / 4294967296 := by omega
  rw [hc] at hF
  obtain ⟨t, ht⟩ : ∃ t, t = Lib.decDigits (a / 4294967296).toNat := ⟨_, rfl⟩
  rw [← ht] at hF
  have htl : t.length ≤ 10 := by
    rw [ht]
    exact decDigits_le (k := 9) (by omega)
  have HT := Aside0.mk ht
  have hsz : ((⟨t.toArray⟩ : ByteArray) ++ (⟨#[46]⟩ : ByteArray)).size = t.length + 1 := by rw [ByteArray.size_append]; rfl
  have hsz1 : (⟨t.toArray⟩ : ByteArray).size = t.length := rfl
  have hcs : Lib.strCells ((⟨t.toArray⟩ : ByteArray) ++ (⟨#[46]⟩ : ByteArray)) = Lib.byteCells (t ++ [46]) := by rw [strCells_byte, ByteArray.data_append]; simp
  have hss : (⟨t.toArray⟩ : ByteArray).size + 1 ≤ 9223372036854775807 := by rw [hsz1]; omega
  obtain ⟨st, hst⟩ : ∃ st : ByteArray, st = ⟨t.toArray⟩ := ⟨_, rfl⟩
  rw [← hst] at hF hsz hcs hss
  clear ht hc ha hab hst
  have ha32 := u64_and32 a h0 (by omega)
  have hr0 : 0 ≤ a % 4294967296 ∧ a % 4294967296 < 4294967296 := by omega
  have HD : Aside0 (Div2 32 (a % 4294967296)) := ⟨by unfold Div2; simp⟩
  have hfr := Lib.IsBuilderF.of (Lib.fresh_isBuilder 51 5 w)
  have hbw := (Below.refl w.heap.size w).alloc (Nat.le_refl _) (.cells #[.pointer none, .slice none 0 0] 51)
  have hbz := hbw.size
  obtain ⟨r, hr⟩ : ∃ r, r = a % 4294967296 := ⟨_, rfl⟩
  rw [← hr] at ha32 hr0 HD
  have HR := Aside0.mk hr
  obtain ⟨q, hq⟩ : ∃ q, q = a / 4294967296 := ⟨_, rfl⟩
  rw [← hq] at hF
  have HQ := Aside0.mk hq
  have hdv : a / 4294967296 = q := hq.symm
  clear hr hq
  obtain ⟨b, hb⟩ : ∃ b, b = w.heap.size := ⟨_, rfl⟩
  go_enter Tryd.func14, Tryd.ntmps14
  go_wp2_with fail
  ((with_reducible refine (hS _).mono ?_); rintro e_ W1 ⟨rfl, rfl⟩)
  go_wp2_with fail
  ((with_reducible refine (hF _ (HPT.out.below hbw)).mono ?_); rintro e_ W2 ⟨rfl, hbF⟩)
  have hfr2 := IsB.below hfr hbF
  have hbw2 := below_step hbw hbF
  have hbz2 := hbw2.size
  have hW := WriteString_calls w.heap.size w.heap.size [] (st ++ (⟨#[46]⟩ : ByteArray)) W2 hfr2 (by rw [hsz]; simp; omega) hbz2
  clear hF hS hfr hfr2
  go_wp2_with fail
  ((with_reducible refine hW.mono ?_); rintro e_ W3 ⟨rfl, hB3, hb3⟩)
  rw [hcs, List.nil_append] at hB3
  have HB3 := Aside0.mk hB3; have Hb3 := Aside0.mk (hbw2.trans hb3)
  clear hB3 hb3 hbw hbw2 hbF hW hcs hsz
  have HTL : Aside0 ((t ++ [46]).length + 32 ≤ 100) := ⟨by simp; omega⟩
  have HE : Aside0 ((t ++ [46]) ++ fracD 32 r = printF a) := ⟨by unfold printF; rw [HT.out, HR.out]⟩
  go_wp2
  go_loopg [4] 32 (fun kq v4 w' => ∃ (r' : Int) (done : List UInt8), v4 = .int .u64 r' ∧ 1 ≤ kq ∧ kq ≤ 32 ∧ 0 ≤ r' ∧ r' < 4294967296 ∧ Aside0 (Div2 kq r') ∧ Aside0 (IsB w.heap.size w.heap.size (Lib.byteCells done) w') ∧ Aside0 (done ++ fracD kq r' = printF a) ∧ Aside0 (done.length + kq ≤ 100) ∧ Aside0 (Below w.heap.size w w'))
  case atStart => exact ⟨r, t ++ [46], rfl, by omega, by omega, hr0.1, hr0.2, HD, HB3, HE, HTL, Hb3⟩
  case round =>
    obtain ⟨r', done, rfl, hk1, hk2, hr1, hr2, HDV, HBL, HEQ, HLN, HBE⟩ := hrel
    cases gk with
    | zero => omega
    | succ k1 =>
      have hst := div2_step (k := k1) hk2 HDV.out
      have hfd : fracD (k1 + 1) r' = UInt8.ofNat (48 + (r' * 10 / 4294967296).toNat) :: if r' * 10 % 4294967296 = 0 then [] else fracD k1 (r' * 10 % 4294967296) := rfl
      have heq := HEQ.out
      rw [hfd] at heq
      have hand := u64_and32 (r' * 10) (by omega) (by omega)
      have hw1 : IntKind.u64.wrap (r' * 10) = r' * 10 := by rw [wrap_u64]; omega
      have hq0 : 0 ≤ r' * 10 / 4294967296 ∧ r' * 10 / 4294967296 ≤ 9 := by omega
      have hm0 : 0 ≤ r' * 10 % 4294967296 ∧ r' * 10 % 4294967296 < 4294967296 := by omega
      obtain ⟨m10, hm10⟩ : ∃ m, m = r' * 10 % 4294967296 := ⟨_, rfl⟩
      rw [← hm10] at hand hst heq hm0
      obtain ⟨q10, hq10⟩ : ∃ q, q = r' * 10 / 4294967296 := ⟨_, rfl⟩
      rw [← hq10] at heq hq0
      have hq10' : r' * 10 / 4294967296 = q10 := hq10.symm
      have hw2 : IntKind.u64.wrap (48 + q10) = 48 + q10 := by rw [wrap_u64]; omega
      have hw3 : IntKind.u8.wrap (48 + q10) = 48 + q10 := by rw [IntKind.wrap_u8]; omega
      have hWB := WriteByte_calls w.heap.size w.heap.size (Lib.byteCells done) (48 + q10) wr HBL.out (by rw [Lib.byteCells_length]; have := HLN.out; omega) HBE.out.size
      rw [byteCells_snoc done q10 hq0.1 hq0.2] at hWB
      have HST := Aside0.mk hst; have HQ := Aside0.mk heq
      clear hst heq hfd hm10 hq10 HDV HBL HEQ
      go_wp2_with fail
      ((with_reducible refine hWB.mono ?_); rintro e_ W5 ⟨rfl, hB5, hb5⟩)
      have HB5 := Aside0.mk hB5; have Hb5 := Aside0.mk (HBE.out.trans hb5)
      clear hB5 hb5 hWB
      by_cases hz : m10 = 0
      · have dz : (m10 == 0) = true := beq_iff_eq.2 hz
        have hfin := HQ.out
        rw [if_pos hz] at hfin
        have HFIN := Aside0.mk hfin
        have hSt := String_calls w.heap.size w.heap.size (done ++ [UInt8.ofNat (48 + q10.toNat)]) W5 HB5.out (by simp)
        rw [hfin] at hSt
        clear hz hfin
        go_wp2_with fail
        ((with_reducible refine hSt.mono ?_); rintro e_ W6 ⟨rfl, hb6⟩)
        have Hb6 := Aside0.mk (Hb5.out.trans hb6)
        clear hb6 hSt
        go_wp2
        go_ret
        exact ⟨rfl, Hb6.out⟩
      · have dz : (m10 == 0) = false := beq_eq_false_iff_ne.2 hz
        have hfin := HQ.out
        rw [if_neg hz] at hfin
        have hk3 : 1 ≤ k1 := by
          apply Classical.byContradiction
          intro hk
          have e0 : k1 = 0 := by omega
          subst e0
          exact hz (div2_last HST.out hm0.1 hm0.2)
        have HFIN : Aside0 ((done ++ [UInt8.ofNat (48 + q10.toNat)]) ++ fracD k1 m10 = printF a) := ⟨by rw [← hfin]; simp⟩
        have HLN2 : Aside0 ((done ++ [UInt8.ofNat (48 + q10.toNat)]).length + k1 ≤ 100) := ⟨by have := HLN.out; simp; omega⟩
        clear hz hfin
        go_wp2
        go_roundg k1
        case measure => omega
        case rel => exact ⟨m10, _, rfl, hk3, by omega, hm0.1, hm0.2, HST, HB5, HFIN, HLN2, Hb5⟩
set_option maxHeartbeats 8000000 in
set_option maxRecDepth 100000 in
theorem Print_neg (a u : Int) (hu : u = -a) (h0 : a < 0) (h1 : -9223372036854775808 ≤ a) (w : World) (hT : PowT w) :
    Calls Tryd.prog 14 #[.int .i64 a] w fun e w' => e = .returned (.string ⟨(45 :: printF u).toArray⟩) ∧ Below w.heap.size w w' := by
  have ha : In64 a := by unfold In64; omega
  have hab : ab a = u := by rw [ab_neg h0, hu]
  have hu0 : 0 ≤ u ∧ u ≤ 9223372036854775808 := by omega
  have HPT := Aside0.mk hT
  clear hT
  have hS := fun W => size_calls a W ha
  rw [hab] at hS
  have da : decide (a < 0) = true := decide_eq_true h0
  have hF := fun W h => Format_calls (u / 4294967296).toNat (by omega) W h
  have hc : (((u / 4294967296).toNat : Nat) : Int) = u / 4294967296 := by omega
  rw [hc] at hF
  obtain ⟨t, ht⟩ : ∃ t, t = Lib.decDigits (u / 4294967296).toNat := ⟨_, rfl⟩
  rw [← ht] at hF
  have htl : t.length ≤ 10 := by
    rw [ht]
    exact decDigits_le (k := 9) (by omega)
  have HT := Aside0.mk ht
  have hsz : ((⟨t.toArray⟩ : ByteArray) ++ (⟨#[46]⟩ : ByteArray)).size = t.length + 1 := by rw [ByteArray.size_append]; rfl
  have hsz1 : (⟨t.toArray⟩ : ByteArray).size = t.length := rfl
  have hcs : Lib.strCells ((⟨t.toArray⟩ : ByteArray) ++ (⟨#[46]⟩ : ByteArray)) = Lib.byteCells (t ++ [46]) := by rw [strCells_byte, ByteArray.data_append]; simp
  have hss : (⟨t.toArray⟩ : ByteArray).size + 1 ≤ 9223372036854775807 := by rw [hsz1]; omega
  obtain ⟨st, hst⟩ : ∃ st : ByteArray, st = ⟨t.toArray⟩ := ⟨_, rfl⟩
  rw [← hst] at hF hsz hcs hss
  clear ht hc ha hab hst hu
  have ha32 := u64_and32 u hu0.1 (by omega)
  have hr0 : 0 ≤ u % 4294967296 ∧ u % 4294967296 < 4294967296 := by omega
  have HD : Aside0 (Div2 32 (u % 4294967296)) := ⟨by unfold Div2; simp⟩
  have hfr := Lib.IsBuilderF.of (Lib.fresh_isBuilder 51 5 w)
  have hbw := (Below.refl w.heap.size w).alloc (Nat.le_refl _) (.cells #[.pointer none, .slice none 0 0] 51)
  have hbz := hbw.size
  obtain ⟨r, hr⟩ : ∃ r, r = u % 4294967296 := ⟨_, rfl⟩
  rw [← hr] at ha32 hr0 HD
  have HR := Aside0.mk hr
  obtain ⟨q, hq⟩ : ∃ q, q = u / 4294967296 := ⟨_, rfl⟩
  rw [← hq] at hF
  have HQ := Aside0.mk hq
  have hdv : u / 4294967296 = q := hq.symm
  clear hr hq
  obtain ⟨b, hb⟩ : ∃ b, b = w.heap.size := ⟨_, rfl⟩
  go_enter Tryd.func14, Tryd.ntmps14
  go_wp2_with fail
  ((with_reducible refine (WriteByte_calls w.heap.size w.heap.size [] 45 _ hfr (by simp) hbz).mono ?_); rintro e_ W0 ⟨rfl, hB0, hb0⟩)
  have hbw0 := hbw.trans hb0
  go_wp2_with fail
  ((with_reducible refine (hS _).mono ?_); rintro e_ W1 ⟨rfl, rfl⟩)
  go_wp2_with fail
  ((with_reducible refine (hF _ (HPT.out.below hbw0)).mono ?_); rintro e_ W2 ⟨rfl, hbF⟩)
  have hfr2 := IsB.below hB0 hbF
  have hbw2 := below_step hbw0 hbF
  have hbz2 := hbw2.size
  have hW := WriteString_calls w.heap.size w.heap.size ([] ++ [.int .u8 45]) (st ++ (⟨#[46]⟩ : ByteArray)) W2 hfr2 (by rw [hsz]; simp; omega) hbz2
  clear hF hS hfr hfr2
  go_wp2_with fail
  ((with_reducible refine hW.mono ?_); rintro e_ W3 ⟨rfl, hB3, hb3⟩)
  rw [hcs, List.nil_append, show [Value.int .u8 45] ++ Lib.byteCells (t ++ [46]) = Lib.byteCells (45 :: (t ++ [46])) by rfl] at hB3
  have HB3 := Aside0.mk hB3; have Hb3 := Aside0.mk (hbw2.trans hb3)
  clear hB3 hb3 hbw hbw0 hb0 hB0 hbw2 hbF hW hcs hsz
  have HTL : Aside0 ((45 :: (t ++ [46])).length + 32 ≤ 100) := ⟨by simp; omega⟩
  have HE : Aside0 ((45 :: (t ++ [46])) ++ fracD 32 r = 45 :: printF u) := ⟨by unfold printF; rw [HT.out, HR.out]; simp⟩
  go_wp2
  go_loopg [4] 32 (fun kq v4 w' => ∃ (r' : Int) (done : List UInt8), v4 = .int .u64 r' ∧ 1 ≤ kq ∧ kq ≤ 32 ∧ 0 ≤ r' ∧ r' < 4294967296 ∧ Aside0 (Div2 kq r') ∧ Aside0 (IsB w.heap.size w.heap.size (Lib.byteCells done) w') ∧ Aside0 (done ++ fracD kq r' = 45 :: printF u) ∧ Aside0 (done.length + kq ≤ 100) ∧ Aside0 (Below w.heap.size w w'))
  case atStart => exact ⟨r, 45 :: (t ++ [46]), rfl, by omega, by omega, hr0.1, hr0.2, HD, HB3, HE, HTL, Hb3⟩
  case round =>
    obtain ⟨r', done, rfl, hk1, hk2, hr1, hr2, HDV, HBL, HEQ, HLN, HBE⟩ := hrel
    cases gk with
    | zero => omega
    | succ k1 =>
      have hst := div2_step (k := k1) hk2 HDV.out
      have hfd : fracD (k1 + 1) r' = UInt8.ofNat (48 + (r' * 10 / 4294967296).toNat) :: if r' * 10 % 4294967296 = 0 then [] else fracD k1 (r' * 10 % 4294967296) := rfl
      have heq := HEQ.out
      rw [hfd] at heq
      have hand := u64_and32 (r' * 10) (by omega) (by omega)
      have hw1 : IntKind.u64.wrap (r' * 10) = r' * 10 := by rw [wrap_u64]; omega
      have hq0 : 0 ≤ r' * 10 / 4294967296 ∧ r' * 10 / 4294967296 ≤ 9 := by omega
      have hm0 : 0 ≤ r' * 10 % 4294967296 ∧ r' * 10 % 4294967296 < 4294967296 := by omega
      obtain ⟨m10, hm10⟩ : ∃ m, m = r' * 10 % 4294967296 := ⟨_, rfl⟩
      rw [← hm10] at hand hst heq hm0
      obtain ⟨q10, hq10⟩ : ∃ q, q = r' * 10 / 4294967296 := ⟨_, rfl⟩
      rw [← hq10] at heq hq0
      have hq10' : r' * 10 / 4294967296 = q10 := hq10.symm
      have hw2 : IntKind.u64.wrap (48 + q10) = 48 + q10 := by rw [wrap_u64]; omega
      have hw3 : IntKind.u8.wrap (48 + q10) = 48 + q10 := by rw [IntKind.wrap_u8]; omega
      have hWB := WriteByte_calls w.heap.size w.heap.size (Lib.byteCells done) (48 + q10) wr HBL.out (by rw [Lib.byteCells_length]; have := HLN.out; omega) HBE.out.size
      rw [byteCells_snoc done q10 hq0.1 hq0.2] at hWB
      have HST := Aside0.mk hst; have HQ := Aside0.mk heq
      clear hst heq hfd hm10 hq10 HDV HBL HEQ
      go_wp2_with fail
      ((with_reducible refine hWB.mono ?_); rintro e_ W5 ⟨rfl, hB5, hb5⟩)
      have HB5 := Aside0.mk hB5; have Hb5 := Aside0.mk (HBE.out.trans hb5)
      clear hB5 hb5 hWB
      by_cases hz : m10 = 0
      · have dz : (m10 == 0) = true := beq_iff_eq.2 hz
        have hfin := HQ.out
        rw [if_pos hz] at hfin
        have HFIN := Aside0.mk hfin
        have hSt := String_calls w.heap.size w.heap.size (done ++ [UInt8.ofNat (48 + q10.toNat)]) W5 HB5.out (by simp)
        rw [hfin] at hSt
        clear hz hfin
        go_wp2_with fail
        ((with_reducible refine hSt.mono ?_); rintro e_ W6 ⟨rfl, hb6⟩)
        have Hb6 := Aside0.mk (Hb5.out.trans hb6)
        clear hb6 hSt
        go_wp2
        go_ret
        exact ⟨rfl, Hb6.out⟩
      · have dz : (m10 == 0) = false := beq_eq_false_iff_ne.2 hz
        have hfin := HQ.out
        rw [if_neg hz] at hfin
        have hk3 : 1 ≤ k1 := by
          apply Classical.byContradiction
          intro hk
          have e0 : k1 = 0 := by omega
          subst e0
          exact hz (div2_last HST.out hm0.1 hm0.2)
        have HFIN : Aside0 ((done ++ [UInt8.ofNat (48 + q10.toNat)]) ++ fracD k1 m10 = 45 :: printF u) := ⟨by rw [← hfin]; simp⟩
        have HLN2 : Aside0 ((done ++ [UInt8.ofNat (48 + q10.toNat)]).length + k1 ≤ 100) := ⟨by have := HLN.out; simp; omega⟩
        clear hz hfin
        go_wp2
        go_roundg k1
        case measure => omega
        case rel => exact ⟨m10, _, rfl, hk3, by omega, hm0.1, hm0.2, HST, HB5, HFIN, HLN2, Hb5⟩
end Go.Proofs.YtcnibfancjofhaaDoor
