/- What Print writes, Parse reads. -/
import Derived.Test.YtcnibfancjofhaaDoorFixS
namespace Go.Proofs.YtcnibfancjofhaaDoor
open Go.RowKit Go.Proofs.YtcnibfancjofhaaDoorW.PrintWords Go.Proofs.YtcnibfancjofhaaDoorW.PrintLast Go.Proofs.YtcnibfancjofhaaDoorW.PrintMore
set_option linter.unusedVariables false
set_option linter.unusedSimpArgs false
def bI (l : List UInt8) : List Int := l.map (fun b => (b.toNat : Int))
theorem bI_append (a b : List UInt8) : bI (a ++ b) = bI a ++ bI b := by simp [bI]
theorem bytesOf_bI (s : ByteArray) : bytesOf s = bI s.data.toList := by simp [bytesOf, bI]
theorem numV_snoc (l : List Int) (n c : Int) : numV n (l ++ [c]) = numV n l * 10 + (c - 48) := by simp [numV, List.foldl_append]
theorem dig_val {u : Nat} (h : u < 10) : ((UInt8.ofNat (48 + u)).toNat : Int) = 48 + u := by
  rw [UInt8.toNat_ofNat_of_lt' (by show 48 + u < 256; omega)]; omega
theorem dec_num (u : Nat) : numV 0 (bI (Lib.decDigits u)) = u ∧ Digs (bI (Lib.decDigits u)) ∧ 1 ≤ (Lib.decDigits u).length := by
  induction u using Nat.strongRecOn with
  | _ u ih =>
    rw [Lib.decDigits]
    split
    · rename_i h
      have e := dig_val h
      refine ⟨?_, ?_, by simp⟩
      · simp only [bI, List.map_cons, List.map_nil, numV, List.foldl_cons, List.foldl_nil, e]; omega
      · intro c hc
        simp only [bI, List.map_cons, List.map_nil, List.mem_singleton] at hc
        rw [hc, e]; omega
    · obtain ⟨i1, i2, i3⟩ := ih (u / 10) (by omega)
      have e := dig_val (u := u % 10) (by omega)
      refine ⟨?_, ?_, by simp⟩
      · rw [bI_append]
        show numV 0 (bI (Lib.decDigits (u / 10)) ++ [((UInt8.ofNat (48 + u % 10)).toNat : Int)]) = u
        rw [numV_snoc, i1, e]; omega
      · intro c hc
        rw [bI_append] at hc
        rcases List.mem_append.1 hc with hc | hc
        · exact i2 c hc
        · simp only [bI, List.map_cons, List.map_nil, List.mem_singleton] at hc
          rw [hc, e]; omega
theorem dec_head (u : Nat) (h : 10 ≤ u) : ∃ x r, Lib.decDigits u = x :: r ∧ x ≠ 48 := by
  induction u using Nat.strongRecOn with
  | _ u ih =>
    rw [Lib.decDigits, dif_neg (by omega)]
    by_cases h2 : u / 10 < 10
    · rw [Lib.decDigits, dif_pos h2]
      refine ⟨_, _, rfl, ?_⟩
      intro e
      have e2 := dig_val h2
      rw [e] at e2
      have : ((48 : UInt8).toNat : Int) = 48 := by decide
      omega
    · obtain ⟨x, r, e, hx⟩ := ih (u / 10) (by omega) (by omega)
      rw [e]
      exact ⟨x, _, rfl, hx⟩
theorem fracD_succ (k : Nat) (r : Int) : fracD (k + 1) r = UInt8.ofNat (48 + (r * 10 / 4294967296).toNat) :: if r * 10 % 4294967296 = 0 then [] else fracD k (r * 10 % 4294967296) := rfl
theorem frac_e3 {n r q m : Int} (e : r * 10 = q * 4294967296 + m) : (n * 10 + q) * 4294967296 + m = (n * 4294967296 + r) * 10 := by omega
theorem frac_one {n r q m : Int} (e : r * 10 = q * 4294967296 + m) (hz : m = 0) : (n * 10 + q) * 4294967296 = (n * 4294967296 + r) * 10 := by
  have h := frac_e3 (n := n) e
  rw [hz, Int.add_zero] at h
  exact h
theorem frac_step {n r q m N p : Int} (e : r * 10 = q * 4294967296 + m) (i1 : N * 4294967296 = ((n * 10 + q) * 4294967296 + m) * p) : N * 4294967296 = (n * 4294967296 + r) * (p * 10) := by
  rw [i1]
  have e3 : (n * 10 + q) * 4294967296 + m = (n * 4294967296 + r) * 10 := by omega
  rw [e3]; grind
theorem frac_num : ∀ (k : Nat) (n r : Int), k ≤ 32 → 1 ≤ k → Div2 k r → 0 ≤ r → r < 4294967296 →
    numV n (bI (fracD k r)) * 4294967296 = (n * 4294967296 + r) * 10 ^ (fracD k r).length ∧ Digs (bI (fracD k r)) ∧ 1 ≤ (fracD k r).length ∧ (fracD k r).length ≤ k
  | 0, _, _, _, h, _, _, _ => absurd h (by omega)
  | k + 1, n, r, hk, _, hd, h0, h1 => by
    have hst := div2_step hk hd
    rw [fracD_succ]
    have em : r * 10 = (r * 10 / 4294967296) * 4294967296 + r * 10 % 4294967296 := by omega
    have hq : 0 ≤ r * 10 / 4294967296 ∧ r * 10 / 4294967296 < 10 := by omega
    have hm : 0 ≤ r * 10 % 4294967296 ∧ r * 10 % 4294967296 < 4294967296 := by omega
    generalize r * 10 / 4294967296 = q at em hq
    generalize r * 10 % 4294967296 = m at em hm hst
    have e := dig_val (u := q.toNat) (by omega)
    have e4 : ((UInt8.ofNat (48 + q.toNat)).toNat : Int) - 48 = q := by omega
    have hdg : ∀ c, c = ((UInt8.ofNat (48 + q.toNat)).toNat : Int) → 48 ≤ c ∧ c ≤ 57 := by intro c hc; omega
    generalize UInt8.ofNat (48 + q.toNat) = x at e e4 hdg
    by_cases hz : m = 0
    · rw [if_pos hz]
      refine ⟨?_, ?_, by simp, by simp⟩
      · have hv : numV n (bI [x]) = n * 10 + q := by
          simp only [bI, numV, List.map_cons, List.map_nil, List.foldl_cons, List.foldl_nil]
          rw [e4]
        have hp : (10 : Int) ^ [x].length = 10 := by rw [List.length_singleton]; decide
        rw [hv, hp]
        exact frac_one em hz
      · intro c hc
        rcases List.mem_cons.1 hc with hc | hc
        · exact hdg c hc
        · cases hc
    · rw [if_neg hz]
      have hk1 : 1 ≤ k := by
        apply Classical.byContradiction
        intro hk0
        have e0 : k = 0 := by omega
        subst e0
        exact hz (div2_last hst (by omega) (by omega))
      obtain ⟨i1, i2, i3, i4⟩ := frac_num k (n * 10 + q) m (by omega) hk1 hst hm.1 hm.2
      refine ⟨?_, ?_, by simp, by simp; omega⟩
      · have hb : bI (x :: fracD k m) = (x.toNat : Int) :: bI (fracD k m) := by simp only [bI, List.map_cons]
        rw [hb, numV_cons, e4, List.length_cons, Int.pow_succ]
        exact frac_step em i1
      · intro c hc
        rcases List.mem_cons.1 hc with hc | hc
        · exact hdg c hc
        · exact i2 c hc
theorem div2_all (r : Int) : Div2 32 r := by unfold Div2; simp
theorem no_point {l : List UInt8} (h : Digs (bI l)) : (46 : UInt8) ∉ l := by
  intro hm
  have := h 46 (List.mem_map.2 ⟨46, hm, by decide⟩)
  omega
theorem index_point {l f : List UInt8} (h : (46 : UInt8) ∉ l) : Lib.indexByte (l ++ [46] ++ f) 46 = (l.length : Int) := by
  rcases indexByte_at 46 (l ++ [46] ++ f) with ⟨_, hn⟩ | ⟨k, e, hk, hc, hn⟩
  · exact absurd (by simp) hn
  · rw [e]
    have h1 : ¬ k < l.length := by
      intro hlt
      rw [List.append_assoc, List.getElem?_append_left hlt] at hc
      exact h (List.mem_of_getElem? hc)
    have h2 : ¬ l.length < k := by
      intro hlt
      apply hn
      have : (46 : UInt8) ∈ (l ++ [46]).take k := by rw [List.take_of_length_le (by simp; omega)]; simp
      rw [List.take_append]
      exact List.mem_append.2 (.inl this)
    omega
theorem ba_take (l f : List UInt8) : (⟨l.toArray⟩ : ByteArray) = (⟨(l ++ [46] ++ f).toArray⟩ : ByteArray).extract 0 l.length := by
  apply ByteArray.ext
  rw [ByteArray.data_extract]
  apply Array.toList_inj.1
  simp
theorem ba_drop (l f : List UInt8) : (⟨f.toArray⟩ : ByteArray) = (⟨(l ++ [46] ++ f).toArray⟩ : ByteArray).extract (l.length + 1) (⟨(l ++ [46] ++ f).toArray⟩ : ByteArray).size := by
  apply ByteArray.ext
  rw [ByteArray.data_extract]
  apply Array.toList_inj.1
  have e : (⟨(l ++ [46] ++ f).toArray⟩ : ByteArray).size = l.length + 1 + f.length := by show (l ++ [46] ++ f).toArray.size = _; simp; omega
  rw [e]
  simp
theorem Bt_head (x : UInt8) (r : List UInt8) : Bt (⟨(x :: r).toArray⟩ : ByteArray) 0 = (x.toNat : Int) := by
  have h : 0 < (⟨(x :: r).toArray⟩ : ByteArray).size := by show 0 < (x :: r).toArray.size; simp
  have := Go.Proofs.YtcnibfancjofhaaDoorW.PrintWords.bt_at (⟨(x :: r).toArray⟩ : ByteArray) 0 h
  exact this.symm
/-- What Print writes, part by part. -/
theorem print_parts (a : Int) (h0 : 0 ≤ a) (h1 : a ≤ 9223372036854775808) : ∃ l f : List UInt8, printF a = l ++ [46] ++ f ∧ numV 0 (bI l) = a / 4294967296 ∧ Digs (bI l) ∧ 1 ≤ l.length ∧ l.length ≤ 10 ∧ (∀ x r, l = x :: r → r ≠ [] → x ≠ 48) ∧
    numV 0 (bI f) * 4294967296 = (a % 4294967296) * 10 ^ f.length ∧ Digs (bI f) ∧ 1 ≤ f.length ∧ f.length ≤ 32 := by
  obtain ⟨d1, d2, d3⟩ := dec_num (a / 4294967296).toNat
  obtain ⟨f1, f2, f3, f4⟩ := frac_num 32 0 (a % 4294967296) (by omega) (by omega) (div2_all _) (by omega) (by omega)
  refine ⟨_, _, rfl, ?_, d2, d3, decDigits_le (u := (a / 4294967296).toNat) (k := 9) (by omega), ?_, ?_, f2, f3, f4⟩
  · rw [d1]; omega
  · intro x r e hr hx
    by_cases h10 : 10 ≤ (a / 4294967296).toNat
    · obtain ⟨y, t, e2, hy⟩ := dec_head _ h10
      rw [e2] at e
      injection e with e3 e4
      exact hy (e3.trans hx)
    · rw [Lib.decDigits, dif_pos (by omega)] at e
      injection e with e3 e4
      exact hr e4.symm
  · rw [f1, Int.zero_mul, Int.zero_add]
theorem lead_no {l : List UInt8} (h : ∀ x r, l = x :: r → r ≠ [] → x ≠ 48) (hn : 1 ≤ l.length) : ¬ (Bt (⟨l.toArray⟩ : ByteArray) 0 = 48 ∧ 1 < (⟨l.toArray⟩ : ByteArray).size) := by
  cases l with
  | nil => simp at hn
  | cons x r =>
    rintro ⟨e1, e2⟩
    rw [Bt_head] at e1
    have e3 : (⟨(x :: r).toArray⟩ : ByteArray).size = r.length + 1 := by show (x :: r).toArray.size = _; simp
    refine h x r rfl (fun e => ?_) ?_
    · have e5 : r.length = 0 := by rw [e]; rfl
      omega
    · apply UInt8.toNat_inj.1
      have h48 : ((48 : UInt8).toNat : Int) = 48 := by decide
      omega
theorem sum_size (l f : List UInt8) : (⟨(l ++ [46] ++ f).toArray⟩ : ByteArray).size = l.length + 1 + f.length := by show (l ++ [46] ++ f).toArray.size = _; simp; omega
theorem point_at {L f : List UInt8} (h : (46 : UInt8) ∉ L) : Lib.indexByte (⟨(L ++ [46] ++ f).toArray⟩ : ByteArray).data.toList 46 = (L.length : Int) := by
  show Lib.indexByte (L ++ [46] ++ f).toArray.toList 46 = _
  rw [List.toList_toArray]
  exact index_point h
theorem frac_back {N r : Int} {k : Nat} (h : N * 4294967296 = r * 10 ^ k) : N * 4294967296 / 10 ^ k = r := by
  have hp : (0 : Int) < 10 ^ k := Int.pow_pos (by decide)
  rw [h, Int.mul_ediv_cancel _ (by omega)]
set_option maxHeartbeats 2000000 in
set_option maxRecDepth 100000 in
/-- Every number from 0 on is read again. -/
theorem Parse_print (a : Int) (h0 : 0 ≤ a) (h1 : a ≤ 9223372036854775807) (w : World) :
    Calls Tryd.prog 12 #[.string ⟨(printF a).toArray⟩] w fun e w' => e = .returned (.tuple #[.int .i64 a, .int .i64 0]) ∧ Below w.heap.size w w' := by
  obtain ⟨l, f, e, d1, d2, d3, hl, hlead, f1, f2, f3, f4⟩ := print_parts a h0 (by omega)
  rw [e]
  have hix := point_at (f := f) (no_point d2)
  have e1 : bytesOf (⟨l.toArray⟩ : ByteArray) = bI l := bytesOf_bI _
  have e2 : bytesOf (⟨f.toArray⟩ : ByteArray) = bI f := bytesOf_bI _
  have s1 : (⟨l.toArray⟩ : ByteArray).size = l.length := rfl
  have s2 : (⟨f.toArray⟩ : ByteArray).size = f.length := rfl
  have hs := sum_size l f
  have hd : Digs (bytesOf ((⟨l.toArray⟩ : ByteArray) ++ (⟨f.toArray⟩ : ByteArray))) := by rw [digs_append, e1, e2]; exact ⟨d2, f2⟩
  have hP := Parse_good ⟨(l ++ [46] ++ f).toArray⟩ l.length w (by omega) hix ⟨l.toArray⟩ ⟨f.toArray⟩ (ba_take l f) (ba_drop l f) (by omega) (by omega) (by omega) (by omega) (lead_no hlead d3) hd (by rw [e1, d1]; omega)
  have hfr : fracF (⟨f.toArray⟩ : ByteArray) = a % 4294967296 := by
    unfold fracF
    rw [e2, s2]
    exact frac_back f1
  rw [hfr, e1, d1] at hP
  have ha : a / 4294967296 * 4294967296 + a % 4294967296 = a := by omega
  rw [ha] at hP
  exact hP
set_option maxHeartbeats 2000000 in
set_option maxRecDepth 100000 in
theorem Parse_signed (L f : List UInt8) (hnp : (46 : UInt8) ∉ L) (hb0 : Bt (⟨L.toArray⟩ : ByteArray) 0 = 45) (hm : (45 : UInt8) ∈ L) (hl1 : 1 ≤ L.length) (hl2 : L.length ≤ 1000) (f3 : 1 ≤ f.length) (f4 : f.length ≤ 32) (w : World) :
    Calls Tryd.prog 12 #[.string ⟨(L ++ [46] ++ f).toArray⟩] w (ParseBad w) := by
  have hix := point_at (f := f) hnp
  have s1 : (⟨L.toArray⟩ : ByteArray).size = L.length := rfl
  have s2 : (⟨f.toArray⟩ : ByteArray).size = f.length := rfl
  have hs := sum_size L f
  have e1 : bytesOf (⟨L.toArray⟩ : ByteArray) = bI L := bytesOf_bI _
  have ta := ba_take L f
  have tb := ba_drop L f
  generalize (⟨(L ++ [46] ++ f).toArray⟩ : ByteArray) = S at hix hs ta tb ⊢
  generalize (⟨L.toArray⟩ : ByteArray) = A at s1 ta e1 hb0
  generalize (⟨f.toArray⟩ : ByteArray) = B at s2 tb
  have hnd : ¬ Digs (bytesOf (A ++ B)) := by
    intro hd
    have h45 := ((digs_append _ _).1 hd).1 45 (by rw [e1]; exact List.mem_map.2 ⟨45, hm, by decide⟩)
    exact absurd h45.1 (by decide)
  have hl : ¬ (Bt A 0 = 48 ∧ 1 < A.size) := fun h => absurd (hb0.symm.trans h.1) (by decide)
  generalize L.length = m at *
  clear hb0 hnp hm e1
  by_cases h10 : m ≤ 10
  · exact Parse_bad2 S m w (by omega) hix A B ta tb (by omega) (by omega) (by omega) (by omega) hl hnd
  · exact Parse_bad1 S m w (by omega) hix A B ta tb (by omega)
/-- No number below 0 is. -/
theorem Parse_minus (u : Int) (h0 : 0 < u) (h1 : u ≤ 9223372036854775808) (w : World) :
    Calls Tryd.prog 12 #[.string ⟨(45 :: printF u).toArray⟩] w (ParseBad w) := by
  obtain ⟨l, f, e, d1, d2, d3, hl, hlead, f1, f2, f3, f4⟩ := print_parts u (by omega) h1
  rw [e]
  have hnp : (46 : UInt8) ∉ (45 :: l) := by
    intro hm
    rcases List.mem_cons.1 hm with e | hm
    · exact absurd e (by decide)
    · exact no_point d2 hm
  have hb0 : Bt (⟨(45 :: l).toArray⟩ : ByteArray) 0 = 45 := by rw [Bt_head]; decide
  have := Parse_signed (45 :: l) f hnp hb0 List.mem_cons_self (by simp) (by simp; omega) f3 f4 w
  rw [List.cons_append, List.cons_append] at this
  exact this
/-- Any text is read as a number from 0 on, or is wrong. -/
theorem Parse_any (s : ByteArray) (w : World) (hs : s.size ≤ 140737488355328) (hW : FixW w) :
    Calls Tryd.prog 12 #[.string s] w fun e w' => (∃ y : Int, 0 ≤ y ∧ y ≤ 9223372036854775807 ∧ e = .returned (.tuple #[.int .i64 y, .int .i64 0]) ∧ Below w.heap.size w w') ∨ ParseBad w e w' := by
  rcases indexByte_at 46 s.data.toList with ⟨_, hn⟩ | ⟨k, e, hk, hc, hn⟩
  · exact (Parse_none s w hn).mono fun e w' h => .inr h
  · obtain ⟨a, ha⟩ : ∃ a, a = s.extract 0 k := ⟨_, rfl⟩
    obtain ⟨b, hb⟩ : ∃ b, b = s.extract (k + 1) s.size := ⟨_, rfl⟩
    by_cases g : 1 ≤ a.size ∧ a.size ≤ 10 ∧ 1 ≤ b.size ∧ b.size ≤ 32 ∧ ¬ (Bt a 0 = 48 ∧ 1 < a.size)
    · obtain ⟨g1, g2, g3, g4, g5⟩ := g
      by_cases hd : Digs (bytesOf (a ++ b))
      · by_cases hv : numV 0 (bytesOf a) ≤ 2147483647
        · refine (Parse_good s k w hs e a b ha hb g1 g2 g3 g4 g5 hd hv).mono fun e w' h => .inl ⟨_, ?_, ?_, h.1, h.2⟩
          · have h1 := numV_le10 ((digs_append a b).1 hd).1
            have h2 : 0 ≤ fracF b := Int.ediv_nonneg (Int.mul_nonneg (numV_le10 ((digs_append a b).1 hd).2) (by decide)) (Int.le_of_lt (Int.pow_pos (by decide)))
            omega
          · have h1 := (PS.start ((digs_append a b).1 hd).2 0)
            have hlt : numV 0 (bytesOf b) < 10 ^ b.size := by
              have := valD_lt (PS.row h1).2
              rw [(PS.row h1).1] at this
              rw [valD_numV]; omega
            have h2 : fracF b < 4294967296 := by
              unfold fracF
              apply Int.ediv_lt_of_lt_mul (Int.pow_pos (by decide))
              rw [Int.mul_comm 4294967296]
              exact Int.mul_lt_mul_of_pos_right hlt (by decide)
            omega
        · exact (Parse_bad3 s k w hs e a b ha hb g1 g2 g3 g4 g5 hW hd (by omega)).mono fun e w' h => .inr h
      · exact (Parse_bad2 s k w hs e a b ha hb g1 g2 g3 g4 g5 hd).mono fun e w' h => .inr h
    · exact (Parse_bad1 s k w hs e a b ha hb g).mono fun e w' h => .inr h
end Go.Proofs.YtcnibfancjofhaaDoor
