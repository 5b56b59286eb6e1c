/- Merged: FixS FixT FixU -/
import Derived.Test.YtklkikndcieojaaDoorFixK
/- FormatUint of any number (the table of powers of ten wanted), Print of any number. -/
namespace Go.Proofs.YtklkikndcieojaaDoor
open Go.RowKit Go.Sort Go.Proofs.YtklkikndcieojaaDoorW.PrintWords Go.Proofs.YtklkikndcieojaaDoorW.PrintLast Go.Proofs.YtklkikndcieojaaDoorW.PrintMore
set_option linter.unusedVariables false
set_option linter.unusedSimpArgs false
abbrev PowT (w : World) : Prop := Lib.TabIs Tryd.prog w "internal/strconv.uint64pow10" .u64 Lib.pow10Tab
theorem PowT.below {w w' : World} (hp : PowT w) (hb : Below w.heap.size w w') : PowT w' := by
  unfold PowT Lib.TabIs World.var? at *
  cases hg : Tryd.prog.globalNamed "internal/strconv.uint64pow10" with
  | none => rw [hg] at hp; simp at hp
  | some g =>
    rw [hg] at hp
    simp only [Option.bind_some] at hp ⊢
    have hlt : g < w.heap.size := by
      cases hh : w.heap[g]? with
      | none => rw [hh] at hp; cases hp
      | some o => exact (Array.getElem?_eq_some_iff.1 hh).1
    rw [hb.block g hlt]
    exact hp
theorem holds_zero0 (w : World) (T : TypeId) (nd : Nat) (hs : nd ≤ 24) : Holds (fun (b : UInt8) => Value.int .u8 (b.toNat : Int)) (w.alloc (.cells Lib.zeros24 T)) w.heap.size 0 (Array.replicate nd (0 : UInt8)) := fun j hj => by
  have hj' : j < nd := by simpa using hj
  refine ⟨?_, World.frozen?_alloc_new _ _ _ _⟩
  rw [World.cell?_alloc_new, Lib.zeros24_at _ (by omega), getElem!_pos _ j hj]
  simp
theorem below_put0 (w : World) (o : Obj) (dk : Array UInt8) : Below w.heap.size w (putRow (fun (b : UInt8) => Value.int .u8 (b.toNat : Int)) (w.alloc o) w.heap.size 0 dk) := by
  rw [alloc_eq_grow]
  obtain ⟨os', _, e⟩ := putRow_grow_new (fun (b : UInt8) => Value.int .u8 (b.toNat : Int)) w #[o] w.heap.size 0 dk (Nat.le_refl _)
  rw [e]
  exact ⟨rfl, rfl, rfl, by simp [grow], fun k hk => heap_grow_old w os' hk⟩
theorem decDigits_le {u k : Nat} (hk : u < 10 ^ (k + 1)) : (Lib.decDigits u).length ≤ k + 1 := by
  induction k generalizing u with
  | zero => rw [Lib.decDigits, dif_pos (by simpa using hk)]; simp
  | succ k ih =>
    rw [Lib.decDigits]
    split
    · simp
    · rw [List.length_append]
      have := ih (u := u / 10) (by rw [Nat.pow_succ] at hk; omega)
      simp; omega
end Go.Proofs.YtklkikndcieojaaDoor

/- What Print writes, Parse reads. -/
namespace Go.Proofs.YtklkikndcieojaaDoor
open Go.RowKit Go.Proofs.YtklkikndcieojaaDoorW.PrintWords Go.Proofs.YtklkikndcieojaaDoorW.PrintLast Go.Proofs.YtklkikndcieojaaDoorW.PrintMore
set_option linter.unusedVariables false
set_option linter.unusedSimpArgs false
def bI (l : List UInt8) : List Int := l.map (fun b => (b.toNat : Int))
theorem bI_append (a b : List UInt8) : bI (a ++ b) = bI a ++ bI b := by simp [bI]
theorem bytesOf_bI (s : ByteArray) : bytesOf s = bI s.data.toList := by simp [bytesOf, bI]
theorem numV_snoc (l : List Int) (n c : Int) : numV n (l ++ [c]) = numV n l * 10 + (c - 48) := by simp [numV, List.foldl_append]
theorem dig_val {u : Nat} (h : u < 10) : ((UInt8.ofNat (48 + u)).toNat : Int) = 48 + u := by
  rw [UInt8.toNat_ofNat_of_lt' (by show 48 + u < 256; omega)]; omega
theorem dec_num (u : Nat) : numV 0 (bI (Lib.decDigits u)) = u ∧ Digs (bI (Lib.decDigits u)) ∧ 1 ≤ (Lib.decDigits u).length := by
  induction u using Nat.strongRecOn with
  | _ u ih =>
    rw [Lib.decDigits]
    split
    · rename_i h
      have e := dig_val h
      refine ⟨?_, ?_, by simp⟩
      · simp only [bI, List.map_cons, List.map_nil, numV, List.foldl_cons, List.foldl_nil, e]; omega
      · intro c hc
        simp only [bI, List.map_cons, List.map_nil, List.mem_singleton] at hc
        rw [hc, e]; omega
    · obtain ⟨i1, i2, i3⟩ := ih (u / 10) (by omega)
      have e := dig_val (u := u % 10) (by omega)
      refine ⟨?_, ?_, by simp⟩
      · rw [bI_append]
        show numV 0 (bI (Lib.decDigits (u / 10)) ++ [((UInt8.ofNat (48 + u % 10)).toNat : Int)]) = u
        rw [numV_snoc, i1, e]; omega
      · intro c hc
        rw [bI_append] at hc
        rcases List.mem_append.1 hc with hc | hc
        · exact i2 c hc
        · simp only [bI, List.map_cons, List.map_nil, List.mem_singleton] at hc
          rw [hc, e]; omega
theorem dec_head (u : Nat) (h : 10 ≤ u) : ∃ x r, Lib.decDigits u = x :: r ∧ x ≠ 48 := by
  induction u using Nat.strongRecOn with
  | _ u ih =>
    rw [Lib.decDigits, dif_neg (by omega)]
    by_cases h2 : u / 10 < 10
    · rw [Lib.decDigits, dif_pos h2]
      refine ⟨_, _, rfl, ?_⟩
      intro e
      have e2 := dig_val h2
      rw [e] at e2
      have : ((48 : UInt8).toNat : Int) = 48 := by decide
      omega
    · obtain ⟨x, r, e, hx⟩ := ih (u / 10) (by omega) (by omega)
      rw [e]
      exact ⟨x, _, rfl, hx⟩
theorem frac_e3 {n r q m : Int} (e : r * 10 = q * 4294967296 + m) : (n * 10 + q) * 4294967296 + m = (n * 4294967296 + r) * 10 := by omega
theorem frac_one {n r q m : Int} (e : r * 10 = q * 4294967296 + m) (hz : m = 0) : (n * 10 + q) * 4294967296 = (n * 4294967296 + r) * 10 := by
  have h := frac_e3 (n := n) e
  rw [hz, Int.add_zero] at h
  exact h
theorem frac_step {n r q m N p : Int} (e : r * 10 = q * 4294967296 + m) (i1 : N * 4294967296 = ((n * 10 + q) * 4294967296 + m) * p) : N * 4294967296 = (n * 4294967296 + r) * (p * 10) := by
  rw [i1]
  have e3 : (n * 10 + q) * 4294967296 + m = (n * 4294967296 + r) * 10 := by omega
  rw [e3]; grind
theorem no_point {l : List UInt8} (h : Digs (bI l)) : (46 : UInt8) ∉ l := by
  intro hm
  have := h 46 (List.mem_map.2 ⟨46, hm, by decide⟩)
  omega
theorem index_point {l f : List UInt8} (h : (46 : UInt8) ∉ l) : Lib.indexByte (l ++ [46] ++ f) 46 = (l.length : Int) := by
  rcases indexByte_at 46 (l ++ [46] ++ f) with ⟨_, hn⟩ | ⟨k, e, hk, hc, hn⟩
  · exact absurd (by simp) hn
  · rw [e]
    have h1 : ¬ k < l.length := by
      intro hlt
      rw [List.append_assoc, List.getElem?_append_left hlt] at hc
      exact h (List.mem_of_getElem? hc)
    have h2 : ¬ l.length < k := by
      intro hlt
      apply hn
      have : (46 : UInt8) ∈ (l ++ [46]).take k := by rw [List.take_of_length_le (by simp; omega)]; simp
      rw [List.take_append]
      exact List.mem_append.2 (.inl this)
    omega
theorem ba_take (l f : List UInt8) : (⟨l.toArray⟩ : ByteArray) = (⟨(l ++ [46] ++ f).toArray⟩ : ByteArray).extract 0 l.length := by
  apply ByteArray.ext
  rw [ByteArray.data_extract]
  apply Array.toList_inj.1
  simp
theorem ba_drop (l f : List UInt8) : (⟨f.toArray⟩ : ByteArray) = (⟨(l ++ [46] ++ f).toArray⟩ : ByteArray).extract (l.length + 1) (⟨(l ++ [46] ++ f).toArray⟩ : ByteArray).size := by
  apply ByteArray.ext
  rw [ByteArray.data_extract]
  apply Array.toList_inj.1
  have e : (⟨(l ++ [46] ++ f).toArray⟩ : ByteArray).size = l.length + 1 + f.length := by show (l ++ [46] ++ f).toArray.size = _; simp; omega
  rw [e]
  simp
theorem Bt_head (x : UInt8) (r : List UInt8) : Bt (⟨(x :: r).toArray⟩ : ByteArray) 0 = (x.toNat : Int) := by
  have h : 0 < (⟨(x :: r).toArray⟩ : ByteArray).size := by show 0 < (x :: r).toArray.size; simp
  have := Go.Proofs.YtklkikndcieojaaDoorW.PrintWords.bt_at (⟨(x :: r).toArray⟩ : ByteArray) 0 h
  exact this.symm
theorem lead_no {l : List UInt8} (h : ∀ x r, l = x :: r → r ≠ [] → x ≠ 48) (hn : 1 ≤ l.length) : ¬ (Bt (⟨l.toArray⟩ : ByteArray) 0 = 48 ∧ 1 < (⟨l.toArray⟩ : ByteArray).size) := by
  cases l with
  | nil => simp at hn
  | cons x r =>
    rintro ⟨e1, e2⟩
    rw [Bt_head] at e1
    have e3 : (⟨(x :: r).toArray⟩ : ByteArray).size = r.length + 1 := by show (x :: r).toArray.size = _; simp
    refine h x r rfl (fun e => ?_) ?_
    · have e5 : r.length = 0 := by rw [e]; rfl
      omega
    · apply UInt8.toNat_inj.1
      have h48 : ((48 : UInt8).toNat : Int) = 48 := by decide
      omega
theorem sum_size (l f : List UInt8) : (⟨(l ++ [46] ++ f).toArray⟩ : ByteArray).size = l.length + 1 + f.length := by show (l ++ [46] ++ f).toArray.size = _; simp; omega
theorem point_at {L f : List UInt8} (h : (46 : UInt8) ∉ L) : Lib.indexByte (⟨(L ++ [46] ++ f).toArray⟩ : ByteArray).data.toList 46 = (L.length : Int) := by
  show Lib.indexByte (L ++ [46] ++ f).toArray.toList 46 = _
  rw [List.toList_toArray]
  exact index_point h
theorem frac_back {N r : Int} {k : Nat} (h : N * 4294967296 = r * 10 ^ k) : N * 4294967296 / 10 ^ k = r := by
  have hp : (0 : Int) < 10 ^ k := Int.pow_pos (by decide)
  rw [h, Int.mul_ediv_cancel _ (by omega)]
set_option maxHeartbeats 2000000 in
set_option maxRecDepth 100000 in
theorem Parse_signed (L f : List UInt8) (hnp : (46 : UInt8) ∉ L) (hb0 : Bt (⟨L.toArray⟩ : ByteArray) 0 = 45) (hm : (45 : UInt8) ∈ L) (hl1 : 1 ≤ L.length) (hl2 : L.length ≤ 1000) (f3 : 1 ≤ f.length) (f4 : f.length ≤ 32) (w : World) :
    Calls Tryd.prog 38 #[.string ⟨(L ++ [46] ++ f).toArray⟩] w (ParseBad w) := by
  have hix := point_at (f := f) hnp
  have s1 : (⟨L.toArray⟩ : ByteArray).size = L.length := rfl
  have s2 : (⟨f.toArray⟩ : ByteArray).size = f.length := rfl
  have hs := sum_size L f
  have e1 : bytesOf (⟨L.toArray⟩ : ByteArray) = bI L := bytesOf_bI _
  have ta := ba_take L f
  have tb := ba_drop L f
  generalize (⟨(L ++ [46] ++ f).toArray⟩ : ByteArray) = S at hix hs ta tb ⊢
  generalize (⟨L.toArray⟩ : ByteArray) = A at s1 ta e1 hb0
  generalize (⟨f.toArray⟩ : ByteArray) = B at s2 tb
  have hnd : ¬ Digs (bytesOf (A ++ B)) := by
    intro hd
    have h45 := ((digs_append _ _).1 hd).1 45 (by rw [e1]; exact List.mem_map.2 ⟨45, hm, by decide⟩)
    exact absurd h45.1 (by decide)
  have hl : ¬ (Bt A 0 = 48 ∧ 1 < A.size) := fun h => absurd (hb0.symm.trans h.1) (by decide)
  generalize L.length = m at *
  clear hb0 hnp hm e1
  by_cases h10 : m ≤ 10
  · exact Parse_bad2 S m w (by omega) hix A B ta tb (by omega) (by omega) (by omega) (by omega) hl hnd
  · exact Parse_bad1 S m w (by omega) hix A B ta tb (by omega)
/-- Any text is read as a number from 0 on, or is wrong. -/
theorem Parse_any (s : ByteArray) (w : World) (hs : s.size ≤ 140737488355328) (hW : FixW w) :
    Calls Tryd.prog 38 #[.string s] w fun e w' => (∃ y : Int, 0 ≤ y ∧ y ≤ 9223372036854775807 ∧ e = .returned (.tuple #[.int .i64 y, .int .i64 0]) ∧ Below w.heap.size w w') ∨ ParseBad w e w' := by
  rcases indexByte_at 46 s.data.toList with ⟨_, hn⟩ | ⟨k, e, hk, hc, hn⟩
  · exact (Parse_none s w hn).mono fun e w' h => .inr h
  · obtain ⟨a, ha⟩ : ∃ a, a = s.extract 0 k := ⟨_, rfl⟩
    obtain ⟨b, hb⟩ : ∃ b, b = s.extract (k + 1) s.size := ⟨_, rfl⟩
    by_cases g : 1 ≤ a.size ∧ a.size ≤ 10 ∧ 1 ≤ b.size ∧ b.size ≤ 32 ∧ ¬ (Bt a 0 = 48 ∧ 1 < a.size)
    · obtain ⟨g1, g2, g3, g4, g5⟩ := g
      by_cases hd : Digs (bytesOf (a ++ b))
      · by_cases hv : numV 0 (bytesOf a) ≤ 2147483647
        · refine (Parse_good s k w hs e a b ha hb g1 g2 g3 g4 g5 hd hv).mono fun e w' h => .inl ⟨_, ?_, ?_, h.1, h.2⟩
          · have h1 := numV_le10 ((digs_append a b).1 hd).1
            have h2 : 0 ≤ fracF b := Int.ediv_nonneg (Int.mul_nonneg (numV_le10 ((digs_append a b).1 hd).2) (by decide)) (Int.le_of_lt (Int.pow_pos (by decide)))
            omega
          · have h1 := (PS.start ((digs_append a b).1 hd).2 0)
            have hlt : numV 0 (bytesOf b) < 10 ^ b.size := by
              have := valD_lt (PS.row h1).2
              rw [(PS.row h1).1] at this
              rw [valD_numV]; omega
            have h2 : fracF b < 4294967296 := by
              unfold fracF
              apply Int.ediv_lt_of_lt_mul (Int.pow_pos (by decide))
              rw [Int.mul_comm 4294967296]
              exact Int.mul_lt_mul_of_pos_right hlt (by decide)
            omega
        · exact (Parse_bad3 s k w hs e a b ha hb g1 g2 g3 g4 g5 hW hd (by omega)).mono fun e w' h => .inr h
      · exact (Parse_bad2 s k w hs e a b ha hb g1 g2 g3 g4 g5 hd).mono fun e w' h => .inr h
    · exact (Parse_bad1 s k w hs e a b ha hb g).mono fun e w' h => .inr h
end Go.Proofs.YtklkikndcieojaaDoor

/- The law FixPrints, walked. -/
namespace Go.Proofs.YtklkikndcieojaaDoor
open Go.RowKit Go.Proofs.YtklkikndcieojaaDoorW.PrintWords Go.Proofs.YtklkikndcieojaaDoorW.PrintLast Go.Proofs.YtklkikndcieojaaDoorW.PrintMore
set_option linter.unusedVariables false
set_option linter.unusedSimpArgs false
end Go.Proofs.YtklkikndcieojaaDoor
