/- awake. -/
import Derived.Test.YtcgjaobbjeagoaaDoorWireF
import Derived.Laws.IdiomStrings
namespace Go.Proofs.YtcgjaobbjeagoaaDoor
open Go.RowKit Go.Proofs.YtcgjaobbjeagoaaDoorW.PrintWords Go.Proofs.YtcgjaobbjeagoaaDoorW.PrintLast Go.Proofs.YtcgjaobbjeagoaaDoorW.PrintMore
set_option linter.unusedVariables false
set_option linter.unusedSimpArgs false

theorem aw1 (w : World) : Calls Tryd.prog 11 #[.slice none 0 0, .int .i64 300] w
    fun e w' => ∃ v, e = .returned (.tuple #[v, .int .i64 0]) ∧ Kd.R (Kd.int .u8) 5 w' w.heap.size (fun _ => True) v [172, 2] ∧ Below w.heap.size w w' := by
  have h := Num_calls none 0 [] 300 w (Kd.C_nil _ _) (by simp) (by decide) (by decide)
  have e : numF [] 300 = ([172, 2], 0) := by
    rw [numF, if_neg (by decide), show (300 : Int).toNat = 300 by rfl, venc_ge (by decide), venc_lt (by decide)]; rfl
  rw [e] at h
  exact h
theorem aw2 (w : World) : Calls Tryd.prog 16 #[.slice (some ⟨w.heap.size, 0, none⟩) 3 3, .int .i64 0] (w.alloc (Obj.cells #[.int .u8 172, .int .u8 2, .int .u8 9] 5))
    fun e w' => e = .returned (.tuple #[.int .i64 300, .int .i64 2, .int .i64 0]) ∧ Below w.heap.size w w' := by
  have h := ReadNum_calls (some ⟨w.heap.size, 0, none⟩) 3 [172, 2, 9] 0 _ (C_pre w [172, 2, 9] [] 5 (by simp) _ rfl) (by simp) (by decide) (by simp) (by decide) (by decide)
  have e : tk [172, 2, 9] 0 9 = (300, 2, 0) := by decide
  rw [e] at h
  exact h.mono (fun e w' hh => ⟨hh.1, by rw [hh.2]; exact below_alloc (Below.refl _ _) _⟩)
theorem aw3 (w : World) : Calls Tryd.prog 16 #[.slice (some ⟨w.heap.size, 0, none⟩) 2 2, .int .i64 0] (w.alloc (Obj.cells #[.int .u8 128, .int .u8 0] 5))
    fun e w' => e = .returned (.tuple #[.int .i64 0, .int .i64 0, .int .i64 20]) ∧ Below w.heap.size w w' := by
  have h := ReadNum_calls (some ⟨w.heap.size, 0, none⟩) 2 [128, 0] 0 _ (C_pre w [128, 0] [] 5 (by simp) _ rfl) (by simp) (by decide) (by simp) (by decide) (by decide)
  have e : tk [128, 0] 0 9 = (0, 0, 20) := by decide
  rw [e] at h
  exact h.mono (fun e w' hh => ⟨hh.1, by rw [hh.2]; exact below_alloc (Below.refl _ _) _⟩)
theorem aw4 (w : World) : Calls Tryd.prog 16 #[.slice (some ⟨w.heap.size, 0, none⟩) 1 1, .int .i64 0] (w.alloc (Obj.cells #[.int .u8 128] 5))
    fun e w' => e = .returned (.tuple #[.int .i64 0, .int .i64 0, .int .i64 3]) ∧ Below w.heap.size w w' := by
  have h := ReadNum_calls (some ⟨w.heap.size, 0, none⟩) 1 [128] 0 _ (C_pre w [128] [] 5 (by simp) _ rfl) (by simp) (by decide) (by simp) (by decide) (by decide)
  have e : tk [128] 0 9 = (0, 0, 3) := by decide
  rw [e] at h
  exact h.mono (fun e w' hh => ⟨hh.1, by rw [hh.2]; exact below_alloc (Below.refl _ _) _⟩)
theorem aw5 (w : World) : Calls Tryd.prog 12 #[.slice none 0 0, .int .i64 (-1)] w
    fun e w' => ∃ v, e = .returned v ∧ Kd.R (Kd.int .u8) 5 w' w.heap.size (fun _ => True) v [1] ∧ Below w.heap.size w w' := by
  have h := Int_calls none 0 [] (-1) w (Kd.C_nil _ _) (by simp) (by decide) (by decide)
  have e : ([] : List Int) ++ venc (zz (-1)).toNat = [1] := by
    rw [show (zz (-1)).toNat = 1 by rfl, venc_lt (by decide)]; rfl
  rw [e] at h
  exact h
theorem aw6 (w : World) : Calls Tryd.prog 12 #[.slice none 0 0, .int .i64 (-9223372036854775808)] w
    fun e w' => ∃ v, e = .returned v ∧ Kd.R (Kd.int .u8) 5 w' w.heap.size (fun _ => True) v [255, 255, 255, 255, 255, 255, 255, 255, 255, 1] ∧ Below w.heap.size w w' := by
  have h := Int_calls none 0 [] (-9223372036854775808) w (Kd.C_nil _ _) (by simp) (by decide) (by decide)
  have e : ([] : List Int) ++ venc (zz (-9223372036854775808)).toNat = [255, 255, 255, 255, 255, 255, 255, 255, 255, 1] := by
    rw [show (zz (-9223372036854775808)).toNat = 18446744073709551615 by rfl]
    iterate 9 rw [venc_ge (by decide)]
    rw [venc_lt (by decide)]; rfl
  rw [e] at h
  exact h
theorem aw7 (w : World) (A : Option Addr) (c : Nat) (hc : 10 ≤ c) (hC : Kd.C (Kd.int .u8) w A 10 [255, 255, 255, 255, 255, 255, 255, 255, 255, 1]) :
    Calls Tryd.prog 17 #[.slice A 10 c, .int .i64 0] w
    fun e w' => e = .returned (.tuple #[.int .i64 (-9223372036854775808), .int .i64 10, .int .i64 0]) ∧ w' = w := by
  have h := ReadInt_calls A c [255, 255, 255, 255, 255, 255, 255, 255, 255, 1] 0 w hC hc (by decide) (by simp) (by decide) (by decide)
  have e : tk [255, 255, 255, 255, 255, 255, 255, 255, 255, 1] 0 10 = (18446744073709551615, 10, 0) := by decide
  rw [e] at h
  exact h
theorem aw8 (w : World) : Calls Tryd.prog 23 #[.slice none 0 0, .string ⟨#[97, 98]⟩] w
    fun e w' => ∃ v, e = .returned (.tuple #[v, .int .i64 0]) ∧ Kd.R (Kd.int .u8) 5 w' w.heap.size (fun _ => True) v [2, 97, 98] ∧ Below w.heap.size w w' := by
  have h := Text_calls none 0 [] ⟨#[97, 98]⟩ w (Kd.C_nil _ _) (by simp) (by decide)
  have e : textF [] ⟨#[97, 98]⟩ = ([2, 97, 98], 0) := by
    rw [textF, if_neg (by decide), show (⟨#[97, 98]⟩ : ByteArray).size = 2 by rfl, venc_lt (by decide)]; rfl
  rw [e] at h
  exact h
theorem C_preM (w : World) (xs : List Int) (rest : List Value) (ty : TypeId) (fr : Nat × Nat) (hl : xs.length ≤ 9223372036854775807) (w1 : World) (hw : w1 = w.alloc (Obj.cells (xs.map (Value.int .u8) ++ rest).toArray ty fr)) :
    Kd.C (Kd.int .u8) w1 (some ⟨w.heap.size, 0, none⟩) xs.length xs := by
  subst hw
  refine C_of_cells hl (fun j x hx => ?_)
  have hj : j < xs.length := (List.getElem?_eq_some_iff.1 hx).1
  have h1 : (xs.map (Value.int .u8) ++ rest)[j]? = some (.int .u8 x) := by rw [List.getElem?_append_left (by simpa using hj), List.getElem?_map, hx]; rfl
  rw [World.cell?_alloc_mark]
  simpa using h1
/-- []byte of bytes: the same row, marked. -/
theorem conv_mark (w : World) (C : Array Value) (n : Nat) : (convert 23 23 (.slice (some ⟨w.heap.size, 0, none⟩) n n)).run Tryd.prog (w.alloc (Obj.cells C 5)) =
    .ok (.slice (some ⟨w.heap.size, 0, none⟩) n n) (w.alloc (Obj.cells C 5 (C.size, C.size + 1))) := by
  have hsh : (w.alloc (.cells C 5)).shape? w.heap.size = some (5, C.size) := by
    have : (w.alloc (.cells C 5)).heap[w.heap.size]? = some (.cells C 5) := by
      show (w.heap.push (.cells C 5))[w.heap.size]? = _
      simp
    unfold World.shape?
    rw [this]
  have hfr : (w.alloc (.cells C 5)).freeze ⟨w.heap.size, C.size, none⟩ 1 = w.alloc (.cells C 5 (C.size, C.size + 1)) := by
    have hm : ∀ (a : Array Obj) (x : Obj) (f : Obj → Obj), (a.push x).modify a.size f = a.push (f x) := by
      intro a x f
      apply Array.ext
      · simp
      · intro i h1 h2
        simp only [Array.getElem_modify, Array.getElem_push]
        by_cases h : a.size = i
        · subst h
          simp
        · have hi : i < a.size := by simp at h1; omega
          simp [h, hi]
    unfold World.freeze
    rw [if_neg (by decide)]
    show ({ w.alloc (.cells C 5) with heap := (w.heap.push (.cells C 5)).modify w.heap.size _ } : World) = _
    rw [hm]
    rfl
  simp [convert, run_underlying Tryd.underlying23, run_underlying Tryd.underlying5, markStringish, hsh]
  exact hfr
theorem aw9 (w : World) (hT : Tab w) : Calls Tryd.prog 14 #[.slice (some ⟨w.heap.size, 0, none⟩) 9 9] (w.alloc (Obj.cells #[.int .u8 49, .int .u8 50, .int .u8 51, .int .u8 52, .int .u8 53, .int .u8 54, .int .u8 55, .int .u8 56, .int .u8 57] 5 (9, 10)))
    fun e w' => e = .returned (.int .i64 3421780262) ∧ Below w.heap.size w w' := by
  have h := Sum_calls (some ⟨w.heap.size, 0, none⟩) 9 [49, 50, 51, 52, 53, 54, 55, 56, 57] _ (C_preM w [49, 50, 51, 52, 53, 54, 55, 56, 57] [] 5 (9, 10) (by simp) _ rfl) (by simp) (hT.below (below_alloc (Below.refl _ _) _))
  have e : sumF [49, 50, 51, 52, 53, 54, 55, 56, 57] = 3421780262 := by decide +kernel
  rw [e] at h
  exact h.mono (fun e w' hh => ⟨hh.1, by rw [hh.2]; exact below_alloc (Below.refl _ _) _⟩)

set_option maxHeartbeats 4000000 in
set_option maxRecDepth 100000 in
theorem awake_calls (w : World) (hT : Tab w) : Calls Tryd.prog 10 #[] w fun e w' => e = .returned (.bool true) ∧ Below w.heap.size w w' := by
  have HT := Aside0.mk hT
  clear hT
  go_enter Tryd.func10, Tryd.ntmps10
  go_wp2_with fail
  have HB := Aside0.mk (Below.refl w.heap.size w)
  ((with_reducible refine (aw1 _).mono ?_); rintro e_ W1 ⟨v1, rfl, ho_, hb_⟩)
  have HO1 := Aside0.mk (Kd.R_lower ho_ HB.out.size); clear ho_
  have HBn := Aside0.mk (below_step HB.out hb_); clear HB hb_; have HB := HBn; clear HBn
  go_wp2_with fail
  ((with_reducible refine (aw2 _).mono ?_); rintro e_ W2 ⟨rfl, hb_⟩)
  have HOn := Aside0.mk (Kd.R_below HO1.out hb_); clear HO1; have HO1 := HOn; clear HOn
  have HBn := Aside0.mk (below_step HB.out hb_); clear HB hb_; have HB := HBn; clear HBn
  go_wp2_with fail
  ((with_reducible refine (aw3 _).mono ?_); rintro e_ W3 ⟨rfl, hb_⟩)
  have HOn := Aside0.mk (Kd.R_below HO1.out hb_); clear HO1; have HO1 := HOn; clear HOn
  have HBn := Aside0.mk (below_step HB.out hb_); clear HB hb_; have HB := HBn; clear HBn
  go_wp2_with fail
  ((with_reducible refine (aw4 _).mono ?_); rintro e_ W4 ⟨rfl, hb_⟩)
  have HOn := Aside0.mk (Kd.R_below HO1.out hb_); clear HO1; have HO1 := HOn; clear HOn
  have HBn := Aside0.mk (below_step HB.out hb_); clear HB hb_; have HB := HBn; clear HBn
  go_wp2_with fail
  ((with_reducible refine (aw5 _).mono ?_); rintro e_ W5 ⟨v5, rfl, ho_, hb_⟩)
  have HOn := Aside0.mk (Kd.R_below HO1.out hb_); clear HO1; have HO1 := HOn; clear HOn
  have HO5 := Aside0.mk (Kd.R_lower ho_ HB.out.size); clear ho_
  have HBn := Aside0.mk (below_step HB.out hb_); clear HB hb_; have HB := HBn; clear HBn
  go_wp2_with fail
  ((with_reducible refine (aw6 _).mono ?_); rintro e_ W6 ⟨v6, rfl, ho_, hb_⟩)
  have HOn := Aside0.mk (Kd.R_below HO1.out hb_); clear HO1; have HO1 := HOn; clear HOn
  have HOn := Aside0.mk (Kd.R_below HO5.out hb_); clear HO5; have HO5 := HOn; clear HOn
  have HO6 := Aside0.mk (Kd.R_lower ho_ HB.out.size); clear ho_
  have HBn := Aside0.mk (below_step HB.out hb_); clear HB hb_; have HB := HBn; clear HBn
  obtain ⟨A6, c6, e6, hc6, hC6⟩ := Kd.R_reads HO6.out
  replace e6 : v6 = .slice A6 10 c6 := e6
  replace hc6 : 10 ≤ c6 := hc6
  replace hC6 : Kd.C (Kd.int .u8) W6 A6 10 [255, 255, 255, 255, 255, 255, 255, 255, 255, 1] := hC6
  subst e6
  go_wp2_with fail
  ((with_reducible refine (aw7 _ A6 c6 hc6 hC6).mono ?_); rintro e_ W7 ⟨rfl, rfl⟩)
  clear hC6
  go_wp2_with fail
  ((with_reducible refine (aw8 _).mono ?_); rintro e_ W8 ⟨v8, rfl, ho_, hb_⟩)
  have HOn := Aside0.mk (Kd.R_below HO1.out hb_); clear HO1; have HO1 := HOn; clear HOn
  have HOn := Aside0.mk (Kd.R_below HO5.out hb_); clear HO5; have HO5 := HOn; clear HOn
  have HOn := Aside0.mk (Kd.R_below HO6.out hb_); clear HO6; have HO6 := HOn; clear HOn
  have HO8 := Aside0.mk (Kd.R_lower ho_ HB.out.size); clear ho_
  have HBn := Aside0.mk (below_step HB.out hb_); clear HB hb_; have HB := HBn; clear HBn
  obtain ⟨A1, c1, e1, hc1, hC1⟩ := Kd.R_reads HO1.out
  obtain ⟨A5, c5, e5, hc5, hC5⟩ := Kd.R_reads HO5.out
  obtain ⟨A8, c8, e8, hc8, hC8⟩ := Kd.R_reads HO8.out
  replace e1 : v1 = .slice A1 2 c1 := e1
  replace e5 : v5 = .slice A5 1 c5 := e5
  replace e8 : v8 = .slice A8 3 c8 := e8
  subst e1 e5 e8
  clear HO1 HO5 HO6 HO8 hc1 hc5 hc8 hc6
  have s1 := Kd.C_string (P := Tryd.prog) (c := c1) Tryd.underlying23 Tryd.underlying5 Tryd.underlying9 hC1
  have s5 := Kd.C_string (P := Tryd.prog) (c := c5) Tryd.underlying23 Tryd.underlying5 Tryd.underlying9 hC5
  have s8 := Kd.C_string (P := Tryd.prog) (c := c8) Tryd.underlying23 Tryd.underlying5 Tryd.underlying9 hC8
  rw [show strOfNums [172, 2] = (⟨#[172, 2]⟩ : ByteArray) by rfl] at s1
  rw [show strOfNums [1] = (⟨#[1]⟩ : ByteArray) by rfl] at s5
  rw [show strOfNums [2, 97, 98] = (⟨#[2, 97, 98]⟩ : ByteArray) by rfl] at s8
  replace s1 : (convert 23 9 (.slice A1 2 c1)).run Tryd.prog W8 = .ok (.string ⟨#[172, 2]⟩) W8 := s1
  replace s5 : (convert 23 9 (.slice A5 1 c5)).run Tryd.prog W8 = .ok (.string ⟨#[1]⟩) W8 := s5
  replace s8 : (convert 23 9 (.slice A8 3 c8)).run Tryd.prog W8 = .ok (.string ⟨#[2, 97, 98]⟩) W8 := s8
  clear hC1 hC5 hC8
  have k9 := conv_mark W8 #[.int .u8 49, .int .u8 50, .int .u8 51, .int .u8 52, .int .u8 53, .int .u8 54, .int .u8 55, .int .u8 56, .int .u8 57] 9
  replace k9 : (convert 23 23 (.slice (some ⟨W8.heap.size, 0, none⟩) 9 9)).run Tryd.prog (W8.alloc (Obj.cells #[.int .u8 49, .int .u8 50, .int .u8 51, .int .u8 52, .int .u8 53, .int .u8 54, .int .u8 55, .int .u8 56, .int .u8 57] 5)) = .ok (.slice (some ⟨W8.heap.size, 0, none⟩) 9 9) (W8.alloc (Obj.cells #[.int .u8 49, .int .u8 50, .int .u8 51, .int .u8 52, .int .u8 53, .int .u8 54, .int .u8 55, .int .u8 56, .int .u8 57] 5 (9, 10))) := k9
  have HT8 := Aside0.mk (HT.out.below HB.out)
  go_wp2_with fail
  ((with_reducible refine (aw9 _ HT8.out).mono ?_); rintro e_ W9 ⟨rfl, hb_⟩)
  have HBn := Aside0.mk (below_step HB.out hb_); clear HB hb_; have HB := HBn; clear HBn
  go_wp2
  go_ret
  exact ⟨rfl, HB.out⟩
end Go.Proofs.YtcgjaobbjeagoaaDoor
