/- Parse, behind its first tests. -/
import Derived.Test.YtklkikndcieojaaDoorFixJ
namespace Go.Proofs.YtklkikndcieojaaDoor
open Go.RowKit Go.Proofs.YtklkikndcieojaaDoorW.PrintWords Go.Proofs.YtklkikndcieojaaDoorW.PrintLast Go.Proofs.YtklkikndcieojaaDoorW.PrintMore
set_option linter.unusedVariables false
set_option linter.unusedSimpArgs false
/-! ### plain -/
def PS (w0 : Int) (m : Nat) (v0 : Int) (j : Nat) (x : Int) (l : List Int) : Prop :=
  ∃ F, x = w0 * 2 ^ j + F ∧ 0 ≤ F ∧ F < 2 ^ j ∧ F * 10 ^ m + valD l = v0 * 2 ^ j ∧ l.length = m ∧ ∀ d ∈ l, 0 ≤ d ∧ d ≤ 9
theorem two_pow_pos (j : Nat) : (0 : Int) < 2 ^ j := Int.pow_pos (by decide)
theorem two_pow_le {j k : Nat} (h : j ≤ k) : (2 : Int) ^ j ≤ 2 ^ k := by
  have := Nat.pow_le_pow_right (n := 2) (by decide) h
  exact_mod_cast this
theorem PS.bound {w0 : Int} {m : Nat} {v0 : Int} {j : Nat} {x : Int} {l : List Int} (h : PS w0 m v0 j x l) (h0 : 0 ≤ w0) (h1 : w0 ≤ 2147483647) (hj : j ≤ 31) : 0 ≤ x ∧ x < 4611686018427387904 := by
  obtain ⟨F, hx, hF0, hF1, _⟩ := h
  have hp := two_pow_pos j
  have hp2 := two_pow_le hj
  have e31 : (2 : Int) ^ 31 = 2147483648 := by decide
  rw [e31] at hp2
  generalize (2 : Int) ^ j = p at hx hF1 hp hp2
  have hm := Int.mul_nonneg h0 (Int.le_of_lt hp)
  have hm2 : w0 * p ≤ 2147483647 * p := Int.mul_le_mul_of_nonneg_right h1 (by omega)
  omega
theorem PS.step {w0 : Int} {m : Nat} {v0 : Int} {j : Nat} {x : Int} {l : List Int} (h : PS w0 m v0 j x l) : PS w0 m v0 (j + 1) (x * 2 + (dblA l 0).1) (dblA l 0).2 := by
  obtain ⟨F, hx, hF0, hF1, he, hl, hd⟩ := h
  have hc := dblA_c (c := 0) (by omega) hd
  have hv := dblA_val 0 l
  rw [hl] at hv
  refine ⟨2 * F + (dblA l 0).1, ?_, by omega, ?_, ?_, by rw [dblA_len, hl], dblA_dig (by omega) hd⟩
  · rw [hx, Int.pow_succ]; grind
  · rw [Int.pow_succ]; omega
  · rw [Int.pow_succ]
    have e1 : (2 * F + (dblA l 0).1) * 10 ^ m + valD (dblA l 0).2 = 2 * (F * 10 ^ m) + ((dblA l 0).1 * 10 ^ m + valD (dblA l 0).2) := by grind
    rw [e1, ← hv]
    have e2 : v0 * (2 ^ j * 2) = 2 * (v0 * 2 ^ j) := by grind
    rw [e2, ← he]
    omega
theorem PS.fin {w0 : Int} {m : Nat} {v0 : Int} {x : Int} {l : List Int} (h : PS w0 m v0 32 x l) (h0 : 0 ≤ w0) (h1 : w0 ≤ 2147483647) : x = w0 * 4294967296 + v0 * 4294967296 / 10 ^ m ∧ 0 ≤ x ∧ x ≤ 9223372036854775807 := by
  obtain ⟨F, hx, hF0, hF1, he, hl, hd⟩ := h
  have e32 : (2 : Int) ^ 32 = 4294967296 := by decide
  rw [e32] at hx hF1 he
  have hv := valD_lt hd
  rw [hl] at hv
  have hq : v0 * 4294967296 / 10 ^ m = F := by
    rw [← he]
    have hp : (0 : Int) < 10 ^ m := Int.pow_pos (by decide)
    rw [Int.add_comm, Int.add_mul_ediv_right _ _ (by omega), Int.ediv_eq_zero_of_lt hv.1 hv.2]
    omega
  rw [hq]
  omega
theorem PS.row {w0 : Int} {m : Nat} {v0 : Int} {j : Nat} {x : Int} {l : List Int} (h : PS w0 m v0 j x l) : l.length = m ∧ ∀ d ∈ l, 0 ≤ d ∧ d ≤ 9 := by
  obtain ⟨F, _, _, _, _, h1, h2⟩ := h
  exact ⟨h1, h2⟩
def subZ (i : Nat) (l : List Int) : List Int := (l.take i).map (· - 48) ++ l.drop i
theorem subZ_zero (l : List Int) : subZ 0 l = l := by simp [subZ]
theorem subZ_all (l : List Int) : subZ l.length l = l.map (· - 48) := by simp [subZ]
theorem subZ_len (i : Nat) (l : List Int) : (subZ i l).length = l.length := by simp [subZ]; omega
theorem subZ_rd {i : Nat} {l : List Int} (h : i < l.length) : rd (subZ i l) (i : Int) = rd l (i : Int) := by
  rw [rd_get' (by rw [subZ_len]; exact h), rd_get' h]
  unfold subZ
  rw [List.getElem_append_right (by simp; omega)]
  have e4 : i + (i - min i l.length) = i := by omega
  simp [e4]
theorem subZ_set {i : Nat} {l : List Int} (h : i < l.length) : (subZ i l).set i (rd l (i : Int) - 48) = subZ (i + 1) l := by
  unfold subZ
  rw [List.set_append, if_neg (by simp; omega)]
  have e : i - ((l.take i).map (· - 48)).length = 0 := by simp; omega
  rw [e, rd_get' h]
  have e2 : l.drop i = l[i] :: l.drop (i + 1) := List.drop_eq_getElem_cons h
  have e3 : l.take (i + 1) = l.take i ++ [l[i]] := (List.take_append_getElem h).symm
  rw [e2, e3]
  simp only [List.set_cons_zero, List.map_append, List.map_cons, List.map_nil, List.append_assoc, List.cons_append, List.nil_append]
theorem PS.start {b : ByteArray} (hd : Digs (bytesOf b)) (w0 : Int) : PS w0 b.size (numV 0 (bytesOf b)) 0 w0 ((bytesOf b).map (· - 48)) := by
  refine ⟨0, by simp, by omega, by decide, ?_, by simp [bytesOf], ?_⟩
  · rw [valD_numV]; simp
  · intro d hm
    obtain ⟨c, hc, rfl⟩ := List.mem_map.1 hm
    have := hd c hc
    omega
theorem numV_le10 {l : List Int} (hd : Digs l) : 0 ≤ numV 0 l := numV_ge l 0 hd (by omega)

set_option maxHeartbeats 8000000 in
set_option maxRecDepth 100000 in
theorem Parse_bad2 (s : ByteArray) (k : Nat) (w : World) (hs : s.size ≤ 140737488355328) (h : Lib.indexByte s.data.toList 46 = (k : Int)) (a b : ByteArray) (ha : a = s.extract 0 k) (hb : b = s.extract (k + 1) s.size)
    (hg1 : 1 ≤ a.size) (hg2 : a.size ≤ 10) (hg3 : 1 ≤ b.size) (hg4 : b.size ≤ 32) (hg5 : ¬ (Bt a 0 = 48 ∧ 1 < a.size)) (hnd : ¬ Digs (bytesOf (a ++ b))) :
    Calls Tryd.prog 38 #[.string s] w (ParseBad w) := by
  have hc := Cut_some s k w hs h
  rw [← ha, ← hb] at hc
  have hsz : a.size + b.size ≤ 9223372036854775807 := by omega
  have hsz2 : (a ++ b).size ≤ 9223372036854775807 := by rw [ByteArray.size_append]; exact hsz
  clear ha hb h hs
  have d1 : decide ((a.size : Int) < 1) = false := decide_eq_false (by omega)
  have d1n : decide (a.size < 1) = false := decide_eq_false (by omega)
  have d2 : decide (10 < (a.size : Int)) = false := decide_eq_false (by omega)
  have d2n : decide (10 < a.size) = false := decide_eq_false (by omega)
  have d3 : decide ((b.size : Int) < 1) = false := decide_eq_false (by omega)
  have d3n : decide (b.size < 1) = false := decide_eq_false (by omega)
  have d4 : decide (32 < (b.size : Int)) = false := decide_eq_false (by omega)
  have d4n : decide (32 < b.size) = false := decide_eq_false (by omega)
  have hx5 : ∀ h : 0 < a.size, ((a[0]'h).toNat : Int) = Bt a 0 := Go.Proofs.YtklkikndcieojaaDoorW.PrintWords.bt_at a 0
  have q5 : (0 < a.size) = True := eq_true (by omega)
  have qi5 : (0 < (a.size : Int)) = True := eq_true (by omega)
  by_cases c5 : Bt a 0 = 48
  · have d5 : (Bt a 0 == 48) = true := beq_iff_eq.2 c5
    have d6 : decide (1 < (a.size : Int)) = false := decide_eq_false (by omega)
    have d6n : decide (1 < a.size) = false := decide_eq_false (by omega)
    clear c5
    go_enter Tryd.func38, Tryd.ntmps38
    go_wp2
    refine wp_scope_fwd 0 rfl ?_
    go_wp2_with fail
    ((with_reducible refine hc.mono ?_); rintro e_ W1 ⟨rfl, n1, rfl⟩)
    clear hc
    have hT := Trim_no (a ++ b) (w.drewN n1) hsz2 hnd
    clear hsz2 hg1 hg2 hg3 hg4 hg5 hnd
    go_wp2_with fail
    ((with_reducible refine hT.mono ?_); rintro e_ W2 ⟨t, rfl, ht, hb⟩)
    have HB := Aside0.mk hb
    clear hb hT
    have ht2 : ¬ (t.toList = []) := by simpa using ht
    have ht3 : t.toList.isEmpty = false := by simpa using ht2
    go_wp2
    go_step3
    refine ⟨rfl, ?_⟩
    go_wp2
    (try simp only [Exit.jump])
    go_ret2
    exact ⟨rfl, below_step (pw_below_drewN (Below.refl _ _) _) HB.out⟩
  · have d5 : (Bt a 0 == 48) = false := beq_eq_false_iff_ne.2 c5
    clear c5
    go_enter Tryd.func38, Tryd.ntmps38
    go_wp2
    refine wp_scope_fwd 0 rfl ?_
    go_wp2_with fail
    ((with_reducible refine hc.mono ?_); rintro e_ W1 ⟨rfl, n1, rfl⟩)
    clear hc
    have hT := Trim_no (a ++ b) (w.drewN n1) hsz2 hnd
    clear hsz2 hg1 hg2 hg3 hg4 hg5 hnd
    go_wp2_with fail
    ((with_reducible refine hT.mono ?_); rintro e_ W2 ⟨t, rfl, ht, hb⟩)
    have HB := Aside0.mk hb
    clear hb hT
    have ht2 : ¬ (t.toList = []) := by simpa using ht
    have ht3 : t.toList.isEmpty = false := by simpa using ht2
    go_wp2
    go_step3
    refine ⟨rfl, ?_⟩
    go_wp2
    (try simp only [Exit.jump])
    go_ret2
    exact ⟨rfl, below_step (pw_below_drewN (Below.refl _ _) _) HB.out⟩
set_option maxHeartbeats 8000000 in
set_option maxRecDepth 100000 in
theorem Parse_bad3 (s : ByteArray) (k : Nat) (w : World) (hs : s.size ≤ 140737488355328) (h : Lib.indexByte s.data.toList 46 = (k : Int)) (a b : ByteArray) (ha : a = s.extract 0 k) (hb : b = s.extract (k + 1) s.size)
    (hg1 : 1 ≤ a.size) (hg2 : a.size ≤ 10) (hg3 : 1 ≤ b.size) (hg4 : b.size ≤ 32) (hg5 : ¬ (Bt a 0 = 48 ∧ 1 < a.size)) (hW : FixW w) (hdd : Digs (bytesOf (a ++ b))) (hval : 2147483647 < numV 0 (bytesOf a)) :
    Calls Tryd.prog 38 #[.string s] w (ParseBad w) := by
  have hc := Cut_some s k w hs h
  rw [← ha, ← hb] at hc
  have hsz : a.size + b.size ≤ 9223372036854775807 := by omega
  have hsz2 : (a ++ b).size ≤ 9223372036854775807 := by rw [ByteArray.size_append]; exact hsz
  clear ha hb h hs
  have d1 : decide ((a.size : Int) < 1) = false := decide_eq_false (by omega)
  have d1n : decide (a.size < 1) = false := decide_eq_false (by omega)
  have d2 : decide (10 < (a.size : Int)) = false := decide_eq_false (by omega)
  have d2n : decide (10 < a.size) = false := decide_eq_false (by omega)
  have d3 : decide ((b.size : Int) < 1) = false := decide_eq_false (by omega)
  have d3n : decide (b.size < 1) = false := decide_eq_false (by omega)
  have d4 : decide (32 < (b.size : Int)) = false := decide_eq_false (by omega)
  have d4n : decide (32 < b.size) = false := decide_eq_false (by omega)
  have hx5 : ∀ h : 0 < a.size, ((a[0]'h).toNat : Int) = Bt a 0 := Go.Proofs.YtklkikndcieojaaDoorW.PrintWords.bt_at a 0
  have q5 : (0 < a.size) = True := eq_true (by omega)
  have qi5 : (0 < (a.size : Int)) = True := eq_true (by omega)
  by_cases c5 : Bt a 0 = 48
  · have d5 : (Bt a 0 == 48) = true := beq_iff_eq.2 c5
    have d6 : decide (1 < (a.size : Int)) = false := decide_eq_false (by omega)
    have d6n : decide (1 < a.size) = false := decide_eq_false (by omega)
    clear c5
    go_enter Tryd.func38, Tryd.ntmps38
    go_wp2
    refine wp_scope_fwd 0 rfl ?_
    go_wp2_with fail
    ((with_reducible refine hc.mono ?_); rintro e_ W1 ⟨rfl, n1, rfl⟩)
    clear hc
    have hT := Trim_yes (a ++ b) (w.drewN n1) hsz2 hdd
    have HDA := Aside0.mk ((digs_append a b).1 hdd).1; have HDB := Aside0.mk ((digs_append a b).1 hdd).2
    have HG1 := Aside0.mk hg1; have HG2 := Aside0.mk hg2; have HG3 := Aside0.mk hg3; have HG4 := Aside0.mk hg4
    have HV := Aside0.mk hval; have HW := Aside0.mk (FixW.below hW (pw_below_drewN (Below.refl _ _) n1))
    clear hsz2 hg1 hg2 hg3 hg4 hg5 hdd hval hW
    go_wp2_with fail
    ((with_reducible refine hT.mono ?_); rintro e_ W2 ⟨rfl, hb⟩)
    have HB2 := Aside0.mk hb
    clear hb hT
    have hP := ParseUint_calls a 31 2147483647 (.inl ⟨rfl, rfl⟩) W2 (HW.out.below HB2.out) HDA.out HG1.out (by have := HG2.out; omega)
    go_wp2_with fail
    ((with_reducible refine hP.mono ?_); rintro e_ W3 (⟨h1, _, _⟩ | ⟨_, t, p, rfl, hb⟩))
    · have := HV.out; omega
    have HB3 := Aside0.mk hb
    clear hb hP
    go_wp2
    go_step3
    refine ⟨rfl, ?_⟩
    go_wp2
    (try simp only [Exit.jump])
    go_ret2
    exact ⟨rfl, below_step (below_step (pw_below_drewN (Below.refl _ _) _) HB2.out) HB3.out⟩
  · have d5 : (Bt a 0 == 48) = false := beq_eq_false_iff_ne.2 c5
    clear c5
    go_enter Tryd.func38, Tryd.ntmps38
    go_wp2
    refine wp_scope_fwd 0 rfl ?_
    go_wp2_with fail
    ((with_reducible refine hc.mono ?_); rintro e_ W1 ⟨rfl, n1, rfl⟩)
    clear hc
    have hT := Trim_yes (a ++ b) (w.drewN n1) hsz2 hdd
    have HDA := Aside0.mk ((digs_append a b).1 hdd).1; have HDB := Aside0.mk ((digs_append a b).1 hdd).2
    have HG1 := Aside0.mk hg1; have HG2 := Aside0.mk hg2; have HG3 := Aside0.mk hg3; have HG4 := Aside0.mk hg4
    have HV := Aside0.mk hval; have HW := Aside0.mk (FixW.below hW (pw_below_drewN (Below.refl _ _) n1))
    clear hsz2 hg1 hg2 hg3 hg4 hg5 hdd hval hW
    go_wp2_with fail
    ((with_reducible refine hT.mono ?_); rintro e_ W2 ⟨rfl, hb⟩)
    have HB2 := Aside0.mk hb
    clear hb hT
    have hP := ParseUint_calls a 31 2147483647 (.inl ⟨rfl, rfl⟩) W2 (HW.out.below HB2.out) HDA.out HG1.out (by have := HG2.out; omega)
    go_wp2_with fail
    ((with_reducible refine hP.mono ?_); rintro e_ W3 (⟨h1, _, _⟩ | ⟨_, t, p, rfl, hb⟩))
    · have := HV.out; omega
    have HB3 := Aside0.mk hb
    clear hb hP
    go_wp2
    go_step3
    refine ⟨rfl, ?_⟩
    go_wp2
    (try simp only [Exit.jump])
    go_ret2
    exact ⟨rfl, below_step (below_step (pw_below_drewN (Below.refl _ _) _) HB2.out) HB3.out⟩
set_option maxHeartbeats 8000000 in
set_option maxRecDepth 100000 in
theorem Parse_good (s : ByteArray) (k : Nat) (w : World) (hs : s.size ≤ 140737488355328) (h : Lib.indexByte s.data.toList 46 = (k : Int)) (a b : ByteArray) (ha : a = s.extract 0 k) (hb : b = s.extract (k + 1) s.size)
    (hg1 : 1 ≤ a.size) (hg2 : a.size ≤ 10) (hg3 : 1 ≤ b.size) (hg4 : b.size ≤ 32) (hg5 : ¬ (Bt a 0 = 48 ∧ 1 < a.size)) (hdd : Digs (bytesOf (a ++ b))) (hval : numV 0 (bytesOf a) ≤ 2147483647) :
    Calls Tryd.prog 38 #[.string s] w fun e w' => e = .returned (.tuple #[.int .i64 (numV 0 (bytesOf a) * 4294967296 + fracF b), .int .i64 0]) ∧ Below w.heap.size w w' := by
  have kb := fun W => print_bytes (P := Tryd.prog) 9 54 5 Tryd.underlying9 Tryd.underlying54 Tryd.underlying5 b W
  have hc := Cut_some s k w hs h
  rw [← ha, ← hb] at hc
  have hsz : a.size + b.size ≤ 9223372036854775807 := by omega
  have hsz2 : (a ++ b).size ≤ 9223372036854775807 := by rw [ByteArray.size_append]; exact hsz
  clear ha hb h hs
  have d1 : decide ((a.size : Int) < 1) = false := decide_eq_false (by omega)
  have d1n : decide (a.size < 1) = false := decide_eq_false (by omega)
  have d2 : decide (10 < (a.size : Int)) = false := decide_eq_false (by omega)
  have d2n : decide (10 < a.size) = false := decide_eq_false (by omega)
  have d3 : decide ((b.size : Int) < 1) = false := decide_eq_false (by omega)
  have d3n : decide (b.size < 1) = false := decide_eq_false (by omega)
  have d4 : decide (32 < (b.size : Int)) = false := decide_eq_false (by omega)
  have d4n : decide (32 < b.size) = false := decide_eq_false (by omega)
  have hx5 : ∀ h : 0 < a.size, ((a[0]'h).toNat : Int) = Bt a 0 := Go.Proofs.YtklkikndcieojaaDoorW.PrintWords.bt_at a 0
  have q5 : (0 < a.size) = True := eq_true (by omega)
  have qi5 : (0 < (a.size : Int)) = True := eq_true (by omega)
  by_cases c5 : Bt a 0 = 48
  · have d5 : (Bt a 0 == 48) = true := beq_iff_eq.2 c5
    have d6 : decide (1 < (a.size : Int)) = false := decide_eq_false (by omega)
    have d6n : decide (1 < a.size) = false := decide_eq_false (by omega)
    clear c5
    go_enter Tryd.func38, Tryd.ntmps38
    go_wp2
    refine wp_scope_fwd 0 rfl ?_
    go_wp2_with fail
    ((with_reducible refine hc.mono ?_); rintro e_ W1 ⟨rfl, n1, rfl⟩)
    clear hc
    have hT := Trim_yes (a ++ b) (w.drewN n1) hsz2 hdd
    have HDA := Aside0.mk ((digs_append a b).1 hdd).1; have HDB := Aside0.mk ((digs_append a b).1 hdd).2
    have HG1 := Aside0.mk hg1; have HG2 := Aside0.mk hg2; have HG3 := Aside0.mk hg3; have HG4 := Aside0.mk hg4
    have HV := Aside0.mk hval
    clear hsz2 hg1 hg2 hg3 hg4 hg5 hdd hval
    go_wp2_with fail
    ((with_reducible refine hT.mono ?_); rintro e_ W2 ⟨rfl, hb⟩)
    have HB2 := Aside0.mk hb
    clear hb hT
    have hP := ParseUint_ok a 31 2147483647 (.inl ⟨rfl, rfl⟩) W2 HDA.out HG1.out (by have := HG2.out; omega) HV.out
    go_wp2_with fail
    ((with_reducible refine hP.mono ?_); rintro e_ W3 ⟨rfl, hb⟩)
    have HB3 := Aside0.mk (below_step (below_step (pw_below_drewN (Below.refl _ _) _) HB2.out) hb)
    clear hb hP
    have hA0 := numV_le10 HDA.out
    obtain ⟨w0, hw0⟩ : ∃ w0, w0 = numV 0 (bytesOf a) := ⟨_, rfl⟩
    have HWW := Aside0.mk hw0
    rw [← hw0] at hA0 HV ⊢
    have HA0 := Aside0.mk hA0
    have HDRb := Aside0.mk (DR.bytes W3 b (by have := HG4.out; omega) (base := w.heap.size) HB3.out.size)
    have HBb := Aside0.mk (bytes_below HB3.out HB3.out.size 5 b)
    have hkb := kb W3
    have HST := Aside0.mk (PS.start HDB.out w0)
    have HLB : Aside0 ((bytesOf b).length = b.size) := ⟨by simp [bytesOf]⟩
    clear hA0 kb hw0 d1 d1n d2 d2n d3 d3n d4 d4n hx5 q5 qi5 hsz
    obtain ⟨W4, hW4⟩ : ∃ W4, W4 = Lib.bytesWorld W3 5 b := ⟨_, rfl⟩
    rw [← hW4] at HDRb HBb hkb
    clear hW4
    obtain ⟨l, hl⟩ : ∃ l, l = bytesOf b := ⟨_, rfl⟩
    obtain ⟨m, hm⟩ : ∃ m, m = b.size := ⟨_, rfl⟩
    obtain ⟨cap, hcap⟩ : ∃ c, c = grownCap W3 b.size 0 5 := ⟨_, rfl⟩
    rw [← hcap, ← hm] at HDRb hkb
    rw [← hm] at HST HLB HG3 HG4
    rw [← hl] at HST HDRb HLB HDB
    have HMM := Aside0.mk hm; have HLL := Aside0.mk hl
    clear hcap hm hl
    have hm1 := HG3.out; have hm2 := HG4.out
    go_wp2
    go_loopg [65] (m + 1) (fun kq v65 w' => ∃ i : Nat, v65 = .int .i64 i ∧ i + kq = m + 1 ∧ i ≤ m ∧ Aside0 (DR w' w.heap.size (fun _ => True) (.slice (some ⟨W3.heap.size, 0, none⟩) m cap) (subZ i l)) ∧ Aside0 (Below w.heap.size w w'))
    case atStart => exact ⟨0, rfl, by omega, by omega, ⟨by rw [subZ_zero]; exact HDRb.out.mono (fun _ _ => trivial)⟩, HBb⟩
    case round =>
      obtain ⟨i, rfl, hik, him, HR, HB⟩ := hrel
      by_cases hi : i < m
      · have di : decide (i < m) = true := decide_eq_true hi
        have dii : decide ((i : Int) < (m : Int)) = true := decide_eq_true (by omega)
        cases gk with
        | zero => omega
        | succ k1 =>
          have hil : i < l.length := by have := HLB.out; omega
          obtain ⟨hx, hf⟩ := DR.celln 0 HR.out (i : Int) (by omega) (by omega)
          have hdg := HDB.out (rd l (i : Int)) (by rw [rd_get' hil]; exact List.getElem_mem hil)
          rw [Int.toNat_natCast, subZ_rd hil] at hx
          rw [Int.toNat_natCast] at hf
          have hput := DR.putn HR.out (i : Int) (rd l (i : Int) - 48)
          rw [Int.toNat_natCast, subZ_set hil] at hput
          have hW3 := HB3.out.size
          have hbs : Below w.heap.size w (wr.setCell ⟨W3.heap.size, i, none⟩ (.int .u8 (rd l (i : Int) - 48))) := below_set HB.out hW3
          have HPUT := Aside0.mk hput; have HBS := Aside0.mk hbs
          clear hput hbs hW3 HR HB
          generalize rd l (i : Int) = c at hx hdg HPUT HBS
          have hwr : IntKind.u8.wrap (c - 48) = c - 48 := by rw [IntKind.wrap_u8]; omega
          go_wp2
          go_roundg k1
          case measure => omega
          case rel => exact ⟨i + 1, by go_num, by omega, by omega, HPUT, HBS⟩
      · have di : decide (i < m) = false := decide_eq_false hi
        have dii : decide ((i : Int) < (m : Int)) = false := decide_eq_false (by omega)
        cases gk with
        | succ k1 =>
          have hsub : subZ i l = l.map (· - 48) := by
            have e : i = l.length := by have := HLB.out; omega
            rw [e]; exact subZ_all l
          rw [hsub] at HR
          clear hsub
          have HRS := HR; have HBS := HB
          clear HR HB
          go_wp2
          go_loopg [4, 75] 33 (fun kq v4 v75 w' => ∃ (j : Nat) (x : Int) (r : List Int), v4 = .int .u64 x ∧ v75 = .int .i64 j ∧ j + kq = 33 ∧ j ≤ 32 ∧ Aside0 (PS w0 m (numV 0 l) j x r) ∧ Aside0 (DR w' w.heap.size (fun _ => True) (.slice (some ⟨W3.heap.size, 0, none⟩) m cap) r) ∧ Aside0 (Below w.heap.size w w'))
          case atStart => exact ⟨0, w0, l.map (· - 48), rfl, rfl, by omega, by omega, HST, HRS, HBS⟩
          case round =>
            obtain ⟨j, x, r, rfl, rfl, hjk, hj32, HS, HR, HB⟩ := hrel
            by_cases hj : j < 32
            · have dj : decide (j < 32) = true := decide_eq_true hj
              have djj : decide ((j : Int) < 32) = true := decide_eq_true (by omega)
              cases gk with
              | zero => omega
              | succ k2 =>
                have hbd := PS.bound HS.out HA0.out HV.out (by omega)
                have hst := PS.step HS.out
                obtain ⟨hrl, hrd⟩ := PS.row HS.out
                have hcc := dblA_c (c := 0) (by omega) hrd
                have hD := PTk.fix_double.calls (r.length + 1) (fun _ => True) (.slice (some ⟨W3.heap.size, 0, none⟩) m cap) r (dblA r 0).1 (dblA r 0).2 w wr HB.out HR.out (dbl_f r (by omega) hrd) hrd
                have HST2 := Aside0.mk hst
                clear hst hrl hrd HS HR HB
                generalize (dblA r 0).1 = c1 at hcc hD HST2
                generalize (dblA r 0).2 = r2 at hD HST2
                have hor := or_u64 1 (x * 2) c1 2 (by decide) (by omega) (by omega) (by omega) hcc.1 (by omega) (by omega)
                have hw1 : IntKind.u64.wrap (x * 2 ^ 1) = x * 2 := by rw [wrap_u64]; omega
                have hw2 : IntKind.u64.wrap (x * 2) = x * 2 := by rw [wrap_u64]; omega
                go_wp2_with fail
                ((with_reducible refine hD.mono ?_); rintro e_ W5 ⟨rfl, hdr, hb, _⟩)
                have HDR := Aside0.mk (hdr.mono (ok' := fun _ => True) (fun _ _ => trivial)); have HB5 := Aside0.mk hb
                clear hdr hb hD
                go_wp2
                go_roundg k2
                case measure => omega
                case rel => exact ⟨j + 1, x * 2 + c1, r2, by first | rfl | (rw [hor]), by go_num, by omega, by omega, HST2, HDR, HB5⟩
            · have dj : decide (j < 32) = false := decide_eq_false hj
              have djj : decide ((j : Int) < 32) = false := decide_eq_false (by omega)
              have hj2 : j = 32 := by omega
              subst hj2
              obtain ⟨hx, hx0, hx1⟩ := PS.fin HS.out HA0.out HV.out
              have hwi : IntKind.i64.wrap x = x := by rw [wrap_i64]; omega
              have HX := Aside0.mk hx
              clear hx HS HR
              go_wp2
              (try simp only [Exit.jump])
              go_ret2
              exact ⟨by rw [HX.out]; unfold fracF; rw [← HMM.out, ← HLL.out, ← HWW.out]; rfl, HB.out⟩
        | zero => omega
  · have d5 : (Bt a 0 == 48) = false := beq_eq_false_iff_ne.2 c5
    clear c5
    go_enter Tryd.func38, Tryd.ntmps38
    go_wp2
    refine wp_scope_fwd 0 rfl ?_
    go_wp2_with fail
    ((with_reducible refine hc.mono ?_); rintro e_ W1 ⟨rfl, n1, rfl⟩)
    clear hc
    have hT := Trim_yes (a ++ b) (w.drewN n1) hsz2 hdd
    have HDA := Aside0.mk ((digs_append a b).1 hdd).1; have HDB := Aside0.mk ((digs_append a b).1 hdd).2
    have HG1 := Aside0.mk hg1; have HG2 := Aside0.mk hg2; have HG3 := Aside0.mk hg3; have HG4 := Aside0.mk hg4
    have HV := Aside0.mk hval
    clear hsz2 hg1 hg2 hg3 hg4 hg5 hdd hval
    go_wp2_with fail
    ((with_reducible refine hT.mono ?_); rintro e_ W2 ⟨rfl, hb⟩)
    have HB2 := Aside0.mk hb
    clear hb hT
    have hP := ParseUint_ok a 31 2147483647 (.inl ⟨rfl, rfl⟩) W2 HDA.out HG1.out (by have := HG2.out; omega) HV.out
    go_wp2_with fail
    ((with_reducible refine hP.mono ?_); rintro e_ W3 ⟨rfl, hb⟩)
    have HB3 := Aside0.mk (below_step (below_step (pw_below_drewN (Below.refl _ _) _) HB2.out) hb)
    clear hb hP
    have hA0 := numV_le10 HDA.out
    obtain ⟨w0, hw0⟩ : ∃ w0, w0 = numV 0 (bytesOf a) := ⟨_, rfl⟩
    have HWW := Aside0.mk hw0
    rw [← hw0] at hA0 HV ⊢
    have HA0 := Aside0.mk hA0
    have HDRb := Aside0.mk (DR.bytes W3 b (by have := HG4.out; omega) (base := w.heap.size) HB3.out.size)
    have HBb := Aside0.mk (bytes_below HB3.out HB3.out.size 5 b)
    have hkb := kb W3
    have HST := Aside0.mk (PS.start HDB.out w0)
    have HLB : Aside0 ((bytesOf b).length = b.size) := ⟨by simp [bytesOf]⟩
    clear hA0 kb hw0 d1 d1n d2 d2n d3 d3n d4 d4n hx5 q5 qi5 hsz
    obtain ⟨W4, hW4⟩ : ∃ W4, W4 = Lib.bytesWorld W3 5 b := ⟨_, rfl⟩
    rw [← hW4] at HDRb HBb hkb
    clear hW4
    obtain ⟨l, hl⟩ : ∃ l, l = bytesOf b := ⟨_, rfl⟩
    obtain ⟨m, hm⟩ : ∃ m, m = b.size := ⟨_, rfl⟩
    obtain ⟨cap, hcap⟩ : ∃ c, c = grownCap W3 b.size 0 5 := ⟨_, rfl⟩
    rw [← hcap, ← hm] at HDRb hkb
    rw [← hm] at HST HLB HG3 HG4
    rw [← hl] at HST HDRb HLB HDB
    have HMM := Aside0.mk hm; have HLL := Aside0.mk hl
    clear hcap hm hl
    have hm1 := HG3.out; have hm2 := HG4.out
    go_wp2
    go_loopg [65] (m + 1) (fun kq v65 w' => ∃ i : Nat, v65 = .int .i64 i ∧ i + kq = m + 1 ∧ i ≤ m ∧ Aside0 (DR w' w.heap.size (fun _ => True) (.slice (some ⟨W3.heap.size, 0, none⟩) m cap) (subZ i l)) ∧ Aside0 (Below w.heap.size w w'))
    case atStart => exact ⟨0, rfl, by omega, by omega, ⟨by rw [subZ_zero]; exact HDRb.out.mono (fun _ _ => trivial)⟩, HBb⟩
    case round =>
      obtain ⟨i, rfl, hik, him, HR, HB⟩ := hrel
      by_cases hi : i < m
      · have di : decide (i < m) = true := decide_eq_true hi
        have dii : decide ((i : Int) < (m : Int)) = true := decide_eq_true (by omega)
        cases gk with
        | zero => omega
        | succ k1 =>
          have hil : i < l.length := by have := HLB.out; omega
          obtain ⟨hx, hf⟩ := DR.celln 0 HR.out (i : Int) (by omega) (by omega)
          have hdg := HDB.out (rd l (i : Int)) (by rw [rd_get' hil]; exact List.getElem_mem hil)
          rw [Int.toNat_natCast, subZ_rd hil] at hx
          rw [Int.toNat_natCast] at hf
          have hput := DR.putn HR.out (i : Int) (rd l (i : Int) - 48)
          rw [Int.toNat_natCast, subZ_set hil] at hput
          have hW3 := HB3.out.size
          have hbs : Below w.heap.size w (wr.setCell ⟨W3.heap.size, i, none⟩ (.int .u8 (rd l (i : Int) - 48))) := below_set HB.out hW3
          have HPUT := Aside0.mk hput; have HBS := Aside0.mk hbs
          clear hput hbs hW3 HR HB
          generalize rd l (i : Int) = c at hx hdg HPUT HBS
          have hwr : IntKind.u8.wrap (c - 48) = c - 48 := by rw [IntKind.wrap_u8]; omega
          go_wp2
          go_roundg k1
          case measure => omega
          case rel => exact ⟨i + 1, by go_num, by omega, by omega, HPUT, HBS⟩
      · have di : decide (i < m) = false := decide_eq_false hi
        have dii : decide ((i : Int) < (m : Int)) = false := decide_eq_false (by omega)
        cases gk with
        | succ k1 =>
          have hsub : subZ i l = l.map (· - 48) := by
            have e : i = l.length := by have := HLB.out; omega
            rw [e]; exact subZ_all l
          rw [hsub] at HR
          clear hsub
          have HRS := HR; have HBS := HB
          clear HR HB
          go_wp2
          go_loopg [4, 75] 33 (fun kq v4 v75 w' => ∃ (j : Nat) (x : Int) (r : List Int), v4 = .int .u64 x ∧ v75 = .int .i64 j ∧ j + kq = 33 ∧ j ≤ 32 ∧ Aside0 (PS w0 m (numV 0 l) j x r) ∧ Aside0 (DR w' w.heap.size (fun _ => True) (.slice (some ⟨W3.heap.size, 0, none⟩) m cap) r) ∧ Aside0 (Below w.heap.size w w'))
          case atStart => exact ⟨0, w0, l.map (· - 48), rfl, rfl, by omega, by omega, HST, HRS, HBS⟩
          case round =>
            obtain ⟨j, x, r, rfl, rfl, hjk, hj32, HS, HR, HB⟩ := hrel
            by_cases hj : j < 32
            · have dj : decide (j < 32) = true := decide_eq_true hj
              have djj : decide ((j : Int) < 32) = true := decide_eq_true (by omega)
              cases gk with
              | zero => omega
              | succ k2 =>
                have hbd := PS.bound HS.out HA0.out HV.out (by omega)
                have hst := PS.step HS.out
                obtain ⟨hrl, hrd⟩ := PS.row HS.out
                have hcc := dblA_c (c := 0) (by omega) hrd
                have hD := PTk.fix_double.calls (r.length + 1) (fun _ => True) (.slice (some ⟨W3.heap.size, 0, none⟩) m cap) r (dblA r 0).1 (dblA r 0).2 w wr HB.out HR.out (dbl_f r (by omega) hrd) hrd
                have HST2 := Aside0.mk hst
                clear hst hrl hrd HS HR HB
                generalize (dblA r 0).1 = c1 at hcc hD HST2
                generalize (dblA r 0).2 = r2 at hD HST2
                have hor := or_u64 1 (x * 2) c1 2 (by decide) (by omega) (by omega) (by omega) hcc.1 (by omega) (by omega)
                have hw1 : IntKind.u64.wrap (x * 2 ^ 1) = x * 2 := by rw [wrap_u64]; omega
                have hw2 : IntKind.u64.wrap (x * 2) = x * 2 := by rw [wrap_u64]; omega
                go_wp2_with fail
                ((with_reducible refine hD.mono ?_); rintro e_ W5 ⟨rfl, hdr, hb, _⟩)
                have HDR := Aside0.mk (hdr.mono (ok' := fun _ => True) (fun _ _ => trivial)); have HB5 := Aside0.mk hb
                clear hdr hb hD
                go_wp2
                go_roundg k2
                case measure => omega
                case rel => exact ⟨j + 1, x * 2 + c1, r2, by first | rfl | (rw [hor]), by go_num, by omega, by omega, HST2, HDR, HB5⟩
            · have dj : decide (j < 32) = false := decide_eq_false hj
              have djj : decide ((j : Int) < 32) = false := decide_eq_false (by omega)
              have hj2 : j = 32 := by omega
              subst hj2
              obtain ⟨hx, hx0, hx1⟩ := PS.fin HS.out HA0.out HV.out
              have hwi : IntKind.i64.wrap x = x := by rw [wrap_i64]; omega
              have HX := Aside0.mk hx
              clear hx HS HR
              go_wp2
              (try simp only [Exit.jump])
              go_ret2
              exact ⟨by rw [HX.out]; unfold fracF; rw [← HMM.out, ← HLL.out, ← HWW.out]; rfl, HB.out⟩
        | zero => omega
end Go.Proofs.YtklkikndcieojaaDoor
