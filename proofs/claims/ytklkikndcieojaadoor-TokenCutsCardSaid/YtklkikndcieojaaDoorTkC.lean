/- The walk of number. -/
import Derived.Test.YtklkikndcieojaaDoorTkB
namespace Go.Proofs.YtklkikndcieojaaDoor
open Go.RowKit Go.Proofs.YtklkikndcieojaaDoorW.PrintWords Go.Proofs.YtklkikndcieojaaDoorW.PrintLast Go.Proofs.YtklkikndcieojaaDoorW.PrintMore
set_option linter.unusedVariables false
set_option linter.unusedSimpArgs false
theorem ext_data (s : ByteArray) (n : Nat) : (s.extract 0 n).data.toList = s.data.toList.take n := by rw [Lib.extract_data, List.drop_zero, Nat.sub_zero]
theorem ext_is (s : ByteArray) (n : Nat) : s.extract 0 n = ⟨(s.data.toList.take n).toArray⟩ := by
  apply ByteArray.ext
  apply Array.ext'
  rw [ext_data]
theorem digs_lenW (s : ByteArray) (n : Nat) (h : n ≤ lenW digC s.data.toList) : Digs (bytesOf (s.extract 0 n)) := by
  intro c hc
  rw [bytesOf, ext_data] at hc
  obtain ⟨b, hb, rfl⟩ := List.mem_map.1 hc
  have := lenW_take digC s.data.toList b (List.mem_of_mem_take (i := n) (by rw [List.take_take, Nat.min_eq_left h]; exact hb))
  unfold digC at this
  simp at this
  omega
theorem numL_whole {l : List UInt8} (hf : fracN l (lenW digC l) = 0) (hw : wholeL (l.take (lenW digC l)) = true) : numL l = (lenW digC l, 3) := by
  unfold numL; rw [if_neg (by omega), if_pos hw]
theorem numL_none {l : List UInt8} (hf : fracN l (lenW digC l) = 0) (hw : wholeL (l.take (lenW digC l)) = false) : numL l = (0, 0) := by
  unfold numL; rw [if_neg (by omega), hw]; rfl
theorem numL_fix {l : List UInt8} (hf : 0 < fracN l (lenW digC l)) (hw : goodS ⟨(l.take (lenW digC l + 1 + fracN l (lenW digC l))).toArray⟩ = true) : numL l = (lenW digC l + 1 + fracN l (lenW digC l), 4) := by
  unfold numL; rw [if_pos hf, if_pos hw]
theorem numL_bad {l : List UInt8} (hf : 0 < fracN l (lenW digC l)) (hw : goodS ⟨(l.take (lenW digC l + 1 + fracN l (lenW digC l))).toArray⟩ = false) : numL l = (0, 0) := by
  unfold numL; rw [if_pos hf, hw]; rfl
/-- What is known where the digits at the front are looked at as a whole number. -/
structure NumF (s : ByteArray) (c : UInt8) (n : Nat) : Prop where
  hn : n = lenW digC s.data.toList
  n1 : 1 ≤ n
  h0 : s.data.toList[0]? = some c
theorem NumF.head {s : ByteArray} {c : UInt8} {n : Nat} (h : NumF s c n) : (s.data.toList.take n).head? = some c := by
  have h0 := h.h0; have := h.n1
  cases hl : s.data.toList with
  | nil => rw [hl] at h0; simp at h0
  | cons x l =>
    rw [hl] at h0
    obtain ⟨m, rfl⟩ : ∃ m, n = m + 1 := ⟨n - 1, by omega⟩
    simpa using h0
theorem NumF.len {s : ByteArray} {c : UInt8} {n : Nat} (h : NumF s c n) : (s.data.toList.take n).length = n := by
  have := lenW_le digC s.data.toList
  rw [List.length_take, h.hn]; omega
theorem NumF.bytes {s : ByteArray} {c : UInt8} {n : Nat} (h : NumF s c n) : bytesOf (s.extract 0 n) = bI (s.data.toList.take n) := by rw [bytesOf_bI, ext_data]
theorem NumF.over {s : ByteArray} {c : UInt8} {n : Nat} (h : NumF s c n) (hf : fracN s.data.toList n = 0) (hv : 9223372036854775807 < numV 0 (bytesOf (s.extract 0 n))) : numL s.data.toList = (0, 0) := by
  have e := h.hn
  rw [h.bytes] at hv
  subst e
  exact numL_none hf (by unfold wholeL; rw [decide_eq_false (by omega)]; rfl)
theorem NumF.lead {s : ByteArray} {c : UInt8} {n : Nat} (h : NumF s c n) (hf : fracN s.data.toList n = 0) (hc : c = 48) (h1 : 1 < n) : numL s.data.toList = (0, 0) := by
  have e := h.hn; have hh := h.head; have hl := h.len
  subst e
  refine numL_none hf ?_
  unfold wholeL
  rw [hh, hl, hc, decide_eq_true h1]
  simp
theorem NumF.one {s : ByteArray} {c : UInt8} {n : Nat} (h : NumF s c n) (hf : fracN s.data.toList n = 0) (hv : numV 0 (bytesOf (s.extract 0 n)) ≤ 9223372036854775807) (h1 : ¬ (c = 48 ∧ 1 < n)) : numL s.data.toList = (n, 3) := by
  have e := h.hn; have hh := h.head; have hl := h.len
  rw [h.bytes] at hv
  subst e
  refine numL_whole hf ?_
  unfold wholeL
  rw [hh, hl, decide_eq_true hv, Bool.true_and, Bool.not_eq_true', Bool.and_eq_false_iff, decide_eq_false_iff_not, decide_eq_false_iff_not]
  by_cases hc : c = 48
  · exact .inr (fun g => h1 ⟨hc, g⟩)
  · exact .inl (fun g => hc (Option.some.inj g))
set_option maxHeartbeats 4000000 in
set_option maxRecDepth 100000 in
theorem number_A (s : ByteArray) (w : World) (hW : FixW w) (hs : s.size ≤ 16384) (c : UInt8) (n : Nat) (hnf : NumF s c n) (he : n = s.size) :
    Calls Tryd.prog 29 #[.string s] w fun e w' => e = .returned (.tuple #[.int .i64 ((numL s.data.toList).1 : Int), .int .i64 ((numL s.data.toList).2 : Int)]) ∧ Below w.heap.size w w' := by
  have hsz : s.data.toList.length = s.size := (Lib.size_eq s).symm
  have hle := lenW_le digC s.data.toList
  rw [← hnf.hn] at hle
  have hr := fun W => run_dig s W (by omega)
  rw [← hnf.hn] at hr
  have hn1 := hnf.n1
  have hns : n ≤ s.size := by omega
  have hpos : 0 < s.size := by omega
  have hs0 : s[0]'hpos = c := by
    have h1 := byte_at s 0 hpos
    rw [hnf.h0] at h1
    exact (Option.some.inj h1).symm
  have HW := Aside0.mk hW; have HNF := Aside0.mk hnf
  clear hW hnf hsz hle
  have d1 : ((n : Int) == (s.size : Int)) = true := by rw [beq_iff_eq]; omega
  have HF : Hid (fracN s.data.toList n = 0) := Lib.hid (by unfold fracN; rw [List.getElem?_eq_none (by rw [← Lib.size_eq]; omega)]; rfl)
  clear he
  go_enter Tryd.func29, Tryd.ntmps29
  go_wp2
  refine wp_scope_fwd 0 rfl ?_
  go_wp2_with fail
  ((with_reducible refine (hr _).mono ?_); rintro e_ WN ⟨rfl, ⟨n1, hN⟩⟩)
  have HBN : Aside0 (Below w.heap.size w WN) := ⟨by rw [hN]; exact pw_below_drewN (Below.refl _ _) n1⟩
  clear hN hr
  go_wp2_with fail
  go_step3
  refine ⟨rfl, ?_⟩
  have hpu := ParseUint_calls (s.extract 0 n) 63 9223372036854775807 (.inr ⟨rfl, rfl⟩) WN (HW.out.below HBN.out) (digs_lenW s n (by rw [HNF.out.hn]; exact Nat.le_refl _)) (by rw [size_ext s n (by omega)]; omega) (by rw [size_ext s n (by omega)]; omega)
  go_wp2_with fail
  ((with_reducible refine hpu.mono ?_); rintro e_ W2 (⟨hv, rfl, hb⟩ | ⟨hv, t_, p_, rfl, hb⟩))
  · have HB2 := Aside0.mk (below_step HBN.out hb); have HV := Aside0.mk hv
    clear hb hpu hv
    by_cases hz : c = 48
    · by_cases h1 : 1 < n
      · have HR := Lib.hid (HNF.out.lead HF.out hz h1)
        have z1 : ((c.toNat : Int) == 48) = true := by rw [hz]; rfl
        have z2 : decide (1 < (n : Int)) = true := decide_eq_true (by omega)
        have HZ := Lib.hid hz; clear hz
        go_wp2
        (try simp only [Exit.jump])
        go_ret2
        exact ⟨by rw [HR.out]; rfl, HB2.out⟩
      · have HR := Lib.hid (HNF.out.one HF.out HV.out (fun g => h1 g.2))
        have z1 : ((c.toNat : Int) == 48) = true := by rw [hz]; rfl
        have z2 : decide (1 < (n : Int)) = false := decide_eq_false (by omega)
        have HZ := Lib.hid hz; clear hz
        go_wp2
        (try simp only [Exit.jump])
        go_ret2
        exact ⟨by rw [HR.out]; rfl, HB2.out⟩
    · have HR := Lib.hid (HNF.out.one HF.out HV.out (fun g => hz g.1))
      have z1 : ((c.toNat : Int) == 48) = false := by
        rw [beq_eq_false_iff_ne]; intro g; apply hz; apply UInt8.toNat_inj.1; show c.toNat = 48; omega
      clear hz
      go_wp2
      (try simp only [Exit.jump])
      go_ret2
      exact ⟨by rw [HR.out]; rfl, HB2.out⟩
  · have HB2 := Aside0.mk (below_step HBN.out hb)
    have HR := Lib.hid (HNF.out.over HF.out hv)
    clear hb hpu hv
    go_wp2
    (try simp only [Exit.jump])
    go_ret2
    exact ⟨by rw [HR.out]; rfl, HB2.out⟩
set_option maxHeartbeats 4000000 in
set_option maxRecDepth 100000 in
theorem number_B (s : ByteArray) (w : World) (hW : FixW w) (hs : s.size ≤ 16384) (c : UInt8) (n : Nat) (hnf : NumF s c n) (hlt : n < s.size) (h46 : (s[n]).toNat ≠ 46) :
    Calls Tryd.prog 29 #[.string s] w fun e w' => e = .returned (.tuple #[.int .i64 ((numL s.data.toList).1 : Int), .int .i64 ((numL s.data.toList).2 : Int)]) ∧ Below w.heap.size w w' := by
  have hsz : s.data.toList.length = s.size := (Lib.size_eq s).symm
  have hle := lenW_le digC s.data.toList
  rw [← hnf.hn] at hle
  have hr := fun W => run_dig s W (by omega)
  rw [← hnf.hn] at hr
  have hn1 := hnf.n1
  have hns : n ≤ s.size := by omega
  have hpos : 0 < s.size := by omega
  have hs0 : s[0]'hpos = c := by
    have h1 := byte_at s 0 hpos
    rw [hnf.h0] at h1
    exact (Option.some.inj h1).symm
  have HW := Aside0.mk hW; have HNF := Aside0.mk hnf
  clear hW hnf hsz hle
  have d1 : ((n : Int) == (s.size : Int)) = false := by rw [beq_eq_false_iff_ne]; omega
  have d2 : (((s[n]).toNat : Int) != 46) = true := by rw [bne_iff_ne]; omega
  have HF : Hid (fracN s.data.toList n = 0) := Lib.hid (by
    unfold fracN; rw [byte_at s n hlt, if_neg (fun h => h46 (by rw [Option.some.inj h]; rfl))])
  clear h46
  go_enter Tryd.func29, Tryd.ntmps29
  go_wp2
  refine wp_scope_fwd 0 rfl ?_
  go_wp2_with fail
  ((with_reducible refine (hr _).mono ?_); rintro e_ WN ⟨rfl, ⟨n1, hN⟩⟩)
  have HBN : Aside0 (Below w.heap.size w WN) := ⟨by rw [hN]; exact pw_below_drewN (Below.refl _ _) n1⟩
  clear hN hr
  go_wp2_with fail
  go_step3
  refine ⟨rfl, ?_⟩
  have hpu := ParseUint_calls (s.extract 0 n) 63 9223372036854775807 (.inr ⟨rfl, rfl⟩) WN (HW.out.below HBN.out) (digs_lenW s n (by rw [HNF.out.hn]; exact Nat.le_refl _)) (by rw [size_ext s n (by omega)]; omega) (by rw [size_ext s n (by omega)]; omega)
  go_wp2_with fail
  ((with_reducible refine hpu.mono ?_); rintro e_ W2 (⟨hv, rfl, hb⟩ | ⟨hv, t_, p_, rfl, hb⟩))
  · have HB2 := Aside0.mk (below_step HBN.out hb); have HV := Aside0.mk hv
    clear hb hpu hv
    by_cases hz : c = 48
    · by_cases h1 : 1 < n
      · have HR := Lib.hid (HNF.out.lead HF.out hz h1)
        have z1 : ((c.toNat : Int) == 48) = true := by rw [hz]; rfl
        have z2 : decide (1 < (n : Int)) = true := decide_eq_true (by omega)
        have HZ := Lib.hid hz; clear hz
        go_wp2
        (try simp only [Exit.jump])
        go_ret2
        exact ⟨by rw [HR.out]; rfl, HB2.out⟩
      · have HR := Lib.hid (HNF.out.one HF.out HV.out (fun g => h1 g.2))
        have z1 : ((c.toNat : Int) == 48) = true := by rw [hz]; rfl
        have z2 : decide (1 < (n : Int)) = false := decide_eq_false (by omega)
        have HZ := Lib.hid hz; clear hz
        go_wp2
        (try simp only [Exit.jump])
        go_ret2
        exact ⟨by rw [HR.out]; rfl, HB2.out⟩
    · have HR := Lib.hid (HNF.out.one HF.out HV.out (fun g => hz g.1))
      have z1 : ((c.toNat : Int) == 48) = false := by
        rw [beq_eq_false_iff_ne]; intro g; apply hz; apply UInt8.toNat_inj.1; show c.toNat = 48; omega
      clear hz
      go_wp2
      (try simp only [Exit.jump])
      go_ret2
      exact ⟨by rw [HR.out]; rfl, HB2.out⟩
  · have HB2 := Aside0.mk (below_step HBN.out hb)
    have HR := Lib.hid (HNF.out.over HF.out hv)
    clear hb hpu hv
    go_wp2
    (try simp only [Exit.jump])
    go_ret2
    exact ⟨by rw [HR.out]; rfl, HB2.out⟩
set_option maxHeartbeats 4000000 in
set_option maxRecDepth 100000 in
theorem number_C0 (s : ByteArray) (w : World) (hW : FixW w) (hs : s.size ≤ 16384) (c : UInt8) (n : Nat) (hnf : NumF s c n) (hlt : n < s.size) (h46 : (s[n]).toNat = 46) (hm0 : lenW digC (s.data.toList.drop (n + 1)) = 0) :
    Calls Tryd.prog 29 #[.string s] w fun e w' => e = .returned (.tuple #[.int .i64 ((numL s.data.toList).1 : Int), .int .i64 ((numL s.data.toList).2 : Int)]) ∧ Below w.heap.size w w' := by
  have hsz : s.data.toList.length = s.size := (Lib.size_eq s).symm
  have hle := lenW_le digC s.data.toList
  rw [← hnf.hn] at hle
  have hr := fun W => run_dig s W (by omega)
  rw [← hnf.hn] at hr
  have hn1 := hnf.n1
  have hns : n ≤ s.size := by omega
  have hpos : 0 < s.size := by omega
  have hs0 : s[0]'hpos = c := by
    have h1 := byte_at s 0 hpos
    rw [hnf.h0] at h1
    exact (Option.some.inj h1).symm
  have HW := Aside0.mk hW; have HNF := Aside0.mk hnf
  clear hW hnf hsz hle
  have d1 : ((n : Int) == (s.size : Int)) = false := by rw [beq_eq_false_iff_ne]; omega
  have d2 : (((s[n]).toNat : Int) != 46) = false := by rw [h46]; rfl
  have hfr : fracN s.data.toList n = lenW digC (s.data.toList.drop (n + 1)) := by
    unfold fracN; rw [byte_at s n hlt, if_pos (by congr 1; apply UInt8.toNat_inj.1; exact h46)]
  have hr2 := fun W => run_dig (s.extract (n + 1) s.size) W (by rw [size_end]; omega)
  rw [Lib.extract_to_end] at hr2
  have hml := lenW_le digC (s.data.toList.drop (n + 1))
  rw [List.length_drop, ← Lib.size_eq] at hml
  obtain ⟨m, hm⟩ : ∃ m, m = lenW digC (s.data.toList.drop (n + 1)) := ⟨_, rfl⟩
  rw [← hm] at hr2 hml hfr
  have e0 : m = 0 := by omega
  subst e0
  have HF := Lib.hid hfr
  clear hfr h46 hm hm0
  go_enter Tryd.func29, Tryd.ntmps29
  go_wp2
  refine wp_scope_fwd 0 rfl ?_
  go_wp2_with fail
  ((with_reducible refine (hr _).mono ?_); rintro e_ WN ⟨rfl, ⟨n1, hN⟩⟩)
  have HBN : Aside0 (Below w.heap.size w WN) := ⟨by rw [hN]; exact pw_below_drewN (Below.refl _ _) n1⟩
  clear hN hr
  go_wp2_with fail
  ((with_reducible refine (hr2 _).mono ?_); rintro e_ WM ⟨rfl, ⟨n2, hN⟩⟩)
  have n_ : Aside0 (Below w.heap.size w WM) := ⟨by rw [hN]; exact pw_below_drewN HBN.out n2⟩
  clear hN hr2 HBN; have HBN := n_; clear n_
  go_wp2_with fail
  go_step3
  have hpu := ParseUint_calls (s.extract 0 n) 63 9223372036854775807 (.inr ⟨rfl, rfl⟩) WM (HW.out.below HBN.out) (digs_lenW s n (by rw [HNF.out.hn]; exact Nat.le_refl _)) (by rw [size_ext s n (by omega)]; omega) (by rw [size_ext s n (by omega)]; omega)
  go_wp2_with fail
  ((with_reducible refine hpu.mono ?_); rintro e_ W2 (⟨hv, rfl, hb⟩ | ⟨hv, t_, p_, rfl, hb⟩))
  · have HB2 := Aside0.mk (below_step HBN.out hb); have HV := Aside0.mk hv
    clear hb hpu hv
    by_cases hz : c = 48
    · by_cases h1 : 1 < n
      · have HR := Lib.hid (HNF.out.lead HF.out hz h1)
        have z1 : ((c.toNat : Int) == 48) = true := by rw [hz]; rfl
        have z2 : decide (1 < (n : Int)) = true := decide_eq_true (by omega)
        have HZ := Lib.hid hz; clear hz
        go_wp2
        (try simp only [Exit.jump])
        go_ret2
        exact ⟨by rw [HR.out]; rfl, HB2.out⟩
      · have HR := Lib.hid (HNF.out.one HF.out HV.out (fun g => h1 g.2))
        have z1 : ((c.toNat : Int) == 48) = true := by rw [hz]; rfl
        have z2 : decide (1 < (n : Int)) = false := decide_eq_false (by omega)
        have HZ := Lib.hid hz; clear hz
        go_wp2
        (try simp only [Exit.jump])
        go_ret2
        exact ⟨by rw [HR.out]; rfl, HB2.out⟩
    · have HR := Lib.hid (HNF.out.one HF.out HV.out (fun g => hz g.1))
      have z1 : ((c.toNat : Int) == 48) = false := by
        rw [beq_eq_false_iff_ne]; intro g; apply hz; apply UInt8.toNat_inj.1; show c.toNat = 48; omega
      clear hz
      go_wp2
      (try simp only [Exit.jump])
      go_ret2
      exact ⟨by rw [HR.out]; rfl, HB2.out⟩
  · have HB2 := Aside0.mk (below_step HBN.out hb)
    have HR := Lib.hid (HNF.out.over HF.out hv)
    clear hb hpu hv
    go_wp2
    (try simp only [Exit.jump])
    go_ret2
    exact ⟨by rw [HR.out]; rfl, HB2.out⟩
set_option maxHeartbeats 4000000 in
set_option maxRecDepth 100000 in
theorem number_C1 (s : ByteArray) (w : World) (hW : FixW w) (hs : s.size ≤ 16384) (c : UInt8) (n : Nat) (hnf : NumF s c n) (hlt : n < s.size) (h46 : (s[n]).toNat = 46) (hm0 : 0 < lenW digC (s.data.toList.drop (n + 1))) :
    Calls Tryd.prog 29 #[.string s] w fun e w' => e = .returned (.tuple #[.int .i64 ((numL s.data.toList).1 : Int), .int .i64 ((numL s.data.toList).2 : Int)]) ∧ Below w.heap.size w w' := by
  have hsz : s.data.toList.length = s.size := (Lib.size_eq s).symm
  have hle := lenW_le digC s.data.toList
  rw [← hnf.hn] at hle
  have hr := fun W => run_dig s W (by omega)
  rw [← hnf.hn] at hr
  have hn1 := hnf.n1
  have hns : n ≤ s.size := by omega
  have hpos : 0 < s.size := by omega
  have hs0 : s[0]'hpos = c := by
    have h1 := byte_at s 0 hpos
    rw [hnf.h0] at h1
    exact (Option.some.inj h1).symm
  have HW := Aside0.mk hW; have HNF := Aside0.mk hnf
  clear hW hnf hsz hle
  have d1 : ((n : Int) == (s.size : Int)) = false := by rw [beq_eq_false_iff_ne]; omega
  have d2 : (((s[n]).toNat : Int) != 46) = false := by rw [h46]; rfl
  have hfr : fracN s.data.toList n = lenW digC (s.data.toList.drop (n + 1)) := by
    unfold fracN; rw [byte_at s n hlt, if_pos (by congr 1; apply UInt8.toNat_inj.1; exact h46)]
  have hr2 := fun W => run_dig (s.extract (n + 1) s.size) W (by rw [size_end]; omega)
  rw [Lib.extract_to_end] at hr2
  have hml := lenW_le digC (s.data.toList.drop (n + 1))
  rw [List.length_drop, ← Lib.size_eq] at hml
  obtain ⟨m, hm⟩ : ∃ m, m = lenW digC (s.data.toList.drop (n + 1)) := ⟨_, rfl⟩
  rw [← hm] at hr2 hml hfr
  have d3 : decide (0 < (m : Int)) = true := decide_eq_true (by omega)
  have d3n : decide (0 < m) = true := decide_eq_true (by omega)
  obtain ⟨k, hk⟩ : ∃ k, k = n + (1 + m) := ⟨_, rfl⟩
  have hki : (n : Int) + (1 + (m : Int)) = (k : Int) := by omega
  have hks : k ≤ s.size := by omega
  have hext : s.extract 0 k = ⟨(s.data.toList.take (lenW digC s.data.toList + 1 + fracN s.data.toList (lenW digC s.data.toList))).toArray⟩ := by
    rw [ext_is, ← HNF.out.hn, hfr, hk, ← Nat.add_assoc]
  have hfp : 0 < fracN s.data.toList (lenW digC s.data.toList) := by rw [← HNF.out.hn, hfr]; omega
  have hkk : lenW digC s.data.toList + 1 + fracN s.data.toList (lenW digC s.data.toList) = k := by rw [← HNF.out.hn, hfr]; omega
  have hres : numL s.data.toList = if goodS (s.extract 0 k) then (k, 4) else (0, 0) := by
    rw [hext]
    by_cases hg : goodS ⟨(s.data.toList.take (lenW digC s.data.toList + 1 + fracN s.data.toList (lenW digC s.data.toList))).toArray⟩ = true
    · rw [if_pos hg, numL_fix hfp hg, hkk]
    · rw [if_neg hg, numL_bad hfp (by simpa using hg)]
  have HRES := Lib.hid hres; have HKI := Lib.hid hki
  clear hfr h46 hm hm0 hk hki hext hfp hkk hres
  go_enter Tryd.func29, Tryd.ntmps29
  go_wp2
  refine wp_scope_fwd 0 rfl ?_
  go_wp2_with fail
  ((with_reducible refine (hr _).mono ?_); rintro e_ WN ⟨rfl, ⟨n1, hN⟩⟩)
  have HBN : Aside0 (Below w.heap.size w WN) := ⟨by rw [hN]; exact pw_below_drewN (Below.refl _ _) n1⟩
  clear hN hr
  go_wp2_with fail
  ((with_reducible refine (hr2 _).mono ?_); rintro e_ WM ⟨rfl, ⟨n2, hN⟩⟩)
  have n_ : Aside0 (Below w.heap.size w WM) := ⟨by rw [hN]; exact pw_below_drewN HBN.out n2⟩
  clear hN hr2 HBN; have HBN := n_; clear n_
  have hki : (n : Int) + (1 + (m : Int)) = (k : Int) := HKI.out
  have hp := Parse_exact (s.extract 0 k) WM (by rw [size_ext s k hks]; omega) (HW.out.below HBN.out)
  by_cases hg : goodS (s.extract 0 k) = true
  · have HR := HRES.out
    rw [if_pos hg] at HR
    have HR := Lib.hid HR
    rw [parseV_good hg] at hp
    clear hg
    go_wp2_with fail
    ((with_reducible refine hp.mono ?_); rintro e_ W2 ⟨rfl, hb⟩)
    have HB2 := Aside0.mk (below_step HBN.out hb)
    clear hb hp
    go_wp2
    (try simp only [Exit.jump])
    go_ret2
    exact ⟨by rw [HR.out]; rfl, HB2.out⟩
  · have HR := HRES.out
    rw [if_neg hg] at HR
    have HR := Lib.hid HR
    rw [parseV_bad (by simpa using hg)] at hp
    clear hg
    go_wp2_with fail
    ((with_reducible refine hp.mono ?_); rintro e_ W2 ⟨rfl, hb⟩)
    have HB2 := Aside0.mk (below_step HBN.out hb)
    clear hb hp
    go_wp2
    (try simp only [Exit.jump])
    go_ret2
    exact ⟨by rw [HR.out]; rfl, HB2.out⟩
theorem number_calls (s : ByteArray) (w : World) (hW : FixW w) (hs : s.size ≤ 16384) (c : UInt8) (h0 : s.data.toList[0]? = some c) (hc : digC c = true) :
    Calls Tryd.prog 29 #[.string s] w fun e w' => e = .returned (.tuple #[.int .i64 ((numL s.data.toList).1 : Int), .int .i64 ((numL s.data.toList).2 : Int)]) ∧ Below w.heap.size w w' := by
  have hsz : s.data.toList.length = s.size := (Lib.size_eq s).symm
  have hle := lenW_le digC s.data.toList
  have h1 := run_more h0 hc (Nat.zero_le _)
  have hnf : NumF s c (lenW digC s.data.toList) := ⟨rfl, h1, h0⟩
  by_cases he : lenW digC s.data.toList = s.size
  · exact number_A s w hW hs c _ hnf he
  · have hlt : lenW digC s.data.toList < s.size := by omega
    by_cases h46 : (s[lenW digC s.data.toList]).toNat = 46
    · rcases Nat.eq_zero_or_pos (lenW digC (s.data.toList.drop (lenW digC s.data.toList + 1))) with hm | hm
      · exact number_C0 s w hW hs c _ hnf hlt h46 hm
      · exact number_C1 s w hW hs c _ hnf hlt h46 hm
    · exact number_B s w hW hs c _ hnf hlt h46
end Go.Proofs.YtklkikndcieojaaDoor
