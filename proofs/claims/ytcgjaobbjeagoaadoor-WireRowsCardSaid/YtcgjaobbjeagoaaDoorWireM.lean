/- WireRows. -/
import Derived.Test.YtcgjaobbjeagoaaDoorWireL
namespace Go.Proofs.YtcgjaobbjeagoaaDoor
open Go.RowKit Go.Proofs.YtcgjaobbjeagoaaDoorW.PrintWords Go.Proofs.YtcgjaobbjeagoaaDoorW.PrintLast Go.Proofs.YtcgjaobbjeagoaaDoorW.PrintMore
set_option linter.unusedVariables false
set_option linter.unusedSimpArgs false

/-- The i-th text's bytes; the i-th number's, if there is one. -/
def pt (ts : List ByteArray) (i : Nat) : List Int := venc (rdOf ByteArray.empty ts (i : Int)).size ++ bytesOf (rdOf ByteArray.empty ts (i : Int))
def pn (ns : List Int) (i : Nat) : List Int := if i < ns.length then venc (zz (rd ns (i : Int))).toNat else []
def enr (ts : List ByteArray) (ns : List Int) : Nat → List Int
  | 0 => []
  | i + 1 => enr ts ns i ++ pt ts i ++ pn ns i
theorem enr_pre (ts : List ByteArray) (ns : List Int) : ∀ (k i : Nat), i ≤ k → ∃ r, enr ts ns k = enr ts ns i ++ r
  | 0, i, h => ⟨[], by rw [show i = 0 by omega]; simp⟩
  | k + 1, i, h => by
    by_cases e : i = k + 1
    · exact ⟨[], by rw [e]; simp⟩
    · obtain ⟨r, hr⟩ := enr_pre ts ns k i (by omega)
      exact ⟨r ++ pt ts k ++ pn ns k, by rw [enr, hr]; simp⟩
theorem enr_range (ts : List ByteArray) (ns : List Int) : ∀ k, ∀ x ∈ enr ts ns k, 0 ≤ x ∧ x < 256
  | 0 => by intro x hx; simp [enr] at hx
  | k + 1 => by
    refine app_range (app_range (enr_range ts ns k) (app_range (venc_range _ _ (Nat.lt_succ_self _)) (bytes_range _))) ?_
    unfold pn; split
    · exact venc_range _ _ (Nat.lt_succ_self _)
    · intro x hx; simp at hx
theorem rd_in {ns : List Int} (h : ∀ x ∈ ns, -9223372036854775808 ≤ x ∧ x ≤ 9223372036854775807) (i : Nat) : -9223372036854775808 ≤ rd ns (i : Int) ∧ rd ns (i : Int) ≤ 9223372036854775807 := by
  by_cases hl : i < ns.length
  · have : rd ns (i : Int) = ns[i] := by simp [rd, List.getD_eq_getElem?_getD, List.getElem?_eq_getElem hl]
    rw [this]; exact h _ (List.getElem_mem hl)
  · have : rd ns (i : Int) = 0 := by simp [rd, List.getD_eq_getElem?_getD, List.getElem?_eq_none (by omega : ns.length ≤ i)]
    rw [this]; decide
theorem enr_len (ts : List ByteArray) (ns : List Int) (hns : ∀ x ∈ ns, -9223372036854775808 ≤ x ∧ x ≤ 9223372036854775807) : ∀ k : Nat, (∀ j : Nat, j < k → (rdOf ByteArray.empty ts (j : Int)).size ≤ 65536) → (enr ts ns k).length ≤ k * 65560
  | 0, _ => by simp [enr]
  | k + 1, h => by
    have h1 := enr_len ts ns hns k (fun j hj => h j (by omega))
    have h2 := h k (by omega)
    have h3 := vl10 (z := (rdOf ByteArray.empty ts (k : Int)).size) (by omega)
    have h4 : (pn ns k).length ≤ 10 := by
      unfold pn; split
      · have := zz_range _ (rd_in hns k).1 (rd_in hns k).2
        exact vl10 (by omega)
      · simp
    have h5 : (pt ts k).length = vl (rdOf ByteArray.empty ts (k : Int)).size + (rdOf ByteArray.empty ts (k : Int)).size := by
      unfold pt; rw [List.length_append, bytesOf_length]; rfl
    rw [enr, List.length_append, List.length_append]
    omega

theorem pt_len (ts : List ByteArray) (j : Nat) : (pt ts j).length = vl (rdOf ByteArray.empty ts (j : Int)).size + (rdOf ByteArray.empty ts (j : Int)).size := by
  unfold pt; rw [List.length_append, bytesOf_length]; rfl
theorem pt_range (ts : List ByteArray) (j : Nat) : ∀ x ∈ pt ts j, 0 ≤ x ∧ x < 256 := app_range (venc_range _ _ (Nat.lt_succ_self _)) (bytes_range _)
theorem pn_range (ns : List Int) (j : Nat) : ∀ x ∈ pn ns j, 0 ≤ x ∧ x < 256 := by
  unfold pn; split
  · exact venc_range _ _ (Nat.lt_succ_self _)
  · intro x hx; simp at hx
/-- The j-th text is read behind what stands ahead of it. -/
theorem row_text (ts : List ByteArray) (ns : List Int) (j k : Nat) (hj : j < k) (hs : (rdOf ByteArray.empty ts (j : Int)).size ≤ 65536) (hl : (enr ts ns k).length ≤ 2000000)
    (A : Option Addr) (c : Nat) (W : World) (hC : Kd.C (Kd.int .u8) W A (enr ts ns k).length (enr ts ns k)) (hc : (enr ts ns k).length ≤ c) :
    Calls Tryd.prog 18 #[.slice A (enr ts ns k).length c, .int .i64 ((enr ts ns j).length : Int)] W
      fun e w' => e = .returned (.tuple #[.string (rdOf ByteArray.empty ts (j : Int)), .int .i64 ((enr ts ns j ++ pt ts j).length : Int), .int .i64 0]) ∧ w' = W := by
  obtain ⟨r, hr⟩ := enr_pre ts ns k (j + 1) (by omega)
  have hrr : ∀ x ∈ r, 0 ≤ x ∧ x < 256 := fun x hx => enr_range ts ns k x (by rw [hr]; exact List.mem_append_right _ hx)
  have he : enr ts ns k = enr ts ns j ++ venc (rdOf ByteArray.empty ts (j : Int)).size ++ bytesOf (rdOf ByteArray.empty ts (j : Int)) ++ (pn ns j ++ r) := by
    rw [hr, enr, pt]; simp only [List.append_assoc]
  have hle : (enr ts ns k).length = (enr ts ns j).length + (pt ts j).length + (pn ns j ++ r).length := by
    rw [hr, enr]; simp only [List.length_append]; omega
  have h := rdText_back (enr ts ns j) (pn ns j ++ r) (rdOf ByteArray.empty ts (j : Int)) (by omega) (enr_range ts ns j) (app_range (pn_range ns j) hrr) (by omega) (by omega) (enr ts ns k).length (by rw [← he]) A c W (by rw [← he]; exact hC) hc
  rw [show ((enr ts ns j).length : Int) + (vl (rdOf ByteArray.empty ts (j : Int)).size : Int) + ((rdOf ByteArray.empty ts (j : Int)).size : Int) = ((enr ts ns j ++ pt ts j).length : Int) by rw [List.length_append, pt_len]; omega] at h
  exact h
theorem row_num (ts : List ByteArray) (ns : List Int) (hns : ∀ x ∈ ns, -9223372036854775808 ≤ x ∧ x ≤ 9223372036854775807) (j k : Nat) (hj : j < k) (hn : j < ns.length) (hl : (enr ts ns k).length ≤ 2000000)
    (A : Option Addr) (c : Nat) (W : World) (hC : Kd.C (Kd.int .u8) W A (enr ts ns k).length (enr ts ns k)) (hc : (enr ts ns k).length ≤ c) :
    Calls Tryd.prog 17 #[.slice A (enr ts ns k).length c, .int .i64 ((enr ts ns j ++ pt ts j).length : Int)] W
      fun e w' => e = .returned (.tuple #[.int .i64 (rd ns (j : Int)), .int .i64 ((enr ts ns (j + 1)).length : Int), .int .i64 0]) ∧ w' = W := by
  obtain ⟨r, hr⟩ := enr_pre ts ns k (j + 1) (by omega)
  have hrr : ∀ x ∈ r, 0 ≤ x ∧ x < 256 := fun x hx => enr_range ts ns k x (by rw [hr]; exact List.mem_append_right _ hx)
  have hpn : pn ns j = venc (zz (rd ns (j : Int))).toNat := if_pos hn
  have he : enr ts ns k = enr ts ns j ++ pt ts j ++ venc (zz (rd ns (j : Int))).toNat ++ r := by
    rw [hr, enr, hpn]
  have hle : (enr ts ns k).length = (enr ts ns j ++ pt ts j).length + (pn ns j).length + r.length := by
    rw [hr, enr]; simp only [List.length_append]
  have h := rdInt_back (enr ts ns j ++ pt ts j) r (rd ns (j : Int)) (rd_in hns j).1 (rd_in hns j).2 (app_range (enr_range ts ns j) (pt_range ts j)) hrr (by omega) (by omega) (enr ts ns k).length (by rw [← he]) A c W (by rw [← he]; exact hC) hc
  have hlast : ((enr ts ns j ++ pt ts j).length : Int) + (vl (zz (rd ns (j : Int))).toNat : Int) = ((enr ts ns (j + 1)).length : Int) := by
    have h2 : enr ts ns (j + 1) = (enr ts ns j ++ pt ts j) ++ venc (zz (rd ns (j : Int))).toNat := by rw [enr, hpn]
    rw [h2]
    generalize enr ts ns j ++ pt ts j = X
    rw [List.length_append, vl]; omega
  rw [hlast] at h
  exact h
theorem enr_none (ts : List ByteArray) (ns : List Int) (j : Nat) (h : ¬ j < ns.length) : enr ts ns (j + 1) = enr ts ns j ++ pt ts j := by
  rw [enr, pn, if_neg h, List.append_nil]

set_option maxHeartbeats 4000000 in
set_option maxRecDepth 100000 in
theorem WireRows_calls (AT : Option Addr) (ct : Nat) (ts : List ByteArray) (AN : Option Addr) (cn : Nat) (ns : List Int) (w : World) (hT : Tab w)
    (hrt : Kd.C Kd.string w AT ts.length ts) (hct : ts.length ≤ ct) (hst : ∀ i : Int, (rdOf ByteArray.empty ts i).size ≤ 9223372036854775807) (hlt : ts.length ≤ 9223372036854775807)
    (hrn : Kd.C (Kd.int .i64) w AN ns.length ns) (hcn : ns.length ≤ cn) (hns : ∀ x ∈ ns, -9223372036854775808 ≤ x ∧ x ≤ 9223372036854775807) (hln : ns.length ≤ 9223372036854775807) :
    Calls Tryd.prog 7 #[.slice AT ts.length ct, .slice AN ns.length cn] w fun e w' => e = .returned (.bool true) ∧ Below w.heap.size w w' := by
  have HT := Aside0.mk hT; have HRT := Aside0.mk hrt; have HRN := Aside0.mk hrn; have HNS := Aside0.mk hns; have HST := Aside0.mk hst
  clear hT hrt hrn hns hst
  go_enter Tryd.func7, Tryd.ntmps7
  go_wp2_with fail
  ((with_reducible refine (awake_calls _ HT.out).mono ?_); rintro e_ W1 ⟨rfl, hb_⟩)
  have HB := Aside0.mk hb_; clear hb_
  go_wp2_with fail
  go_loopw [6, 7] (fun v vi wr => ∃ i : Nat, vi = .int .i64 (i : Int) ∧ Aside0 (Kd.R (Kd.int .u8) 5 wr w.heap.size (fun _ => True) v (enr ts ns i)) ∧ Aside0 (Below w.heap.size w wr) ∧ i ≤ ts.length ∧ i ≤ 20 ∧ Aside0 (∀ j : Nat, j < i → (rdOf ByteArray.empty ts (j : Int)).size ≤ 65536)) (fun _ vi _ => (20 - intOf vi).toNat)
  case atStart => exact ⟨0, rfl, ⟨Kd.R_nil _ _ _ _ _⟩, HB, Nat.zero_le _, Nat.zero_le _, ⟨fun j hj => absurd hj (by omega)⟩⟩
  case round =>
    clear HB
    obtain ⟨i, rfl, HO, HB, hi1, hi2, HS⟩ := hrel
    by_cases hx : i < ts.length ∧ i < 20
    · have d1 : decide ((i : Int) < (ts.length : Int)) = true := decide_eq_true (by omega)
      have d2 : decide ((i : Int) < 20) = true := decide_eq_true (by omega)
      obtain ⟨ad, e, hcell⟩ := Kd.at_string (Kd.C_below HRT.out HB.out) (i : Int) (by omega) (by omega)
      have hst := HST.out (i : Int)
      obtain ⟨t, ht⟩ : ∃ t, t = rdOf ByteArray.empty ts (i : Int) := ⟨_, rfl⟩
      rw [← ht, Int.toNat_natCast] at hcell
      rw [← ht] at hst
      have HTX := Aside0.mk ht
      have hel := enr_len ts ns HNS.out i HS.out
      have hC := Kd.R_reads HO.out
      obtain ⟨A6, c6, e6, hc6, hC6⟩ := hC
      cases e
      subst e6
      have hx1 := hx.1; have hx2 := hx.2
      clear hx
      by_cases hts : (65536 : Int) < (t.size : Int)
      · have d3 : decide ((65536 : Int) < (t.size : Int)) = true := decide_eq_true hts
        have hf : textF (enr ts ns i) t = ([], 2) := if_pos hts
        have hcl := fun W h => Text_calls A6 c6 (enr ts ns i) t W h (by omega) hst
        rw [hf] at hcl
        clear hf hts ht
        go_wp2_with fail
        ((with_reducible refine (hcl _ hC6).mono ?_); rintro e_ W2 ⟨v2, rfl, ho_, hb_⟩)
        replace hcell := pw_cell_below hb_ hcell
        have HBn := Aside0.mk (below_step HB.out hb_); clear HB hb_; have HB := HBn; clear HBn
        clear hcl ho_ hC6
        go_wp2
        go_ret
        exact ⟨rfl, HB.out⟩
      · have hf : textF (enr ts ns i) t = (enr ts ns i ++ pt ts i, 0) := by
          rw [textF, if_neg hts, pt, ← ht, List.append_assoc]
        have hcl := fun W h => Text_calls A6 c6 (enr ts ns i) t W h (by omega) hst
        rw [hf] at hcl
        have hts2 : t.size ≤ 65536 := by omega
        have HS2 : Aside0 (∀ j : Nat, j < i + 1 → (rdOf ByteArray.empty ts (j : Int)).size ≤ 65536) := ⟨fun j hj => by
          by_cases e : j = i
          · subst e; rw [← ht]; exact hts2
          · exact HS.out j (by omega)⟩
        have hel2 := enr_len ts ns HNS.out (i + 1) HS2.out
        have hlp : (enr ts ns i ++ pt ts i).length ≤ 2000000 := by
          have := congrArg List.length (show enr ts ns (i + 1) = enr ts ns i ++ pt ts i ++ pn ns i from rfl)
          rw [List.length_append] at this
          omega
        have HLP := Aside0.mk hlp
        clear hf hts hts2 ht hlp hel2
        have HEE : Aside0 (enr ts ns (i + 1) = enr ts ns i ++ pt ts i ++ pn ns i) := ⟨rfl⟩
        have HEN : Aside0 (¬ i < ns.length → enr ts ns (i + 1) = enr ts ns i ++ pt ts i) := ⟨enr_none ts ns i⟩
        generalize enr ts ns i ++ pt ts i = L1 at hcl HLP HEE HEN
        by_cases hn : i < ns.length
        · have d4 : decide ((i : Int) < (ns.length : Int)) = true := decide_eq_true (by omega)
          have hpn : pn ns i = venc (zz (rd ns (i : Int))).toNat := if_pos hn
          have HE : Aside0 (enr ts ns (i + 1) = L1 ++ venc (zz (rd ns (i : Int))).toNat) := ⟨by rw [HEE.out, hpn]⟩
          obtain ⟨an, en, hcn2⟩ := Kd.at_int (Kd.C_below HRN.out HB.out) (i : Int) (by omega) (by omega)
          cases en
          rw [Int.toNat_natCast] at hcn2
          have hri := rd_in HNS.out i
          clear hpn
          go_wp2_with fail
          ((with_reducible refine (hcl _ hC6).mono ?_); rintro e_ W2 ⟨v2, rfl, ho_, hb_⟩)
          replace hcell := pw_cell_below hb_ hcell
          replace hcn2 := pw_cell_below hb_ hcn2
          have HO2 := Aside0.mk (Kd.R_lower ho_ HB.out.size); clear ho_
          have HBn := Aside0.mk (below_step HB.out hb_); clear HB hb_; have HB := HBn; clear HBn
          clear hcl hC6 HO
          obtain ⟨A7, c7, e7, hc7, hC7⟩ := Kd.R_reads HO2.out
          subst e7
          go_wp2_with fail
          ((with_reducible refine (Int_calls A7 c7 _ _ _ hC7 (by have := HLP.out; omega) hri.1 hri.2).mono ?_); rintro e_ W3 ⟨v3, rfl, ho_, hb_⟩)
          have HO3 := Aside0.mk (Kd.R_lower ho_ HB.out.size); clear ho_
          have HBn := Aside0.mk (below_step HB.out hb_); clear HB hb_; have HB := HBn; clear HBn
          go_wp2
          rw [← HE.out] at HO3
          exact ⟨⟨i + 1, by simp, HO3, HB, by omega, by omega, HS2⟩, by simp only [intOf]; omega⟩
        · have d4 : decide ((i : Int) < (ns.length : Int)) = false := decide_eq_false (by omega)
          have HE := Aside0.mk (HEN.out hn)
          go_wp2_with fail
          ((with_reducible refine (hcl _ hC6).mono ?_); rintro e_ W2 ⟨v2, rfl, ho_, hb_⟩)
          replace hcell := pw_cell_below hb_ hcell
          have HO2 := Aside0.mk (Kd.R_lower ho_ HB.out.size); clear ho_
          have HBn := Aside0.mk (below_step HB.out hb_); clear HB hb_; have HB := HBn; clear HBn
          clear hcl hC6 HO
          go_wp2
          rw [← HE.out] at HO2
          exact ⟨⟨i + 1, by simp, HO2, HB, by omega, by omega, HS2⟩, by simp only [intOf]; omega⟩
    · have hk : i = ts.length ∨ i = 20 := by omega
      have hel := enr_len ts ns HNS.out i HS.out
      obtain ⟨A6, c6, e6, hc6, hC6⟩ := Kd.R_reads HO.out
      subst e6
      have hst : (decide (i < ts.length) = false ∧ decide ((i : Int) < (ts.length : Int)) = false) ∨ (decide (i < ts.length) = true ∧ decide ((i : Int) < (ts.length : Int)) = true ∧ decide ((i : Int) < 20) = false ∧ decide (i < 20) = false) := by
        by_cases h : i < ts.length
        · exact .inr ⟨decide_eq_true (by omega), decide_eq_true (by omega), decide_eq_false (by omega), decide_eq_false (by omega)⟩
        · exact .inl ⟨decide_eq_false (by omega), decide_eq_false (by omega)⟩
      have HC6 := Aside0.mk hC6; clear hC6 HO hx
      have HK := Aside0.mk hk; clear hk
      rcases hst with ⟨h1, h2⟩ | ⟨h1, h2, h3, h4⟩
      all_goals
        go_wp2
        go_loop [10, 11] (fun va vi => ∃ j : Nat, va = .int .i64 ((enr ts ns j).length : Int) ∧ vi = .int .i64 (j : Int) ∧ j ≤ i) (fun _ vi => (20 - intOf vi).toNat)
        case atStart => exact ⟨0, rfl, rfl, Nat.zero_le _⟩
        case round =>
          obtain ⟨j, rfl, rfl, hj⟩ := hrel
          by_cases hji : j < i
          · have e1 : decide ((j : Int) < (ts.length : Int)) = true := decide_eq_true (by omega)
            have e2 : decide ((j : Int) < 20) = true := decide_eq_true (by omega)
            have hrt := row_text ts ns j i hji (HS.out j hji) (by omega) A6 c6 _ HC6.out hc6
            obtain ⟨ad, e, hcell⟩ := Kd.at_string (Kd.C_below HRT.out HB.out) (j : Int) (by omega) (by omega)
            cases e
            obtain ⟨t, ht⟩ : ∃ t, t = rdOf ByteArray.empty ts (j : Int) := ⟨_, rfl⟩
            rw [← ht, Int.toNat_natCast] at hcell
            rw [← ht] at hrt
            clear ht
            by_cases hn : j < ns.length
            · have d4 : decide ((j : Int) < (ns.length : Int)) = true := decide_eq_true (by omega)
              have hrn := row_num ts ns HNS.out j i hji hn (by omega) A6 c6 _ HC6.out hc6
              obtain ⟨an, en, hcn2⟩ := Kd.at_int (Kd.C_below HRN.out HB.out) (j : Int) (by omega) (by omega)
              cases en
              obtain ⟨nn, hnn⟩ : ∃ nn, nn = rd ns (j : Int) := ⟨_, rfl⟩
              rw [← hnn, Int.toNat_natCast] at hcn2
              rw [← hnn] at hrn
              clear hnn
              have hq2 : ∃ q2, q2 = (enr ts ns (j + 1)).length := ⟨_, rfl⟩
              obtain ⟨q2, hq2⟩ := hq2
              rw [← hq2] at hrn
              have HQ2 := Aside0.mk hq2; clear hq2
              generalize (enr ts ns j ++ pt ts j).length = q1 at hrt hrn
              go_wp2_with fail
              ((with_reducible refine hrt.mono ?_); rintro e_ W5 ⟨rfl, rfl⟩)
              clear hrt
              go_wp2_with fail
              ((with_reducible refine hrn.mono ?_); rintro e_ W6 ⟨rfl, rfl⟩)
              clear hrn
              go_wp2
              rw [HQ2.out]
              exact ⟨⟨j + 1, rfl, by simp, by omega⟩, by simp only [intOf]; omega⟩
            · have d4 : decide ((j : Int) < (ns.length : Int)) = false := decide_eq_false (by omega)
              have d5 : decide (j < ns.length) = false := decide_eq_false hn
              have hq1 : ∃ q1, q1 = (enr ts ns (j + 1)).length := ⟨_, rfl⟩
              obtain ⟨q1, hq1⟩ := hq1
              rw [← enr_none ts ns j hn, ← hq1] at hrt
              have HQ1 := Aside0.mk hq1; clear hq1
              go_wp2_with fail
              ((with_reducible refine hrt.mono ?_); rintro e_ W5 ⟨rfl, rfl⟩)
              clear hrt
              go_wp2
              rw [HQ1.out]
              exact ⟨⟨j + 1, rfl, by simp, by omega⟩, by simp only [intOf]; omega⟩
          · have hje : j = i := by omega
            subst hje
            go_wp2
            go_ret
            exact ⟨rfl, HB.out⟩
end Go.Proofs.YtcgjaobbjeagoaaDoor
