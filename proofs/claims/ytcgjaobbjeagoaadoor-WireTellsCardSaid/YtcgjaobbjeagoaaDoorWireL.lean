/- WireBack. Printed by gen_l.py. -/
import Derived.Test.YtcgjaobbjeagoaaDoorWireK
import Derived.Deep.RegionHeld3
namespace Go.Proofs.YtcgjaobbjeagoaaDoor
open Go.RowKit Go.Proofs.YtcgjaobbjeagoaaDoorW.PrintWords Go.Proofs.YtcgjaobbjeagoaaDoorW.PrintLast Go.Proofs.YtcgjaobbjeagoaaDoorW.PrintMore
set_option linter.unusedVariables false
set_option linter.unusedSimpArgs false

theorem bytes_range (s : ByteArray) : ∀ x ∈ bytesOf s, 0 ≤ x ∧ x < 256 := by
  intro x hx
  obtain ⟨b, _, rfl⟩ := List.mem_map.1 hx
  have := b.toNat_lt
  omega
theorem venc_range : ∀ (k z : Nat), z < k → ∀ x ∈ venc z, 0 ≤ x ∧ x < 256
  | 0, z, h => by omega
  | k + 1, z, h => by
    intro x hx
    by_cases hz : z < 128
    · rw [venc_lt hz] at hx
      simp at hx; omega
    · rw [venc_ge hz] at hx
      rcases List.mem_cons.1 hx with rfl | hx
      · omega
      · exact venc_range k (z / 128) (by omega) x hx
theorem app_range {a b : List Int} (ha : ∀ x ∈ a, 0 ≤ x ∧ x < 256) (hb : ∀ x ∈ b, 0 ≤ x ∧ x < 256) : ∀ x ∈ a ++ b, 0 ≤ x ∧ x < 256 := by
  intro x hx
  rcases List.mem_append.1 hx with h | h
  · exact ha x h
  · exact hb x h
theorem rdInt_back (la lb : List Int) (n : Int) (hn0 : -9223372036854775808 ≤ n) (hn1 : n ≤ 9223372036854775807) (hba : ∀ x ∈ la, 0 ≤ x ∧ x < 256) (hbb : ∀ x ∈ lb, 0 ≤ x ∧ x < 256) (hla : la.length ≤ 2000000) (hlb : lb.length ≤ 2000000)
    (m : Nat) (hm : (la ++ venc (zz n).toNat ++ lb).length = m) (A : Option Addr) (c : Nat) (W : World) (hC : Kd.C (Kd.int .u8) W A m (la ++ venc (zz n).toNat ++ lb)) (hc : m ≤ c) :
    Calls Tryd.prog 17 #[.slice A m c, .int .i64 la.length] W
      fun e w' => e = .returned (.tuple #[.int .i64 n, .int .i64 ((la.length : Int) + (vl (zz n).toNat : Int)), .int .i64 0]) ∧ w' = W := by
  subst hm
  have hz := zz_range n hn0 hn1
  have hvz := vl10 (z := (zz n).toNat) (by omega)
  have hzz : ((zz n).toNat : Int) = zz n := by omega
  have hl : (la ++ venc (zz n).toNat ++ lb).length = la.length + vl (zz n).toNat + lb.length := by simp only [List.length_append]; rfl
  have f := tk_venc la lb (zz n).toNat 10 (by decide) (by omega) (by omega)
  have h := ReadInt_calls A c _ la.length W hC hc (app_range (app_range hba (venc_range _ _ (Nat.lt_succ_self _))) hbb) (by omega) (by omega) (by omega)
  rw [f, hzz, uz_zz] at h
  exact h
theorem rdNum_back (la lb : List Int) (n : Int) (hn0 : 0 ≤ n) (hn1 : n ≤ 9223372036854775807) (hba : ∀ x ∈ la, 0 ≤ x ∧ x < 256) (hbb : ∀ x ∈ lb, 0 ≤ x ∧ x < 256) (hla : la.length ≤ 2000000) (hlb : lb.length ≤ 2000000)
    (m : Nat) (hm : (la ++ venc n.toNat ++ lb).length = m) (A : Option Addr) (c : Nat) (W : World) (hC : Kd.C (Kd.int .u8) W A m (la ++ venc n.toNat ++ lb)) (hc : m ≤ c) :
    Calls Tryd.prog 16 #[.slice A m c, .int .i64 la.length] W
      fun e w' => e = .returned (.tuple #[.int .i64 n, .int .i64 ((la.length : Int) + (vl n.toNat : Int)), .int .i64 0]) ∧ w' = W := by
  subst hm
  have hvz := vl9 (z := n.toNat) (by omega)
  have hzz : (n.toNat : Int) = n := by omega
  have hl : (la ++ venc n.toNat ++ lb).length = la.length + vl n.toNat + lb.length := by simp only [List.length_append]; rfl
  have f := tk_venc la lb n.toNat 9 (by decide) (by omega) (by omega)
  have h := ReadNum_calls A c _ la.length W hC hc (app_range (app_range hba (venc_range _ _ (Nat.lt_succ_self _))) hbb) (by omega) (by omega) (by omega)
  rw [f, hzz] at h
  exact h
theorem rdText_back (la lb : List Int) (s : ByteArray) (hs : ¬ (65536 : Int) < (s.size : Int)) (hba : ∀ x ∈ la, 0 ≤ x ∧ x < 256) (hbb : ∀ x ∈ lb, 0 ≤ x ∧ x < 256) (hla : la.length ≤ 2000000) (hlb : lb.length ≤ 2000000)
    (m : Nat) (hm : (la ++ venc s.size ++ bytesOf s ++ lb).length = m) (A : Option Addr) (c : Nat) (W : World) (hC : Kd.C (Kd.int .u8) W A m (la ++ venc s.size ++ bytesOf s ++ lb)) (hc : m ≤ c) :
    Calls Tryd.prog 18 #[.slice A m c, .int .i64 la.length] W
      fun e w' => e = .returned (.tuple #[.string s, .int .i64 ((la.length : Int) + (vl s.size : Int) + (s.size : Int)), .int .i64 0]) ∧ w' = W := by
  subst hm
  have hvz := vl9 (z := s.size) (by omega)
  have hbl := bytesOf_length s
  have hl : (la ++ venc s.size ++ bytesOf s ++ lb).length = la.length + vl s.size + s.size + lb.length := by simp only [List.length_append, hbl]; rfl
  have f := rt_back la lb s hs
  have h := ReadText_calls A c _ la.length W hC hc (app_range (app_range (app_range hba (venc_range _ _ (Nat.lt_succ_self _))) (bytes_range s)) hbb) (by omega) (by omega) (by omega)
  rw [f] at h
  exact h


set_option maxHeartbeats 4000000 in
set_option maxRecDepth 100000 in
theorem WireBack_calls (n : Int) (s : ByteArray) (AA : Option Addr) (ca : Nat) (la : List Int) (AB : Option Addr) (cb : Nat) (lb : List Int) (at_ : Int) (w : World) (hT : Tab w)
    (hn0 : -9223372036854775808 ≤ n) (hn1 : n ≤ 9223372036854775807) (hs : s.size ≤ 2000000) (hra : Kd.C (Kd.int .u8) w AA la.length la) (hca : la.length ≤ ca) (hba : ∀ x ∈ la, 0 ≤ x ∧ x < 256) (hla : la.length ≤ 2000000)
    (hrb : Kd.C (Kd.int .u8) w AB lb.length lb) (hcb : lb.length ≤ cb) (hbb : ∀ x ∈ lb, 0 ≤ x ∧ x < 256) (hlb : lb.length ≤ 2000000) (ht0 : -9223372036854775808 ≤ at_) (ht1 : at_ ≤ 9223372036854775807) :
    Calls Tryd.prog 6 #[.int .i64 n, .string s, .slice AA la.length ca, .slice AB lb.length cb, .int .i64 at_] w fun e w' => e = .returned (.bool true) ∧ Below w.heap.size w w' := by
  have HT := Aside0.mk hT; have HRA := Aside0.mk hra; have HRB := Aside0.mk hrb; have HBA := Aside0.mk hba; have HBB := Aside0.mk hbb
  clear hT hra hrb
  have hz := zz_range n hn0 hn1
  have hvz := vl10 (z := (zz n).toNat) (by omega)
  obtain ⟨m1, hm1⟩ : ∃ m, m = (la ++ venc (zz n).toNat ++ lb).length := ⟨_, rfl⟩
  have hm1' : m1 = la.length + vl (zz n).toNat + lb.length := by rw [hm1]; simp only [List.length_append]; rfl
  obtain ⟨p1, hp1⟩ : ∃ p : Int, p = (la.length : Int) + (vl (zz n).toNat : Int) := ⟨_, rfl⟩
  have hc1 := fun A c W => rdInt_back la lb n hn0 hn1 hba hbb hla hlb m1 hm1.symm A c W
  rw [← hp1] at hc1
  have hq1 : (m1 : Int) = p1 + (lb.length : Int) := by omega
  have hpr1 : 0 ≤ p1 ∧ p1 ≤ 3000000 := by omega
  have bq1 : (p1 != (m1 : Int) - (lb.length : Int)) = false := by rw [bne_eq_false_iff_eq]; omega
  have HVL : Aside0 ((la ++ venc (zz n).toNat).length ≤ 3000000) := ⟨by rw [List.length_append]; change la.length + vl (zz n).toNat ≤ _; omega⟩
  have HM1 := Aside0.mk hm1
  clear hm1 hm1' hp1 hz hvz
  clear hba hbb
  go_enter Tryd.func6, Tryd.ntmps6
  go_wp2_with fail
  ((with_reducible refine (awake_calls _ HT.out).mono ?_); rintro e_ W1 ⟨rfl, hb_⟩)
  have HB := Aside0.mk hb_; clear hb_
  go_wp2_with fail
  ((with_reducible refine (Int_calls AA ca la n _ (Kd.C_below HRA.out HB.out) (by omega) hn0 hn1).mono ?_); rintro e_ W2 ⟨v2, rfl, ho_, hb_⟩)
  have HO := Aside0.mk (Kd.R_lower ho_ HB.out.size); clear ho_
  have HBn := Aside0.mk (below_step HB.out hb_); clear HB hb_; have HB := HBn; clear HBn

  go_wp2_with ((with_reducible refine gate_builtin (b := .append) (xs := #[.tmp 32, .tmp 33]) rfl ?_); at_builtin; refine Kd.R_append_rows (Kd.int .u8) (w0 := w) w.heap.size rfl (.tmp 32) (.tmp 33) 23 5 (.int .u8 0) 1 rfl Tryd.underlying23 infoB rfl (by decide) (by omega) v2 (la ++ venc (zz n).toNat) lb _ _ _ (fun _ => True) (fun _ => False) rfl rfl ?aO ?aR (fun _ _ h => h) (fun _ h => h.elim) ?aF ?aB ?aS ?aL ?_; (case aR => exact (Kd.C_below HRB.out HB.out)); (case aB => exact HB.out); (case aF => exact (fun _ _ => trivial)); (case aO => exact HO.out); (case aS => exact HB.out.size); (case aL => (have := HVL.out; omega)); intro v_ w_ ho_ hb_ hg_ hat_; clear hg_ hat_)
  obtain ⟨A3, c3, e3, hcc3, hC3⟩ := Kd.R_reads ho_
  rw [← HM1.out] at e3 hcc3 hC3
  subst e3
  clear ho_ HO HB
  have HB := Aside0.mk hb_; clear hb_
  ((with_reducible refine (hc1 _ _ _ hC3 hcc3).mono ?_); rintro e_ W4 ⟨rfl, rfl⟩)
  clear hc1 hC3 hcc3
  go_wp2_with fail

  by_cases hn : 0 ≤ n
  · have dn : decide (0 ≤ n) = true := decide_eq_true hn
    have hvz := vl9 (z := n.toNat) (by omega)
    obtain ⟨m2, hm2⟩ : ∃ m, m = (la ++ venc n.toNat).length := ⟨_, rfl⟩
    have hm2' : m2 = la.length + vl n.toNat := by rw [hm2, List.length_append]; rfl
    obtain ⟨m3, hm3⟩ : ∃ m, m = (la ++ venc n.toNat ++ lb).length := ⟨_, rfl⟩
    have hm3' : m3 = la.length + vl n.toNat + lb.length := by rw [hm3]; simp only [List.length_append]; rfl
    have hf : numF la n = (la ++ venc n.toNat, 0) := if_neg (by omega)
    have hcn := fun W h => Num_calls AA ca la n W h (by omega) hn0 hn1
    have hcr := fun A c W => rdNum_back la lb n hn hn1 HBA.out HBB.out hla hlb m3 hm3.symm A c W
    rw [hf] at hcn
    rw [show (la.length : Int) + (vl n.toNat : Int) = (m2 : Int) by omega] at hcr
    have hm23 : (m3 : Int) = (m2 : Int) + (lb.length : Int) := by omega
    have hm2b : m2 ≤ 3000000 := by omega
    have HM2 := Aside0.mk hm2; have HM3 := Aside0.mk hm3
    clear hf hvz hm2 hm2' hm3 hm3'
    ((with_reducible refine (hcn _ (Kd.C_below HRA.out HB.out)).mono ?_); rintro e_ W5 ⟨v5, rfl, ho_, hb_⟩)
    clear hcn
    have HO := Aside0.mk (Kd.R_lower ho_ HB.out.size); clear ho_
    have HBn := Aside0.mk (below_step HB.out hb_); clear HB hb_; have HB := HBn; clear HBn
    obtain ⟨A5, c5, e_⟩ := Kd.R_slice HO.out
    replace e_ : v5 = .slice A5 (la ++ venc n.toNat).length c5 := e_
    rw [← HM2.out] at e_
    subst e_
    go_wp2_with ((with_reducible refine gate_builtin (b := .append) (xs := #[.tmp 77, .tmp 78]) rfl ?_); at_builtin; refine Kd.R_append_rows (Kd.int .u8) (w0 := w) w.heap.size rfl (.tmp 77) (.tmp 78) 23 5 (.int .u8 0) 1 rfl Tryd.underlying23 infoB rfl (by decide) (by omega) _ (la ++ venc n.toNat) lb _ _ _ (fun _ => True) (fun _ => False) rfl rfl ?aO ?aR (fun _ _ h => h) (fun _ h => h.elim) ?aF ?aB ?aS ?aL ?_; (case aR => exact (Kd.C_below HRB.out HB.out)); (case aB => exact HB.out); (case aF => exact (fun _ _ => trivial)); (case aO => exact HO.out); (case aS => exact HB.out.size); (case aL => (have := HM2.out; omega)); intro v_ w_ ho_ hb_ hg_ hat_; clear hg_ hat_)
    clear HO HB
    obtain ⟨A6, c6, e_, hcc_, hC_⟩ := Kd.R_reads ho_
    rw [← HM3.out] at e_ hcc_ hC_
    subst e_
    clear ho_
    have HB := Aside0.mk hb_; clear hb_
    ((with_reducible refine (hcr _ _ _ hC_ hcc_).mono ?_); rintro e_ W6 ⟨rfl, rfl⟩)
    clear hcr hC_ hcc_
    go_wp2_with fail
    by_cases hst : (65536 : Int) < (s.size : Int)
    · have hf : textF la s = ([], 2) := if_pos hst
      have hct := fun W h => Text_calls AA ca la s W h (by omega) (by omega)
      rw [hf] at hct
      ((with_reducible refine (hct _ (Kd.C_below HRA.out HB.out)).mono ?_); rintro e_ W7 ⟨v7, rfl, ho_, hb_⟩)
      clear hct hf ho_ hst
      have HBn := Aside0.mk (below_step HB.out hb_); clear HB hb_; have HB := HBn; clear HBn
      go_wp2_with fail
      by_cases he : (tk lb at_ 10).2.2 = 0
      · have hbk := tk_back lb at_ 10 HBB.out he
        have hrg := tk_range lb at_ 10 (by decide) (by decide) HBB.out
        have hcl := fun W h => ReadInt_calls AB cb lb at_ W h hcb HBB.out (by omega) ht0 ht1
        rw [he] at hcl
        have huz := zz_uz (tk lb at_ 10).1 hrg.1
        have hur : -9223372036854775808 ≤ uz (tk lb at_ 10).1 ∧ uz (tk lb at_ 10).1 ≤ 9223372036854775807 := by
          have := hrg.1; have := hrg.2.2.1
          unfold uz; split <;> omega
        have hci := fun W => Int_calls none 0 [] (uz (tk lb at_ 10).1) W (Kd.C_nil _ _) (by simp) hur.1 hur.2
        rw [huz, ← hbk.2.2.2, List.nil_append] at hci
        simp only [List.length_nil] at hci
        have hb1 := hbk.1; have hb2 := hbk.2.1; have hb3 := hbk.2.2.1
        generalize (tk lb at_ 10).2.1 = q at hcl hci hb2 hb3
        generalize uz (tk lb at_ 10).1 = mm at hcl hci
        clear he hbk hrg huz hur
        obtain ⟨i0, hi0, _, hsz0, _⟩ := info_parts infoB
        obtain ⟨A9, hcut, hA, hc9⟩ := print_mid_of (P := Tryd.prog) (Value.int .u8) (0 : Int) 23 5 .i64 .i64 Tryd.underlying23 hi0 hsz0 AB cb lb at_ q hb1 hb2 hb3 hcb
        ((with_reducible refine (hcl _ (Kd.C_below HRB.out HB.out)).mono ?_); rintro e_ W9 ⟨rfl, rfl⟩)
        clear hcl
        have hC9 := Kd.C_of_reads (h1 := fun _ => rfl) (hA w (Kd.reads_of_C HRB.out))
        change Kd.C (Kd.int .u8) w A9 _ _ at hC9
        generalize (lb.take q.toNat).drop at_.toNat = Z at hcut hC9 hci
        have conv9 : ∀ W', Below w.heap.size w W' → (convert 23 9 (.slice A9 Z.length (cb - at_.toNat))).run Tryd.prog W' = .ok (.string (strOfNums Z)) W' := fun W' hb' => Kd.C_string (P := Tryd.prog) Tryd.underlying23 Tryd.underlying5 Tryd.underlying9 (Kd.C_below hC9 hb')
        clear hA hC9 hc9
        go_wp2_with fail
        refine wp_region_held_drew (S := fun w' => (convert 23 9 (.slice A9 Z.length (cb - at_.toNat))).run Tryd.prog w' = .ok (.string (strOfNums Z)) w') (by kernel_rfl) (conv9 _ (below_drew1 HB.out)) (fun hHeld => ?_)
        refine wpAnyH_take (i := 0) (oi := { dst := some 145, op := Op.move (Operand.tmp 26), type := 3, pos := "law.go:84", after := #[], guard := none }) (v := .int .i64 mm) rfl (by kernel_rfl) (by kernel_rfl) (by kernel_rfl) (fun _ _ _ h => h) (Or.inl ⟨by rfl, by intro w_ hSw; (try dsimp only at hSw); go_simp⟩) (by assumption) ?_
        try simp only [Act.put, List.setIfInBounds_toArray, List.set_cons_zero, List.set_cons_succ]
        refine wpAnyH_take (i := 3) (oi := { dst := some 148, op := Op.move (Operand.tmp 3), type := 23, pos := "law.go:84", after := #[], guard := none }) (v := .slice AB lb.length cb) rfl (by kernel_rfl) (by kernel_rfl) (by kernel_rfl) (fun _ _ _ h => h) (Or.inl ⟨by rfl, by intro w_ hSw; (try dsimp only at hSw); go_simp⟩) (by assumption) ?_
        try simp only [Act.put, List.setIfInBounds_toArray, List.set_cons_zero, List.set_cons_succ]
        refine wpAnyH_take (i := 4) (oi := { dst := some 149, op := Op.move (Operand.tmp 4), type := 3, pos := "law.go:84", after := #[], guard := none }) (v := .int .i64 at_) rfl (by kernel_rfl) (by kernel_rfl) (by kernel_rfl) (fun _ _ _ h => h) (Or.inl ⟨by rfl, by intro w_ hSw; (try dsimp only at hSw); go_simp⟩) (by assumption) ?_
        try simp only [Act.put, List.setIfInBounds_toArray, List.set_cons_zero, List.set_cons_succ]
        refine wpAnyH_take (i := 5) (oi := { dst := some 150, op := Op.move (Operand.tmp 27), type := 3, pos := "law.go:84", after := #[], guard := none }) (v := .int .i64 q) rfl (by kernel_rfl) (by kernel_rfl) (by kernel_rfl) (fun _ _ _ h => h) (Or.inl ⟨by rfl, by intro w_ hSw; (try dsimp only at hSw); go_simp⟩) (by assumption) ?_
        try simp only [Act.put, List.setIfInBounds_toArray, List.set_cons_zero, List.set_cons_succ]
        refine wpAnyH_take (i := 6) (oi := { dst := some 151, op := Op.slice 23 (Operand.tmp 148) (some (Operand.tmp 149)) (some (Operand.tmp 150)) none, type := 23, pos := "law.go:84", after := #[{ on := 3, ground := Ground.data }, { on := 4, ground := Ground.data }, { on := 5, ground := Ground.data }], guard := none }) (v := .slice A9 Z.length (cb - at_.toNat)) rfl (by kernel_rfl) (by kernel_rfl) (by kernel_rfl) (fun _ _ _ h => h) (Or.inl ⟨by rfl, by intro w_ hSw; (try dsimp only at hSw); go_simp⟩) (by assumption) ?_
        try simp only [Act.put, List.setIfInBounds_toArray, List.set_cons_zero, List.set_cons_succ]
        refine wpAnyH_take (i := 7) (oi := { dst := some 152, op := Op.convert 23 9 (Operand.tmp 151), type := 9, pos := "law.go:84", after := #[{ on := 6, ground := Ground.data }], guard := none }) (v := .string (strOfNums Z)) rfl (by kernel_rfl) (by kernel_rfl) (by kernel_rfl) (fun _ _ _ h => h) (Or.inl ⟨by rfl, by intro w_ hSw; (try dsimp only at hSw); go_simp⟩) (by assumption) ?_
        try simp only [Act.put, List.setIfInBounds_toArray, List.set_cons_zero, List.set_cons_succ]
        refine wpAnyH_ready (rs := [1]) (by kernel_rfl) (by simp) ?_
        refine AllReadyH.cons (o := { dst := some 146, op := Op.call { callee := Callee.value (Operand.func 12), args := #[Operand.const (Value.slice none 0 0), Operand.tmp 145], argTypes := #[23, 3] }, type := 23, pos := "law.go:84", after := #[{ on := 0, ground := Ground.data }], guard := none }) rfl (fun K hK => ?_) AllReadyH.nil
        go_simp
        ((with_reducible refine (hci _).mono ?_); rintro e_ W_ ⟨v_, rfl, ho_, hb_⟩)
        have n_ := Aside0.mk (below_step (below_drew1 HB.out) hb_); clear HB; have HB := n_; clear n_ hb_
        obtain ⟨A10, c10, e_, _, hC_⟩ := Kd.R_reads ho_
        subst e_
        have s2 := Kd.C_string (P := Tryd.prog) (c := c10) Tryd.underlying23 Tryd.underlying5 Tryd.underlying9 hC_
        clear ho_ hC_ hHeld
        go_wp2_with fail
        refine hK.out _ _ (conv9 _ HB.out) (fun hHeld => ?_)
        clear hK K
        try simp only [Act.put, List.setIfInBounds_toArray, List.set_cons_zero, List.set_cons_succ]
        refine wpAnyH_ready (rs := [2]) (by kernel_rfl) (by simp) ?_
        refine AllReadyH.cons (o := { dst := some 147, op := Op.convert 23 9 (Operand.tmp 146), type := 9, pos := "law.go:84", after := #[{ on := 1, ground := Ground.data }], guard := none }) rfl (fun K hK => ?_) AllReadyH.nil
        go_simp
        refine hK.out _ _ (conv9 _ HB.out) (fun hHeld => ?_)
        clear hK K
        try simp only [Act.put, List.setIfInBounds_toArray, List.set_cons_zero, List.set_cons_succ]
        refine wpAnyH_take (i := 8) (oi := { dst := some 153, op := Op.binOp BinOp.eql 9 (Operand.tmp 147) (Operand.tmp 152) 9, type := 4, pos := "law.go:84", after := #[{ on := 2, ground := Ground.data }, { on := 7, ground := Ground.data }], guard := none }) (v := .bool true) rfl (by kernel_rfl) (by kernel_rfl) (by kernel_rfl) (fun _ _ _ h => h) (Or.inl ⟨by rfl, by intro w_ hSw; (try dsimp only at hSw); go_simp⟩) (by assumption) ?_
        try simp only [Act.put, List.setIfInBounds_toArray, List.set_cons_zero, List.set_cons_succ]
        refine wpAnyH_take (i := 9) (oi := { dst := some 10, op := Op.assign (Operand.tmp 153), type := 4, pos := "law.go:84", after := #[{ on := 8, ground := Ground.data }, { on := 1, ground := Ground.chain }, { on := 0, ground := Ground.phase }, { on := 1, ground := Ground.phase }, { on := 2, ground := Ground.phase }, { on := 3, ground := Ground.phase }, { on := 4, ground := Ground.phase }, { on := 5, ground := Ground.phase }, { on := 6, ground := Ground.phase }, { on := 7, ground := Ground.phase }, { on := 8, ground := Ground.phase }], guard := none }) (v := .bool true) rfl (by kernel_rfl) (by kernel_rfl) (by kernel_rfl) (fun _ _ _ h => h) (Or.inl ⟨by rfl, by intro w_ hSw; (try dsimp only at hSw); go_simp⟩) (by assumption) ?_
        try simp only [Act.put, List.setIfInBounds_toArray, List.set_cons_zero, List.set_cons_succ]
        refine wpAnyH_done (by kernel_rfl) ?_ _
        go_wp2
        go_ret
        exact ⟨rfl, HB.out⟩
      · have hz0 := tk_fail lb at_ 10 he
        have hcl := fun W h => ReadInt_calls AB cb lb at_ W h hcb HBB.out (by omega) ht0 ht1
        rw [hz0.1, hz0.2, show uz 0 = 0 by decide] at hcl
        generalize (tk lb at_ 10).2.2 = er at hcl he
        have b1 : (er != 0) = true := bne_iff_ne.mpr he
        clear he hz0
        ((with_reducible refine (hcl _ (Kd.C_below HRB.out HB.out)).mono ?_); rintro e_ W9 ⟨rfl, rfl⟩)
        clear hcl
        go_wp2
        go_ret
        exact ⟨rfl, HB.out⟩
    · have hvs := vl9 (z := s.size) (by omega)
      have hbl := bytesOf_length s
      obtain ⟨m7, hm7⟩ : ∃ m, m = (la ++ venc s.size ++ bytesOf s).length := ⟨_, rfl⟩
      have hm7' : m7 = la.length + vl s.size + s.size := by rw [hm7]; simp only [List.length_append, hbl]; rfl
      obtain ⟨m8, hm8⟩ : ∃ m, m = (la ++ venc s.size ++ bytesOf s ++ lb).length := ⟨_, rfl⟩
      have hm8' : m8 = la.length + vl s.size + s.size + lb.length := by rw [hm8]; simp only [List.length_append, hbl]; rfl
      have hf : textF la s = (la ++ venc s.size ++ bytesOf s, 0) := if_neg hst
      have hct := fun W h => Text_calls AA ca la s W h (by omega) (by omega)
      have hcr := fun A c W => rdText_back la lb s hst HBA.out HBB.out hla hlb m8 hm8.symm A c W
      rw [hf] at hct
      rw [show (la.length : Int) + (vl s.size : Int) + (s.size : Int) = (m7 : Int) by omega] at hcr
      have hm78 : (m8 : Int) = (m7 : Int) + (lb.length : Int) := by omega
      have hm7b : m7 ≤ 5000000 := by omega
      have HM7 := Aside0.mk hm7; have HM8 := Aside0.mk hm8
      clear hf hvs hm7 hm7' hm8 hm8' hbl hst
      ((with_reducible refine (hct _ (Kd.C_below HRA.out HB.out)).mono ?_); rintro e_ W7 ⟨v7, rfl, ho_, hb_⟩)
      clear hct
      have HO := Aside0.mk (Kd.R_lower ho_ HB.out.size); clear ho_
      have HBn := Aside0.mk (below_step HB.out hb_); clear HB hb_; have HB := HBn; clear HBn
      obtain ⟨A7, c7, e_⟩ := Kd.R_slice HO.out
      replace e_ : v7 = .slice A7 (la ++ venc s.size ++ bytesOf s).length c7 := e_
      rw [← HM7.out] at e_
      subst e_
      go_wp2_with ((with_reducible refine gate_builtin (b := .append) (xs := #[.tmp 108, .tmp 109]) rfl ?_); at_builtin; refine Kd.R_append_rows (Kd.int .u8) (w0 := w) w.heap.size rfl (.tmp 108) (.tmp 109) 23 5 (.int .u8 0) 1 rfl Tryd.underlying23 infoB rfl (by decide) (by omega) _ (la ++ venc s.size ++ bytesOf s) lb _ _ _ (fun _ => True) (fun _ => False) rfl rfl ?aO ?aR (fun _ _ h => h) (fun _ h => h.elim) ?aF ?aB ?aS ?aL ?_; (case aR => exact (Kd.C_below HRB.out HB.out)); (case aB => exact HB.out); (case aF => exact (fun _ _ => trivial)); (case aO => exact HO.out); (case aS => exact HB.out.size); (case aL => (have := HM7.out; omega)); intro v_ w_ ho_ hb_ hg_ hat_; clear hg_ hat_)
      clear HO HB
      obtain ⟨A8, c8, e_, hcc_, hC_⟩ := Kd.R_reads ho_
      rw [← HM8.out] at e_ hcc_ hC_
      subst e_
      clear ho_
      have HB := Aside0.mk hb_; clear hb_
      ((with_reducible refine (hcr _ _ _ hC_ hcc_).mono ?_); rintro e_ W8 ⟨rfl, rfl⟩)
      clear hcr hC_ hcc_
      go_wp2_with fail
      by_cases he : (tk lb at_ 10).2.2 = 0
      · have hbk := tk_back lb at_ 10 HBB.out he
        have hrg := tk_range lb at_ 10 (by decide) (by decide) HBB.out
        have hcl := fun W h => ReadInt_calls AB cb lb at_ W h hcb HBB.out (by omega) ht0 ht1
        rw [he] at hcl
        have huz := zz_uz (tk lb at_ 10).1 hrg.1
        have hur : -9223372036854775808 ≤ uz (tk lb at_ 10).1 ∧ uz (tk lb at_ 10).1 ≤ 9223372036854775807 := by
          have := hrg.1; have := hrg.2.2.1
          unfold uz; split <;> omega
        have hci := fun W => Int_calls none 0 [] (uz (tk lb at_ 10).1) W (Kd.C_nil _ _) (by simp) hur.1 hur.2
        rw [huz, ← hbk.2.2.2, List.nil_append] at hci
        simp only [List.length_nil] at hci
        have hb1 := hbk.1; have hb2 := hbk.2.1; have hb3 := hbk.2.2.1
        generalize (tk lb at_ 10).2.1 = q at hcl hci hb2 hb3
        generalize uz (tk lb at_ 10).1 = mm at hcl hci
        clear he hbk hrg huz hur
        obtain ⟨i0, hi0, _, hsz0, _⟩ := info_parts infoB
        obtain ⟨A9, hcut, hA, hc9⟩ := print_mid_of (P := Tryd.prog) (Value.int .u8) (0 : Int) 23 5 .i64 .i64 Tryd.underlying23 hi0 hsz0 AB cb lb at_ q hb1 hb2 hb3 hcb
        ((with_reducible refine (hcl _ (Kd.C_below HRB.out HB.out)).mono ?_); rintro e_ W9 ⟨rfl, rfl⟩)
        clear hcl
        have hC9 := Kd.C_of_reads (h1 := fun _ => rfl) (hA w (Kd.reads_of_C HRB.out))
        change Kd.C (Kd.int .u8) w A9 _ _ at hC9
        generalize (lb.take q.toNat).drop at_.toNat = Z at hcut hC9 hci
        have conv9 : ∀ W', Below w.heap.size w W' → (convert 23 9 (.slice A9 Z.length (cb - at_.toNat))).run Tryd.prog W' = .ok (.string (strOfNums Z)) W' := fun W' hb' => Kd.C_string (P := Tryd.prog) Tryd.underlying23 Tryd.underlying5 Tryd.underlying9 (Kd.C_below hC9 hb')
        clear hA hC9 hc9
        go_wp2_with fail
        refine wp_region_held_drew (S := fun w' => (convert 23 9 (.slice A9 Z.length (cb - at_.toNat))).run Tryd.prog w' = .ok (.string (strOfNums Z)) w') (by kernel_rfl) (conv9 _ (below_drew1 HB.out)) (fun hHeld => ?_)
        refine wpAnyH_take (i := 0) (oi := { dst := some 145, op := Op.move (Operand.tmp 26), type := 3, pos := "law.go:84", after := #[], guard := none }) (v := .int .i64 mm) rfl (by kernel_rfl) (by kernel_rfl) (by kernel_rfl) (fun _ _ _ h => h) (Or.inl ⟨by rfl, by intro w_ hSw; (try dsimp only at hSw); go_simp⟩) (by assumption) ?_
        try simp only [Act.put, List.setIfInBounds_toArray, List.set_cons_zero, List.set_cons_succ]
        refine wpAnyH_take (i := 3) (oi := { dst := some 148, op := Op.move (Operand.tmp 3), type := 23, pos := "law.go:84", after := #[], guard := none }) (v := .slice AB lb.length cb) rfl (by kernel_rfl) (by kernel_rfl) (by kernel_rfl) (fun _ _ _ h => h) (Or.inl ⟨by rfl, by intro w_ hSw; (try dsimp only at hSw); go_simp⟩) (by assumption) ?_
        try simp only [Act.put, List.setIfInBounds_toArray, List.set_cons_zero, List.set_cons_succ]
        refine wpAnyH_take (i := 4) (oi := { dst := some 149, op := Op.move (Operand.tmp 4), type := 3, pos := "law.go:84", after := #[], guard := none }) (v := .int .i64 at_) rfl (by kernel_rfl) (by kernel_rfl) (by kernel_rfl) (fun _ _ _ h => h) (Or.inl ⟨by rfl, by intro w_ hSw; (try dsimp only at hSw); go_simp⟩) (by assumption) ?_
        try simp only [Act.put, List.setIfInBounds_toArray, List.set_cons_zero, List.set_cons_succ]
        refine wpAnyH_take (i := 5) (oi := { dst := some 150, op := Op.move (Operand.tmp 27), type := 3, pos := "law.go:84", after := #[], guard := none }) (v := .int .i64 q) rfl (by kernel_rfl) (by kernel_rfl) (by kernel_rfl) (fun _ _ _ h => h) (Or.inl ⟨by rfl, by intro w_ hSw; (try dsimp only at hSw); go_simp⟩) (by assumption) ?_
        try simp only [Act.put, List.setIfInBounds_toArray, List.set_cons_zero, List.set_cons_succ]
        refine wpAnyH_take (i := 6) (oi := { dst := some 151, op := Op.slice 23 (Operand.tmp 148) (some (Operand.tmp 149)) (some (Operand.tmp 150)) none, type := 23, pos := "law.go:84", after := #[{ on := 3, ground := Ground.data }, { on := 4, ground := Ground.data }, { on := 5, ground := Ground.data }], guard := none }) (v := .slice A9 Z.length (cb - at_.toNat)) rfl (by kernel_rfl) (by kernel_rfl) (by kernel_rfl) (fun _ _ _ h => h) (Or.inl ⟨by rfl, by intro w_ hSw; (try dsimp only at hSw); go_simp⟩) (by assumption) ?_
        try simp only [Act.put, List.setIfInBounds_toArray, List.set_cons_zero, List.set_cons_succ]
        refine wpAnyH_take (i := 7) (oi := { dst := some 152, op := Op.convert 23 9 (Operand.tmp 151), type := 9, pos := "law.go:84", after := #[{ on := 6, ground := Ground.data }], guard := none }) (v := .string (strOfNums Z)) rfl (by kernel_rfl) (by kernel_rfl) (by kernel_rfl) (fun _ _ _ h => h) (Or.inl ⟨by rfl, by intro w_ hSw; (try dsimp only at hSw); go_simp⟩) (by assumption) ?_
        try simp only [Act.put, List.setIfInBounds_toArray, List.set_cons_zero, List.set_cons_succ]
        refine wpAnyH_ready (rs := [1]) (by kernel_rfl) (by simp) ?_
        refine AllReadyH.cons (o := { dst := some 146, op := Op.call { callee := Callee.value (Operand.func 12), args := #[Operand.const (Value.slice none 0 0), Operand.tmp 145], argTypes := #[23, 3] }, type := 23, pos := "law.go:84", after := #[{ on := 0, ground := Ground.data }], guard := none }) rfl (fun K hK => ?_) AllReadyH.nil
        go_simp
        ((with_reducible refine (hci _).mono ?_); rintro e_ W_ ⟨v_, rfl, ho_, hb_⟩)
        have n_ := Aside0.mk (below_step (below_drew1 HB.out) hb_); clear HB; have HB := n_; clear n_ hb_
        obtain ⟨A10, c10, e_, _, hC_⟩ := Kd.R_reads ho_
        subst e_
        have s2 := Kd.C_string (P := Tryd.prog) (c := c10) Tryd.underlying23 Tryd.underlying5 Tryd.underlying9 hC_
        clear ho_ hC_ hHeld
        go_wp2_with fail
        refine hK.out _ _ (conv9 _ HB.out) (fun hHeld => ?_)
        clear hK K
        try simp only [Act.put, List.setIfInBounds_toArray, List.set_cons_zero, List.set_cons_succ]
        refine wpAnyH_ready (rs := [2]) (by kernel_rfl) (by simp) ?_
        refine AllReadyH.cons (o := { dst := some 147, op := Op.convert 23 9 (Operand.tmp 146), type := 9, pos := "law.go:84", after := #[{ on := 1, ground := Ground.data }], guard := none }) rfl (fun K hK => ?_) AllReadyH.nil
        go_simp
        refine hK.out _ _ (conv9 _ HB.out) (fun hHeld => ?_)
        clear hK K
        try simp only [Act.put, List.setIfInBounds_toArray, List.set_cons_zero, List.set_cons_succ]
        refine wpAnyH_take (i := 8) (oi := { dst := some 153, op := Op.binOp BinOp.eql 9 (Operand.tmp 147) (Operand.tmp 152) 9, type := 4, pos := "law.go:84", after := #[{ on := 2, ground := Ground.data }, { on := 7, ground := Ground.data }], guard := none }) (v := .bool true) rfl (by kernel_rfl) (by kernel_rfl) (by kernel_rfl) (fun _ _ _ h => h) (Or.inl ⟨by rfl, by intro w_ hSw; (try dsimp only at hSw); go_simp⟩) (by assumption) ?_
        try simp only [Act.put, List.setIfInBounds_toArray, List.set_cons_zero, List.set_cons_succ]
        refine wpAnyH_take (i := 9) (oi := { dst := some 10, op := Op.assign (Operand.tmp 153), type := 4, pos := "law.go:84", after := #[{ on := 8, ground := Ground.data }, { on := 1, ground := Ground.chain }, { on := 0, ground := Ground.phase }, { on := 1, ground := Ground.phase }, { on := 2, ground := Ground.phase }, { on := 3, ground := Ground.phase }, { on := 4, ground := Ground.phase }, { on := 5, ground := Ground.phase }, { on := 6, ground := Ground.phase }, { on := 7, ground := Ground.phase }, { on := 8, ground := Ground.phase }], guard := none }) (v := .bool true) rfl (by kernel_rfl) (by kernel_rfl) (by kernel_rfl) (fun _ _ _ h => h) (Or.inl ⟨by rfl, by intro w_ hSw; (try dsimp only at hSw); go_simp⟩) (by assumption) ?_
        try simp only [Act.put, List.setIfInBounds_toArray, List.set_cons_zero, List.set_cons_succ]
        refine wpAnyH_done (by kernel_rfl) ?_ _
        go_wp2
        go_ret
        exact ⟨rfl, HB.out⟩
      · have hz0 := tk_fail lb at_ 10 he
        have hcl := fun W h => ReadInt_calls AB cb lb at_ W h hcb HBB.out (by omega) ht0 ht1
        rw [hz0.1, hz0.2, show uz 0 = 0 by decide] at hcl
        generalize (tk lb at_ 10).2.2 = er at hcl he
        have b1 : (er != 0) = true := bne_iff_ne.mpr he
        clear he hz0
        ((with_reducible refine (hcl _ (Kd.C_below HRB.out HB.out)).mono ?_); rintro e_ W9 ⟨rfl, rfl⟩)
        clear hcl
        go_wp2
        go_ret
        exact ⟨rfl, HB.out⟩
  · have dn : decide (0 ≤ n) = false := decide_eq_false hn
    have hf : numF la n = ([], 1) := if_pos (by omega)
    have hcn := fun W h => Num_calls AA ca la n W h (by omega) hn0 hn1
    rw [hf] at hcn
    ((with_reducible refine (hcn _ (Kd.C_below HRA.out HB.out)).mono ?_); rintro e_ W5 ⟨v5, rfl, ho_, hb_⟩)
    clear hcn hf ho_
    have HBn := Aside0.mk (below_step HB.out hb_); clear HB hb_; have HB := HBn; clear HBn
    go_wp2_with fail
    by_cases hst : (65536 : Int) < (s.size : Int)
    · have hf : textF la s = ([], 2) := if_pos hst
      have hct := fun W h => Text_calls AA ca la s W h (by omega) (by omega)
      rw [hf] at hct
      ((with_reducible refine (hct _ (Kd.C_below HRA.out HB.out)).mono ?_); rintro e_ W7 ⟨v7, rfl, ho_, hb_⟩)
      clear hct hf ho_ hst
      have HBn := Aside0.mk (below_step HB.out hb_); clear HB hb_; have HB := HBn; clear HBn
      go_wp2_with fail
      by_cases he : (tk lb at_ 10).2.2 = 0
      · have hbk := tk_back lb at_ 10 HBB.out he
        have hrg := tk_range lb at_ 10 (by decide) (by decide) HBB.out
        have hcl := fun W h => ReadInt_calls AB cb lb at_ W h hcb HBB.out (by omega) ht0 ht1
        rw [he] at hcl
        have huz := zz_uz (tk lb at_ 10).1 hrg.1
        have hur : -9223372036854775808 ≤ uz (tk lb at_ 10).1 ∧ uz (tk lb at_ 10).1 ≤ 9223372036854775807 := by
          have := hrg.1; have := hrg.2.2.1
          unfold uz; split <;> omega
        have hci := fun W => Int_calls none 0 [] (uz (tk lb at_ 10).1) W (Kd.C_nil _ _) (by simp) hur.1 hur.2
        rw [huz, ← hbk.2.2.2, List.nil_append] at hci
        simp only [List.length_nil] at hci
        have hb1 := hbk.1; have hb2 := hbk.2.1; have hb3 := hbk.2.2.1
        generalize (tk lb at_ 10).2.1 = q at hcl hci hb2 hb3
        generalize uz (tk lb at_ 10).1 = mm at hcl hci
        clear he hbk hrg huz hur
        obtain ⟨i0, hi0, _, hsz0, _⟩ := info_parts infoB
        obtain ⟨A9, hcut, hA, hc9⟩ := print_mid_of (P := Tryd.prog) (Value.int .u8) (0 : Int) 23 5 .i64 .i64 Tryd.underlying23 hi0 hsz0 AB cb lb at_ q hb1 hb2 hb3 hcb
        ((with_reducible refine (hcl _ (Kd.C_below HRB.out HB.out)).mono ?_); rintro e_ W9 ⟨rfl, rfl⟩)
        clear hcl
        have hC9 := Kd.C_of_reads (h1 := fun _ => rfl) (hA w (Kd.reads_of_C HRB.out))
        change Kd.C (Kd.int .u8) w A9 _ _ at hC9
        generalize (lb.take q.toNat).drop at_.toNat = Z at hcut hC9 hci
        have conv9 : ∀ W', Below w.heap.size w W' → (convert 23 9 (.slice A9 Z.length (cb - at_.toNat))).run Tryd.prog W' = .ok (.string (strOfNums Z)) W' := fun W' hb' => Kd.C_string (P := Tryd.prog) Tryd.underlying23 Tryd.underlying5 Tryd.underlying9 (Kd.C_below hC9 hb')
        clear hA hC9 hc9
        go_wp2_with fail
        refine wp_region_held_drew (S := fun w' => (convert 23 9 (.slice A9 Z.length (cb - at_.toNat))).run Tryd.prog w' = .ok (.string (strOfNums Z)) w') (by kernel_rfl) (conv9 _ (below_drew1 HB.out)) (fun hHeld => ?_)
        refine wpAnyH_take (i := 0) (oi := { dst := some 145, op := Op.move (Operand.tmp 26), type := 3, pos := "law.go:84", after := #[], guard := none }) (v := .int .i64 mm) rfl (by kernel_rfl) (by kernel_rfl) (by kernel_rfl) (fun _ _ _ h => h) (Or.inl ⟨by rfl, by intro w_ hSw; (try dsimp only at hSw); go_simp⟩) (by assumption) ?_
        try simp only [Act.put, List.setIfInBounds_toArray, List.set_cons_zero, List.set_cons_succ]
        refine wpAnyH_take (i := 3) (oi := { dst := some 148, op := Op.move (Operand.tmp 3), type := 23, pos := "law.go:84", after := #[], guard := none }) (v := .slice AB lb.length cb) rfl (by kernel_rfl) (by kernel_rfl) (by kernel_rfl) (fun _ _ _ h => h) (Or.inl ⟨by rfl, by intro w_ hSw; (try dsimp only at hSw); go_simp⟩) (by assumption) ?_
        try simp only [Act.put, List.setIfInBounds_toArray, List.set_cons_zero, List.set_cons_succ]
        refine wpAnyH_take (i := 4) (oi := { dst := some 149, op := Op.move (Operand.tmp 4), type := 3, pos := "law.go:84", after := #[], guard := none }) (v := .int .i64 at_) rfl (by kernel_rfl) (by kernel_rfl) (by kernel_rfl) (fun _ _ _ h => h) (Or.inl ⟨by rfl, by intro w_ hSw; (try dsimp only at hSw); go_simp⟩) (by assumption) ?_
        try simp only [Act.put, List.setIfInBounds_toArray, List.set_cons_zero, List.set_cons_succ]
        refine wpAnyH_take (i := 5) (oi := { dst := some 150, op := Op.move (Operand.tmp 27), type := 3, pos := "law.go:84", after := #[], guard := none }) (v := .int .i64 q) rfl (by kernel_rfl) (by kernel_rfl) (by kernel_rfl) (fun _ _ _ h => h) (Or.inl ⟨by rfl, by intro w_ hSw; (try dsimp only at hSw); go_simp⟩) (by assumption) ?_
        try simp only [Act.put, List.setIfInBounds_toArray, List.set_cons_zero, List.set_cons_succ]
        refine wpAnyH_take (i := 6) (oi := { dst := some 151, op := Op.slice 23 (Operand.tmp 148) (some (Operand.tmp 149)) (some (Operand.tmp 150)) none, type := 23, pos := "law.go:84", after := #[{ on := 3, ground := Ground.data }, { on := 4, ground := Ground.data }, { on := 5, ground := Ground.data }], guard := none }) (v := .slice A9 Z.length (cb - at_.toNat)) rfl (by kernel_rfl) (by kernel_rfl) (by kernel_rfl) (fun _ _ _ h => h) (Or.inl ⟨by rfl, by intro w_ hSw; (try dsimp only at hSw); go_simp⟩) (by assumption) ?_
        try simp only [Act.put, List.setIfInBounds_toArray, List.set_cons_zero, List.set_cons_succ]
        refine wpAnyH_take (i := 7) (oi := { dst := some 152, op := Op.convert 23 9 (Operand.tmp 151), type := 9, pos := "law.go:84", after := #[{ on := 6, ground := Ground.data }], guard := none }) (v := .string (strOfNums Z)) rfl (by kernel_rfl) (by kernel_rfl) (by kernel_rfl) (fun _ _ _ h => h) (Or.inl ⟨by rfl, by intro w_ hSw; (try dsimp only at hSw); go_simp⟩) (by assumption) ?_
        try simp only [Act.put, List.setIfInBounds_toArray, List.set_cons_zero, List.set_cons_succ]
        refine wpAnyH_ready (rs := [1]) (by kernel_rfl) (by simp) ?_
        refine AllReadyH.cons (o := { dst := some 146, op := Op.call { callee := Callee.value (Operand.func 12), args := #[Operand.const (Value.slice none 0 0), Operand.tmp 145], argTypes := #[23, 3] }, type := 23, pos := "law.go:84", after := #[{ on := 0, ground := Ground.data }], guard := none }) rfl (fun K hK => ?_) AllReadyH.nil
        go_simp
        ((with_reducible refine (hci _).mono ?_); rintro e_ W_ ⟨v_, rfl, ho_, hb_⟩)
        have n_ := Aside0.mk (below_step (below_drew1 HB.out) hb_); clear HB; have HB := n_; clear n_ hb_
        obtain ⟨A10, c10, e_, _, hC_⟩ := Kd.R_reads ho_
        subst e_
        have s2 := Kd.C_string (P := Tryd.prog) (c := c10) Tryd.underlying23 Tryd.underlying5 Tryd.underlying9 hC_
        clear ho_ hC_ hHeld
        go_wp2_with fail
        refine hK.out _ _ (conv9 _ HB.out) (fun hHeld => ?_)
        clear hK K
        try simp only [Act.put, List.setIfInBounds_toArray, List.set_cons_zero, List.set_cons_succ]
        refine wpAnyH_ready (rs := [2]) (by kernel_rfl) (by simp) ?_
        refine AllReadyH.cons (o := { dst := some 147, op := Op.convert 23 9 (Operand.tmp 146), type := 9, pos := "law.go:84", after := #[{ on := 1, ground := Ground.data }], guard := none }) rfl (fun K hK => ?_) AllReadyH.nil
        go_simp
        refine hK.out _ _ (conv9 _ HB.out) (fun hHeld => ?_)
        clear hK K
        try simp only [Act.put, List.setIfInBounds_toArray, List.set_cons_zero, List.set_cons_succ]
        refine wpAnyH_take (i := 8) (oi := { dst := some 153, op := Op.binOp BinOp.eql 9 (Operand.tmp 147) (Operand.tmp 152) 9, type := 4, pos := "law.go:84", after := #[{ on := 2, ground := Ground.data }, { on := 7, ground := Ground.data }], guard := none }) (v := .bool true) rfl (by kernel_rfl) (by kernel_rfl) (by kernel_rfl) (fun _ _ _ h => h) (Or.inl ⟨by rfl, by intro w_ hSw; (try dsimp only at hSw); go_simp⟩) (by assumption) ?_
        try simp only [Act.put, List.setIfInBounds_toArray, List.set_cons_zero, List.set_cons_succ]
        refine wpAnyH_take (i := 9) (oi := { dst := some 10, op := Op.assign (Operand.tmp 153), type := 4, pos := "law.go:84", after := #[{ on := 8, ground := Ground.data }, { on := 1, ground := Ground.chain }, { on := 0, ground := Ground.phase }, { on := 1, ground := Ground.phase }, { on := 2, ground := Ground.phase }, { on := 3, ground := Ground.phase }, { on := 4, ground := Ground.phase }, { on := 5, ground := Ground.phase }, { on := 6, ground := Ground.phase }, { on := 7, ground := Ground.phase }, { on := 8, ground := Ground.phase }], guard := none }) (v := .bool true) rfl (by kernel_rfl) (by kernel_rfl) (by kernel_rfl) (fun _ _ _ h => h) (Or.inl ⟨by rfl, by intro w_ hSw; (try dsimp only at hSw); go_simp⟩) (by assumption) ?_
        try simp only [Act.put, List.setIfInBounds_toArray, List.set_cons_zero, List.set_cons_succ]
        refine wpAnyH_done (by kernel_rfl) ?_ _
        go_wp2
        go_ret
        exact ⟨rfl, HB.out⟩
      · have hz0 := tk_fail lb at_ 10 he
        have hcl := fun W h => ReadInt_calls AB cb lb at_ W h hcb HBB.out (by omega) ht0 ht1
        rw [hz0.1, hz0.2, show uz 0 = 0 by decide] at hcl
        generalize (tk lb at_ 10).2.2 = er at hcl he
        have b1 : (er != 0) = true := bne_iff_ne.mpr he
        clear he hz0
        ((with_reducible refine (hcl _ (Kd.C_below HRB.out HB.out)).mono ?_); rintro e_ W9 ⟨rfl, rfl⟩)
        clear hcl
        go_wp2
        go_ret
        exact ⟨rfl, HB.out⟩
    · have hvs := vl9 (z := s.size) (by omega)
      have hbl := bytesOf_length s
      obtain ⟨m7, hm7⟩ : ∃ m, m = (la ++ venc s.size ++ bytesOf s).length := ⟨_, rfl⟩
      have hm7' : m7 = la.length + vl s.size + s.size := by rw [hm7]; simp only [List.length_append, hbl]; rfl
      obtain ⟨m8, hm8⟩ : ∃ m, m = (la ++ venc s.size ++ bytesOf s ++ lb).length := ⟨_, rfl⟩
      have hm8' : m8 = la.length + vl s.size + s.size + lb.length := by rw [hm8]; simp only [List.length_append, hbl]; rfl
      have hf : textF la s = (la ++ venc s.size ++ bytesOf s, 0) := if_neg hst
      have hct := fun W h => Text_calls AA ca la s W h (by omega) (by omega)
      have hcr := fun A c W => rdText_back la lb s hst HBA.out HBB.out hla hlb m8 hm8.symm A c W
      rw [hf] at hct
      rw [show (la.length : Int) + (vl s.size : Int) + (s.size : Int) = (m7 : Int) by omega] at hcr
      have hm78 : (m8 : Int) = (m7 : Int) + (lb.length : Int) := by omega
      have hm7b : m7 ≤ 5000000 := by omega
      have HM7 := Aside0.mk hm7; have HM8 := Aside0.mk hm8
      clear hf hvs hm7 hm7' hm8 hm8' hbl hst
      ((with_reducible refine (hct _ (Kd.C_below HRA.out HB.out)).mono ?_); rintro e_ W7 ⟨v7, rfl, ho_, hb_⟩)
      clear hct
      have HO := Aside0.mk (Kd.R_lower ho_ HB.out.size); clear ho_
      have HBn := Aside0.mk (below_step HB.out hb_); clear HB hb_; have HB := HBn; clear HBn
      obtain ⟨A7, c7, e_⟩ := Kd.R_slice HO.out
      replace e_ : v7 = .slice A7 (la ++ venc s.size ++ bytesOf s).length c7 := e_
      rw [← HM7.out] at e_
      subst e_
      go_wp2_with ((with_reducible refine gate_builtin (b := .append) (xs := #[.tmp 108, .tmp 109]) rfl ?_); at_builtin; refine Kd.R_append_rows (Kd.int .u8) (w0 := w) w.heap.size rfl (.tmp 108) (.tmp 109) 23 5 (.int .u8 0) 1 rfl Tryd.underlying23 infoB rfl (by decide) (by omega) _ (la ++ venc s.size ++ bytesOf s) lb _ _ _ (fun _ => True) (fun _ => False) rfl rfl ?aO ?aR (fun _ _ h => h) (fun _ h => h.elim) ?aF ?aB ?aS ?aL ?_; (case aR => exact (Kd.C_below HRB.out HB.out)); (case aB => exact HB.out); (case aF => exact (fun _ _ => trivial)); (case aO => exact HO.out); (case aS => exact HB.out.size); (case aL => (have := HM7.out; omega)); intro v_ w_ ho_ hb_ hg_ hat_; clear hg_ hat_)
      clear HO HB
      obtain ⟨A8, c8, e_, hcc_, hC_⟩ := Kd.R_reads ho_
      rw [← HM8.out] at e_ hcc_ hC_
      subst e_
      clear ho_
      have HB := Aside0.mk hb_; clear hb_
      ((with_reducible refine (hcr _ _ _ hC_ hcc_).mono ?_); rintro e_ W8 ⟨rfl, rfl⟩)
      clear hcr hC_ hcc_
      go_wp2_with fail
      by_cases he : (tk lb at_ 10).2.2 = 0
      · have hbk := tk_back lb at_ 10 HBB.out he
        have hrg := tk_range lb at_ 10 (by decide) (by decide) HBB.out
        have hcl := fun W h => ReadInt_calls AB cb lb at_ W h hcb HBB.out (by omega) ht0 ht1
        rw [he] at hcl
        have huz := zz_uz (tk lb at_ 10).1 hrg.1
        have hur : -9223372036854775808 ≤ uz (tk lb at_ 10).1 ∧ uz (tk lb at_ 10).1 ≤ 9223372036854775807 := by
          have := hrg.1; have := hrg.2.2.1
          unfold uz; split <;> omega
        have hci := fun W => Int_calls none 0 [] (uz (tk lb at_ 10).1) W (Kd.C_nil _ _) (by simp) hur.1 hur.2
        rw [huz, ← hbk.2.2.2, List.nil_append] at hci
        simp only [List.length_nil] at hci
        have hb1 := hbk.1; have hb2 := hbk.2.1; have hb3 := hbk.2.2.1
        generalize (tk lb at_ 10).2.1 = q at hcl hci hb2 hb3
        generalize uz (tk lb at_ 10).1 = mm at hcl hci
        clear he hbk hrg huz hur
        obtain ⟨i0, hi0, _, hsz0, _⟩ := info_parts infoB
        obtain ⟨A9, hcut, hA, hc9⟩ := print_mid_of (P := Tryd.prog) (Value.int .u8) (0 : Int) 23 5 .i64 .i64 Tryd.underlying23 hi0 hsz0 AB cb lb at_ q hb1 hb2 hb3 hcb
        ((with_reducible refine (hcl _ (Kd.C_below HRB.out HB.out)).mono ?_); rintro e_ W9 ⟨rfl, rfl⟩)
        clear hcl
        have hC9 := Kd.C_of_reads (h1 := fun _ => rfl) (hA w (Kd.reads_of_C HRB.out))
        change Kd.C (Kd.int .u8) w A9 _ _ at hC9
        generalize (lb.take q.toNat).drop at_.toNat = Z at hcut hC9 hci
        have conv9 : ∀ W', Below w.heap.size w W' → (convert 23 9 (.slice A9 Z.length (cb - at_.toNat))).run Tryd.prog W' = .ok (.string (strOfNums Z)) W' := fun W' hb' => Kd.C_string (P := Tryd.prog) Tryd.underlying23 Tryd.underlying5 Tryd.underlying9 (Kd.C_below hC9 hb')
        clear hA hC9 hc9
        go_wp2_with fail
        refine wp_region_held_drew (S := fun w' => (convert 23 9 (.slice A9 Z.length (cb - at_.toNat))).run Tryd.prog w' = .ok (.string (strOfNums Z)) w') (by kernel_rfl) (conv9 _ (below_drew1 HB.out)) (fun hHeld => ?_)
        refine wpAnyH_take (i := 0) (oi := { dst := some 145, op := Op.move (Operand.tmp 26), type := 3, pos := "law.go:84", after := #[], guard := none }) (v := .int .i64 mm) rfl (by kernel_rfl) (by kernel_rfl) (by kernel_rfl) (fun _ _ _ h => h) (Or.inl ⟨by rfl, by intro w_ hSw; (try dsimp only at hSw); go_simp⟩) (by assumption) ?_
        try simp only [Act.put, List.setIfInBounds_toArray, List.set_cons_zero, List.set_cons_succ]
        refine wpAnyH_take (i := 3) (oi := { dst := some 148, op := Op.move (Operand.tmp 3), type := 23, pos := "law.go:84", after := #[], guard := none }) (v := .slice AB lb.length cb) rfl (by kernel_rfl) (by kernel_rfl) (by kernel_rfl) (fun _ _ _ h => h) (Or.inl ⟨by rfl, by intro w_ hSw; (try dsimp only at hSw); go_simp⟩) (by assumption) ?_
        try simp only [Act.put, List.setIfInBounds_toArray, List.set_cons_zero, List.set_cons_succ]
        refine wpAnyH_take (i := 4) (oi := { dst := some 149, op := Op.move (Operand.tmp 4), type := 3, pos := "law.go:84", after := #[], guard := none }) (v := .int .i64 at_) rfl (by kernel_rfl) (by kernel_rfl) (by kernel_rfl) (fun _ _ _ h => h) (Or.inl ⟨by rfl, by intro w_ hSw; (try dsimp only at hSw); go_simp⟩) (by assumption) ?_
        try simp only [Act.put, List.setIfInBounds_toArray, List.set_cons_zero, List.set_cons_succ]
        refine wpAnyH_take (i := 5) (oi := { dst := some 150, op := Op.move (Operand.tmp 27), type := 3, pos := "law.go:84", after := #[], guard := none }) (v := .int .i64 q) rfl (by kernel_rfl) (by kernel_rfl) (by kernel_rfl) (fun _ _ _ h => h) (Or.inl ⟨by rfl, by intro w_ hSw; (try dsimp only at hSw); go_simp⟩) (by assumption) ?_
        try simp only [Act.put, List.setIfInBounds_toArray, List.set_cons_zero, List.set_cons_succ]
        refine wpAnyH_take (i := 6) (oi := { dst := some 151, op := Op.slice 23 (Operand.tmp 148) (some (Operand.tmp 149)) (some (Operand.tmp 150)) none, type := 23, pos := "law.go:84", after := #[{ on := 3, ground := Ground.data }, { on := 4, ground := Ground.data }, { on := 5, ground := Ground.data }], guard := none }) (v := .slice A9 Z.length (cb - at_.toNat)) rfl (by kernel_rfl) (by kernel_rfl) (by kernel_rfl) (fun _ _ _ h => h) (Or.inl ⟨by rfl, by intro w_ hSw; (try dsimp only at hSw); go_simp⟩) (by assumption) ?_
        try simp only [Act.put, List.setIfInBounds_toArray, List.set_cons_zero, List.set_cons_succ]
        refine wpAnyH_take (i := 7) (oi := { dst := some 152, op := Op.convert 23 9 (Operand.tmp 151), type := 9, pos := "law.go:84", after := #[{ on := 6, ground := Ground.data }], guard := none }) (v := .string (strOfNums Z)) rfl (by kernel_rfl) (by kernel_rfl) (by kernel_rfl) (fun _ _ _ h => h) (Or.inl ⟨by rfl, by intro w_ hSw; (try dsimp only at hSw); go_simp⟩) (by assumption) ?_
        try simp only [Act.put, List.setIfInBounds_toArray, List.set_cons_zero, List.set_cons_succ]
        refine wpAnyH_ready (rs := [1]) (by kernel_rfl) (by simp) ?_
        refine AllReadyH.cons (o := { dst := some 146, op := Op.call { callee := Callee.value (Operand.func 12), args := #[Operand.const (Value.slice none 0 0), Operand.tmp 145], argTypes := #[23, 3] }, type := 23, pos := "law.go:84", after := #[{ on := 0, ground := Ground.data }], guard := none }) rfl (fun K hK => ?_) AllReadyH.nil
        go_simp
        ((with_reducible refine (hci _).mono ?_); rintro e_ W_ ⟨v_, rfl, ho_, hb_⟩)
        have n_ := Aside0.mk (below_step (below_drew1 HB.out) hb_); clear HB; have HB := n_; clear n_ hb_
        obtain ⟨A10, c10, e_, _, hC_⟩ := Kd.R_reads ho_
        subst e_
        have s2 := Kd.C_string (P := Tryd.prog) (c := c10) Tryd.underlying23 Tryd.underlying5 Tryd.underlying9 hC_
        clear ho_ hC_ hHeld
        go_wp2_with fail
        refine hK.out _ _ (conv9 _ HB.out) (fun hHeld => ?_)
        clear hK K
        try simp only [Act.put, List.setIfInBounds_toArray, List.set_cons_zero, List.set_cons_succ]
        refine wpAnyH_ready (rs := [2]) (by kernel_rfl) (by simp) ?_
        refine AllReadyH.cons (o := { dst := some 147, op := Op.convert 23 9 (Operand.tmp 146), type := 9, pos := "law.go:84", after := #[{ on := 1, ground := Ground.data }], guard := none }) rfl (fun K hK => ?_) AllReadyH.nil
        go_simp
        refine hK.out _ _ (conv9 _ HB.out) (fun hHeld => ?_)
        clear hK K
        try simp only [Act.put, List.setIfInBounds_toArray, List.set_cons_zero, List.set_cons_succ]
        refine wpAnyH_take (i := 8) (oi := { dst := some 153, op := Op.binOp BinOp.eql 9 (Operand.tmp 147) (Operand.tmp 152) 9, type := 4, pos := "law.go:84", after := #[{ on := 2, ground := Ground.data }, { on := 7, ground := Ground.data }], guard := none }) (v := .bool true) rfl (by kernel_rfl) (by kernel_rfl) (by kernel_rfl) (fun _ _ _ h => h) (Or.inl ⟨by rfl, by intro w_ hSw; (try dsimp only at hSw); go_simp⟩) (by assumption) ?_
        try simp only [Act.put, List.setIfInBounds_toArray, List.set_cons_zero, List.set_cons_succ]
        refine wpAnyH_take (i := 9) (oi := { dst := some 10, op := Op.assign (Operand.tmp 153), type := 4, pos := "law.go:84", after := #[{ on := 8, ground := Ground.data }, { on := 1, ground := Ground.chain }, { on := 0, ground := Ground.phase }, { on := 1, ground := Ground.phase }, { on := 2, ground := Ground.phase }, { on := 3, ground := Ground.phase }, { on := 4, ground := Ground.phase }, { on := 5, ground := Ground.phase }, { on := 6, ground := Ground.phase }, { on := 7, ground := Ground.phase }, { on := 8, ground := Ground.phase }], guard := none }) (v := .bool true) rfl (by kernel_rfl) (by kernel_rfl) (by kernel_rfl) (fun _ _ _ h => h) (Or.inl ⟨by rfl, by intro w_ hSw; (try dsimp only at hSw); go_simp⟩) (by assumption) ?_
        try simp only [Act.put, List.setIfInBounds_toArray, List.set_cons_zero, List.set_cons_succ]
        refine wpAnyH_done (by kernel_rfl) ?_ _
        go_wp2
        go_ret
        exact ⟨rfl, HB.out⟩
      · have hz0 := tk_fail lb at_ 10 he
        have hcl := fun W h => ReadInt_calls AB cb lb at_ W h hcb HBB.out (by omega) ht0 ht1
        rw [hz0.1, hz0.2, show uz 0 = 0 by decide] at hcl
        generalize (tk lb at_ 10).2.2 = er at hcl he
        have b1 : (er != 0) = true := bne_iff_ne.mpr he
        clear he hz0
        ((with_reducible refine (hcl _ (Kd.C_below HRB.out HB.out)).mono ?_); rintro e_ W9 ⟨rfl, rfl⟩)
        clear hcl
        go_wp2
        go_ret
        exact ⟨rfl, HB.out⟩
end Go.Proofs.YtcgjaobbjeagoaaDoor
