/- Open, the program's and the document's. -/
import Derived.Test.YtcgjaobbjeagoaaDoorWireX
namespace Go.Proofs.YtcgjaobbjeagoaaDoor
open Go.RowKit Go.Proofs.YtcgjaobbjeagoaaDoorW.PrintWords Go.Proofs.YtcgjaobbjeagoaaDoorW.PrintLast Go.Proofs.YtcgjaobbjeagoaaDoorW.PrintMore
set_option linter.unusedVariables false
set_option linter.unusedSimpArgs false

theorem frameF_len (l : List Int) : (frameF l).length = l.length + 4 := by simp [frameF]

set_option maxHeartbeats 4000000 in
set_option maxRecDepth 100000 in
theorem Open_callsF (A0 : Option Addr) (c0 : Nat) (l0 : List Int) (w : World)
    (hr0 : Kd.C (Kd.int .u8) w A0 l0.length l0) (hc0 : l0.length ≤ c0) (hl : l0.length ≤ 140737488355318) (hT : Tab w) :
    Calls Tryd.prog 24 #[.slice A0 l0.length c0] w
      fun e w' => ∃ v, e = .returned (.tuple #[v, .bool (opF l0).2]) ∧ RS w.heap.size w' v (opF l0).1 ∧ Below w.heap.size w w' := by
  have HR := Aside0.mk hr0; have HT := Aside0.mk hT
  clear hr0 hT
  by_cases hs : l0.length < 4
  · have hf : opF l0 = ([], false) := if_pos hs
    rw [hf]
    clear hf
    obtain ⟨m, hm⟩ : ∃ m, m = l0.length := ⟨_, rfl⟩
    rw [← hm] at hl hs hc0 ⊢
    clear hm
    have e1 : decide ((m : Int) - 4 < 0) = true := decide_eq_true (by omega)
    go_enter Tryd.func24, Tryd.ntmps24
    go_wp2
    go_ret2
    exact ⟨_, rfl, RS.nil _ _, Below.refl _ _⟩
  · have hf : opF l0 = if frameF (l0.take (l0.length - 4)) = l0 then (l0.take (l0.length - 4), true) else ([], false) := if_neg hs
    obtain ⟨n, hn⟩ : ∃ n, l0.length = n + 4 := ⟨l0.length - 4, by omega⟩
    have hCR := HR.out
    rw [hn] at hCR hl hc0 hf ⊢
    rw [show n + 4 - 4 = n by omega] at hf
    have e1 : decide (((n + 4 : Nat) : Int) - 4 < 0) = false := decide_eq_false (by omega)
    have e0 : ((n + 4 : Nat) : Int) - 4 = (n : Int) := by omega
    have e2 : decide ((n : Int) < 0) = false := decide_eq_false (by omega)
    have hcut := cutTo A0 (n + 4) c0 n (by omega)
    have hC1 := C_first hCR n (by omega)
    have hln : (l0.take n).length = n := by rw [List.length_take]; omega
    have hfr := fun W (h : Kd.C (Kd.int .u8) W A0 n (l0.take n)) (hT : Tab W) => Frame_callsF A0 c0 (l0.take n) W (by rw [hln]; exact h) (by omega) hT
    rw [hln] at hfr
    have hfl : (frameF (l0.take n)).length = n + 4 := by rw [frameF_len, hln]
    by_cases hx : frameF (l0.take n) = l0
    · have hf2 := hf
      rw [if_pos hx] at hf2
      rw [hf2]
      have e3 : decide (frameF (l0.take n) = l0) = true := decide_eq_true hx
      have HLN := Aside0.mk hln; have HFL := Aside0.mk hfl; have HN := Aside0.mk hn; have HCR := Aside0.mk hCR; have HC1 := Aside0.mk hC1; have E3 := Aside0.mk e3; have HX := Aside0.mk hx
      clear hln hfl hn hCR hC1 hf hf2 e3 hx
      go_enter Tryd.func24, Tryd.ntmps24
      go_wp2_with fail
      ((with_reducible refine (hfr _ HC1.out HT.out).mono ?_); rintro e_ W1 ⟨v0, rfl, ho_, hb_⟩)
      obtain ⟨sp0, ho0⟩ := ho_
      obtain ⟨A1, c1, hv⟩ := Kd.R_slice ho0.R
      subst hv
      have HB := Aside0.mk hb_
      have hRR := Kd.R_reads' ho0.R
      rw [HFL.out] at hRR
      have HRR := Aside0.mk hRR
      clear hb_ ho0 hRR hfr
      rw [HFL.out]
      go_wp2_with fail
      ((with_reducible refine (Equal_calls _ _ _ _ _ _ _ _ _ HFL.out HN.out HRR.out.2.2 HRR.out.2.1 (Kd.C_below HCR.out HB.out) hc0 (by omega)).mono ?_); rintro e_ W2 ⟨rfl, hd_⟩)
      rw [E3.out]
      have HB2 := Aside0.mk (below_step HB.out hd_.below)
      clear hd_
      obtain ⟨ad, hA, hcs⟩ := HCR.out.2.2 (by omega)
      subst hA
      have hmk : ∀ W : World, (Instr.makeSlice 23 (.int .i64 0) (.int .i64 (n : Int))).run Tryd.prog W = .ok (.slice (some ⟨W.heap.size, 0, none⟩) 0 n) (W.alloc (.cells (madeCells #[.int .u8 0] n) 5)) := by
        intro W
        obtain ⟨i0, hi0, hz0, hsz0, hby⟩ := info_parts infoB
        have h := run_make (P := Tryd.prog) W 23 5 i0 (.int .u8 0) Tryd.underlying23 hi0 hz0 .i64 .i64 (0 : Int) (n : Int) (by omega) (by omega) (by rw [hby]; omega) (by omega)
        rw [hsz0, Nat.mul_one, Int.toNat_natCast] at h
        exact h
      have hC2 := C_cells (Kd.C_drew (Kd.C_alloc (C_first (Kd.C_below HCR.out HB2.out) n (by omega)) (.cells (madeCells #[.int .u8 0] n) 5))) HLN.out.symm
      have hload : (loadCellsFrom ad 0 n #[]).run Tryd.prog (W2.alloc (.cells (madeCells #[.int .u8 0] n) 5)).drew = .ok ((l0.take n).map (Value.int .u8)).toArray (W2.alloc (.cells (madeCells #[.int .u8 0] n) 5)).drew := by
        have h := run_loadCells_list (P := Tryd.prog) _ ad _ hC2
        rw [List.length_map, HLN.out] at h
        exact h
      have hmn : (madeCells #[Value.int .u8 0] n).size = n := by simp [madeCells]
      have hstore : (storeCells ⟨W2.heap.size, 0, none⟩ ((l0.take n).map (Value.int .u8))).run Tryd.prog (W2.alloc (.cells (madeCells #[.int .u8 0] n) 5)).drew = .ok () (W2.alloc (.cells ((l0.take n).map (Value.int .u8)).toArray 5)).drew := by
        have h := run_storeCells_at Tryd.prog W2.heap.size 0 5 ((l0.take n).map (Value.int .u8)) 0 (madeCells #[.int .u8 0] n) (W2.alloc (.cells (madeCells #[.int .u8 0] n) 5)).drew (MapKept.heap_alloc W2 _).1 (by rw [hmn, List.length_map, HLN.out]; omega) (by intro u hu; obtain ⟨x, _, rfl⟩ := List.mem_map.1 hu; rfl)
        rw [h]
        have e : ((madeCells #[Value.int .u8 0] n).toList.take (0 + 0) ++ (l0.take n).map (Value.int .u8) ++ (madeCells #[Value.int .u8 0] n).toList.drop (0 + 0 + ((l0.take n).map (Value.int .u8)).length)).toArray = ((l0.take n).map (Value.int .u8)).toArray := by
          rw [List.drop_of_length_le (by rw [Array.length_toList, hmn, List.length_map, HLN.out]; omega)]
          simp
        rw [e]
        show Result.ok () ((W2.alloc _).setRow W2.heap.size _).drew = _
        rw [World.setRow_alloc_new]
      clear hC2 hmn
      generalize hcs2 : (l0.take n).map (Value.int .u8) = cs at hload hstore
      have HCS := Aside0.mk hcs2
      clear hcs hcs2
      go_wp2
      go_region
      go_wp2
      go_ret2
      refine ⟨_, rfl, ⟨[], .inr ⟨W2.heap.size, by rw [HLN.out]; rfl, below_size HB2.out, ?_, by rw [HLN.out]; simp only [maxLen, List.length_nil]; omega, by simp⟩⟩, below_drew (below_alloc HB2.out _)⟩
      rw [List.append_nil, HCS.out]
      exact (MapKept.heap_alloc W2 _).1
    · have hf2 := hf
      rw [if_neg hx] at hf2
      rw [hf2]
      have e3 : decide (frameF (l0.take n) = l0) = false := decide_eq_false hx
      have HLN := Aside0.mk hln; have HFL := Aside0.mk hfl; have HN := Aside0.mk hn; have HCR := Aside0.mk hCR; have HC1 := Aside0.mk hC1; have E3 := Aside0.mk e3; have HX := Aside0.mk hx
      clear hln hfl hn hCR hC1 hf hf2 e3 hx
      go_enter Tryd.func24, Tryd.ntmps24
      go_wp2_with fail
      ((with_reducible refine (hfr _ HC1.out HT.out).mono ?_); rintro e_ W1 ⟨v0, rfl, ho_, hb_⟩)
      obtain ⟨sp0, ho0⟩ := ho_
      obtain ⟨A1, c1, hv⟩ := Kd.R_slice ho0.R
      subst hv
      have HB := Aside0.mk hb_
      have hRR := Kd.R_reads' ho0.R
      rw [HFL.out] at hRR
      have HRR := Aside0.mk hRR
      clear hb_ ho0 hRR hfr
      rw [HFL.out]
      go_wp2_with fail
      ((with_reducible refine (Equal_calls _ _ _ _ _ _ _ _ _ HFL.out HN.out HRR.out.2.2 HRR.out.2.1 (Kd.C_below HCR.out HB.out) hc0 (by omega)).mono ?_); rintro e_ W2 ⟨rfl, hd_⟩)
      rw [E3.out]
      have HB2 := Aside0.mk (below_step HB.out hd_.below)
      clear hd_
      go_wp2
      go_ret2
      exact ⟨_, rfl, RS.nil _ _, HB2.out⟩
-- REF

theorem bytesOf_str (a : List Int) (h : ∀ x ∈ a, 0 ≤ x ∧ x < 256) : bytesOf (strOfNums a) = a := by
  unfold bytesOf
  rw [strOfNums_data, List.map_map]
  have : ∀ x ∈ a, ((fun b : UInt8 => (b.toNat : Int)) ∘ fun n : Int => UInt8.ofNat n.toNat) x = x := by
    intro x hx
    have := h x hx
    show ((UInt8.ofNat x.toNat).toNat : Int) = x
    rw [UInt8.toNat_ofNat']
    omega
  rw [List.map_congr_left this]
  simp
theorem strList_inj {a b : List Int} (ha : ∀ x ∈ a, 0 ≤ x ∧ x < 256) (hb : ∀ x ∈ b, 0 ≤ x ∧ x < 256) : (strOfNums a).toList = (strOfNums b).toList ↔ a = b := by
  constructor
  · intro h
    rw [ByteArray.toList_eq, ByteArray.toList_eq] at h
    rw [← bytesOf_str a ha, ← bytesOf_str b hb]
    unfold bytesOf
    rw [h]
  · intro h
    rw [h]
theorem frameF_range (l : List Int) (h : ∀ x ∈ l, 0 ≤ x ∧ x < 256) : ∀ x ∈ frameF l, 0 ≤ x ∧ x < 256 := by
  intro x hx
  have hs := sumF_range l
  rcases List.mem_append.1 hx with hx | hx
  · exact h x hx
  · simp only [List.mem_cons, List.not_mem_nil, or_false] at hx
    rcases hx with rfl | rfl | rfl | rfl <;> omega

set_option maxHeartbeats 4000000 in
set_option maxRecDepth 100000 in
theorem rOpen_callsF (A0 : Option Addr) (c0 : Nat) (l0 : List Int) (w : World)
    (hr0 : Kd.C (Kd.int .u8) w A0 l0.length l0) (hc0 : l0.length ≤ c0) (hb : ∀ x ∈ l0, 0 ≤ x ∧ x < 256) (hl : l0.length ≤ 140737488355318) :
    Calls Tryd.prog 28 #[.slice A0 l0.length c0] w
      fun e w' => ∃ v, e = .returned (.tuple #[v, .bool (opF l0).2]) ∧ RS w.heap.size w' v (opF l0).1 ∧ Below w.heap.size w w' := by
  have HR := Aside0.mk hr0
  clear hr0
  by_cases hs : l0.length < 4
  · have hf : opF l0 = ([], false) := if_pos hs
    rw [hf]
    clear hf
    obtain ⟨m, hm⟩ : ∃ m, m = l0.length := ⟨_, rfl⟩
    rw [← hm] at hl hs hc0 ⊢
    clear hm
    have e1 : decide ((m : Int) < 4) = true := decide_eq_true (by omega)
    go_enter Tryd.func28, Tryd.ntmps28
    go_wp2
    go_ret2
    exact ⟨_, rfl, RS.nil _ _, Below.refl _ _⟩
  · have hf : opF l0 = if frameF (l0.take (l0.length - 4)) = l0 then (l0.take (l0.length - 4), true) else ([], false) := if_neg hs
    obtain ⟨n, hn⟩ : ∃ n, l0.length = n + 4 := ⟨l0.length - 4, by omega⟩
    have hCR := HR.out
    rw [hn] at hCR hl hc0 hf ⊢
    rw [show n + 4 - 4 = n by omega] at hf
    have e1 : decide (((n + 4 : Nat) : Int) < 4) = false := decide_eq_false (by omega)
    have e0 : ((n + 4 : Nat) : Int) - 4 = (n : Int) := by omega
    have hcut := cutTo A0 (n + 4) c0 n (by omega)
    have hC1 := C_first hCR n (by omega)
    have hln : (l0.take n).length = n := by rw [List.length_take]; omega
    have hfr := fun W (h : Kd.C (Kd.int .u8) W A0 n (l0.take n)) => rFrame_callsF A0 c0 n (l0.take n) W hln h (by omega)
    have hfb : ∀ x ∈ frameF (l0.take n), 0 ≤ x ∧ x < 256 := frameF_range _ (fun x hx => hb x (List.mem_of_mem_take hx))
    have hsx : (strOfNums (frameF (l0.take n))).toList = (strOfNums l0).toList ↔ frameF (l0.take n) = l0 := strList_inj hfb hb
    have conv0 : ∀ W', Below w.heap.size w W' → (convert 23 9 (.slice A0 (n + 4) c0)).run Tryd.prog W' = .ok (.string (strOfNums l0)) W' := fun W' hb' => Kd.C_string (P := Tryd.prog) Tryd.underlying23 Tryd.underlying5 Tryd.underlying9 (Kd.C_below hCR hb')
    clear hfb hb
    by_cases hx : frameF (l0.take n) = l0
    · have hf2 := hf
      rw [if_pos hx] at hf2
      rw [hf2]
      have hse : strOfNums (frameF (l0.take n)) = strOfNums l0 := by rw [hx]
      have HLN := Aside0.mk hln; have HN := Aside0.mk hn; have HCR := Aside0.mk hCR; have HC1 := Aside0.mk hC1; have HX := Aside0.mk hx
      have HB := Aside0.mk (Below.refl w.heap.size w)
      clear hln hn hCR hC1 hf hf2 hx hsx
      generalize hF : frameF (l0.take n) = Fr at hfr hse
      have HF := Aside0.mk hF
      clear hF
      have HSE := Aside0.mk hse; clear hse
      obtain ⟨s0, hs0⟩ : ∃ s0, s0 = strOfNums l0 := ⟨_, rfl⟩
      rw [← hs0] at conv0
      have HS0 := Aside0.mk hs0; clear hs0
      go_enter Tryd.func28, Tryd.ntmps28
      go_wp2_with fail
      refine wp_region_held_drew (S := fun w' => (convert 23 9 (.slice A0 (n + 4) c0)).run Tryd.prog w' = .ok (.string s0) w') (by kernel_rfl) (conv0 _ (below_drew1 HB.out)) (fun hHeld => ?_)
      refine wpAnyH_take (i := 0) (oi := { dst := some 13, op := Op.move (Operand.tmp 4), type := 23, pos := "ref.go:132", after := #[], guard := none }) (v := .slice A0 n c0) rfl (by kernel_rfl) (by kernel_rfl) (by kernel_rfl) (fun _ _ _ h => h) (Or.inl ⟨by rfl, by intro w_ hSw; (try dsimp only at hSw); go_simp⟩) (by assumption) ?_
      try simp only [Act.put, List.setIfInBounds_toArray, List.set_cons_zero, List.set_cons_succ]
      refine wpAnyH_take (i := 3) (oi := { dst := some 16, op := Op.move (Operand.tmp 0), type := 23, pos := "ref.go:132", after := #[], guard := none }) (v := .slice A0 (n + 4) c0) rfl (by kernel_rfl) (by kernel_rfl) (by kernel_rfl) (fun _ _ _ h => h) (Or.inl ⟨by rfl, by intro w_ hSw; (try dsimp only at hSw); go_simp⟩) (by assumption) ?_
      try simp only [Act.put, List.setIfInBounds_toArray, List.set_cons_zero, List.set_cons_succ]
      refine wpAnyH_take (i := 4) (oi := { dst := some 17, op := Op.convert 23 9 (Operand.tmp 16), type := 9, pos := "ref.go:132", after := #[{ on := 3, ground := Ground.data }], guard := none }) (v := .string s0) rfl (by kernel_rfl) (by kernel_rfl) (by kernel_rfl) (fun _ _ _ h => h) (Or.inl ⟨by rfl, by intro w_ hSw; (try dsimp only at hSw); go_simp⟩) (by assumption) ?_
      try simp only [Act.put, List.setIfInBounds_toArray, List.set_cons_zero, List.set_cons_succ]
      refine wpAnyH_ready (rs := [1]) (by kernel_rfl) (by simp) ?_
      refine AllReadyH.cons (o := { dst := some 14, op := Op.call { callee := Callee.value (Operand.func 30), args := #[Operand.tmp 13], argTypes := #[23] }, type := 23, pos := "ref.go:132", after := #[{ on := 0, ground := Ground.data }], guard := none }) rfl (fun K hK => ?_) AllReadyH.nil
      go_simp
      ((with_reducible refine (hfr _ (Kd.C_below HC1.out (below_drew1 HB.out))).mono ?_); rintro e_ W1 ⟨v_, rfl, ho_, hb_⟩)
      have n_ := Aside0.mk (below_step (below_drew1 HB.out) hb_); clear HB; have HB := n_; clear n_ hb_ hfr
      obtain ⟨sp_, ho_⟩ := ho_
      obtain ⟨A10, c10, e_, _, hC_⟩ := Kd.R_reads ho_.R
      subst e_
      have s2 := Kd.C_string (P := Tryd.prog) (c := c10) Tryd.underlying23 Tryd.underlying5 Tryd.underlying9 hC_
      clear ho_ hC_ hHeld
      rw [HSE.out, ← HS0.out] at s2
      go_wp2_with fail
      refine hK.out _ _ (conv0 _ HB.out) (fun hHeld => ?_)
      clear hK K
      try simp only [Act.put, List.setIfInBounds_toArray, List.set_cons_zero, List.set_cons_succ]
      refine wpAnyH_ready (rs := [2]) (by kernel_rfl) (by simp) ?_
      refine AllReadyH.cons (o := { dst := some 15, op := Op.convert 23 9 (Operand.tmp 14), type := 9, pos := "ref.go:132", after := #[{ on := 1, ground := Ground.data }], guard := none }) rfl (fun K hK => ?_) AllReadyH.nil
      go_simp
      refine hK.out _ _ (conv0 _ HB.out) (fun hHeld => ?_)
      clear hK K
      try simp only [Act.put, List.setIfInBounds_toArray, List.set_cons_zero, List.set_cons_succ]
      refine wpAnyH_take (i := 5) (oi := { dst := some 18, op := Op.binOp BinOp.neq 9 (Operand.tmp 15) (Operand.tmp 17) 9, type := 4, pos := "ref.go:132", after := #[{ on := 2, ground := Ground.data }, { on := 4, ground := Ground.data }], guard := none }) (v := .bool false) rfl (by kernel_rfl) (by kernel_rfl) (by kernel_rfl) (fun _ _ _ h => h) (Or.inl ⟨by rfl, by intro w_ hSw; (try dsimp only at hSw); go_simp⟩) (by assumption) ?_
      try simp only [Act.put, List.setIfInBounds_toArray, List.set_cons_zero, List.set_cons_succ]
      refine wpAnyH_done (by kernel_rfl) ?_ _
      have hbn := below_alloc HB.out (.cells #[] 5)
      have HBN := Aside0.mk hbn; clear hbn
      have HO0 : Aside0 (RF w.heap.size (W1.alloc (.cells #[] 5)) (.slice (some ⟨W1.heap.size, 0, none⟩) 0 0) [] []) := ⟨.inr ⟨W1.heap.size, rfl, below_size HB.out, (MapKept.heap_alloc W1 _).1, by simp, by simp⟩⟩
      go_wp2_with (first | ((with_reducible refine gate_builtin (b := .append) (xs := #[.tmp 19, .tmp 20]) rfl ?_); at_builtin; refine wp_rf_rows (w0 := w) w.heap.size rfl (.tmp 19) (.tmp 20) rfl _ [] [] (l0.take n) _ _ _ rfl rfl HO0.out (Kd.C_below HC1.out HBN.out) HBN.out (below_size HBN.out) (by simp; omega) ?_; intro v1 w1 sp1 ho hb hg; have HO1 := Aside0.mk ho; clear HB HBN; have HB := Aside0.mk hb; clear ho hb hg))
      go_ret2
      exact ⟨_, rfl, ⟨_, HO1.out⟩, HB.out⟩
    · have hf2 := hf
      rw [if_neg hx] at hf2
      rw [hf2]
      have hse : ¬ (strOfNums (frameF (l0.take n))).toList = (strOfNums l0).toList := fun h => hx (hsx.1 h)
      have HLN := Aside0.mk hln; have HN := Aside0.mk hn; have HCR := Aside0.mk hCR; have HC1 := Aside0.mk hC1; have HX := Aside0.mk hx
      have HB := Aside0.mk (Below.refl w.heap.size w)
      clear hln hn hCR hC1 hf hf2 hx hsx
      generalize hF : frameF (l0.take n) = Fr at hfr hse
      have HF := Aside0.mk hF
      clear hF
      obtain ⟨s0, hs0⟩ : ∃ s0, s0 = strOfNums l0 := ⟨_, rfl⟩
      rw [← hs0] at conv0 hse
      have HSE := Aside0.mk hse; clear hse
      clear hs0
      go_enter Tryd.func28, Tryd.ntmps28
      go_wp2_with fail
      refine wp_region_held_drew (S := fun w' => (convert 23 9 (.slice A0 (n + 4) c0)).run Tryd.prog w' = .ok (.string s0) w') (by kernel_rfl) (conv0 _ (below_drew1 HB.out)) (fun hHeld => ?_)
      refine wpAnyH_take (i := 0) (oi := { dst := some 13, op := Op.move (Operand.tmp 4), type := 23, pos := "ref.go:132", after := #[], guard := none }) (v := .slice A0 n c0) rfl (by kernel_rfl) (by kernel_rfl) (by kernel_rfl) (fun _ _ _ h => h) (Or.inl ⟨by rfl, by intro w_ hSw; (try dsimp only at hSw); go_simp⟩) (by assumption) ?_
      try simp only [Act.put, List.setIfInBounds_toArray, List.set_cons_zero, List.set_cons_succ]
      refine wpAnyH_take (i := 3) (oi := { dst := some 16, op := Op.move (Operand.tmp 0), type := 23, pos := "ref.go:132", after := #[], guard := none }) (v := .slice A0 (n + 4) c0) rfl (by kernel_rfl) (by kernel_rfl) (by kernel_rfl) (fun _ _ _ h => h) (Or.inl ⟨by rfl, by intro w_ hSw; (try dsimp only at hSw); go_simp⟩) (by assumption) ?_
      try simp only [Act.put, List.setIfInBounds_toArray, List.set_cons_zero, List.set_cons_succ]
      refine wpAnyH_take (i := 4) (oi := { dst := some 17, op := Op.convert 23 9 (Operand.tmp 16), type := 9, pos := "ref.go:132", after := #[{ on := 3, ground := Ground.data }], guard := none }) (v := .string s0) rfl (by kernel_rfl) (by kernel_rfl) (by kernel_rfl) (fun _ _ _ h => h) (Or.inl ⟨by rfl, by intro w_ hSw; (try dsimp only at hSw); go_simp⟩) (by assumption) ?_
      try simp only [Act.put, List.setIfInBounds_toArray, List.set_cons_zero, List.set_cons_succ]
      refine wpAnyH_ready (rs := [1]) (by kernel_rfl) (by simp) ?_
      refine AllReadyH.cons (o := { dst := some 14, op := Op.call { callee := Callee.value (Operand.func 30), args := #[Operand.tmp 13], argTypes := #[23] }, type := 23, pos := "ref.go:132", after := #[{ on := 0, ground := Ground.data }], guard := none }) rfl (fun K hK => ?_) AllReadyH.nil
      go_simp
      ((with_reducible refine (hfr _ (Kd.C_below HC1.out (below_drew1 HB.out))).mono ?_); rintro e_ W1 ⟨v_, rfl, ho_, hb_⟩)
      have n_ := Aside0.mk (below_step (below_drew1 HB.out) hb_); clear HB; have HB := n_; clear n_ hb_ hfr
      obtain ⟨sp_, ho_⟩ := ho_
      obtain ⟨A10, c10, e_, _, hC_⟩ := Kd.R_reads ho_.R
      subst e_
      have s2 := Kd.C_string (P := Tryd.prog) (c := c10) Tryd.underlying23 Tryd.underlying5 Tryd.underlying9 hC_
      clear ho_ hC_ hHeld
      generalize strOfNums Fr = s1 at s2 HSE
      have q1 := HSE.out
      go_wp2_with fail
      refine hK.out _ _ (conv0 _ HB.out) (fun hHeld => ?_)
      clear hK K
      try simp only [Act.put, List.setIfInBounds_toArray, List.set_cons_zero, List.set_cons_succ]
      refine wpAnyH_ready (rs := [2]) (by kernel_rfl) (by simp) ?_
      refine AllReadyH.cons (o := { dst := some 15, op := Op.convert 23 9 (Operand.tmp 14), type := 9, pos := "ref.go:132", after := #[{ on := 1, ground := Ground.data }], guard := none }) rfl (fun K hK => ?_) AllReadyH.nil
      go_simp
      refine hK.out _ _ (conv0 _ HB.out) (fun hHeld => ?_)
      clear hK K
      try simp only [Act.put, List.setIfInBounds_toArray, List.set_cons_zero, List.set_cons_succ]
      refine wpAnyH_take (i := 5) (oi := { dst := some 18, op := Op.binOp BinOp.neq 9 (Operand.tmp 15) (Operand.tmp 17) 9, type := 4, pos := "ref.go:132", after := #[{ on := 2, ground := Ground.data }, { on := 4, ground := Ground.data }], guard := none }) (v := .bool true) rfl (by kernel_rfl) (by kernel_rfl) (by kernel_rfl) (fun _ _ _ h => h) (Or.inl ⟨by rfl, by intro w_ hSw; (try dsimp only at hSw); go_simp⟩) (by assumption) ?_
      try simp only [Act.put, List.setIfInBounds_toArray, List.set_cons_zero, List.set_cons_succ]
      refine wpAnyH_done (by kernel_rfl) ?_ _
      go_wp2
      go_ret2
      exact ⟨_, rfl, RS.nil _ _, HB.out⟩
end Go.Proofs.YtcgjaobbjeagoaaDoor
