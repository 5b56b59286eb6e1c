/- The document's Print; the law FixTexts. -/
import Derived.Test.YtcnibfancjofhaaDoorRf2
import Derived.Test.YtcnibfancjofhaaDoorRf3
import Derived.Test.YtcnibfancjofhaaDoorFixV
namespace Go.Proofs.YtcnibfancjofhaaDoor
open Go.RowKit Go.Proofs.YtcnibfancjofhaaDoorW.PrintWords Go.Proofs.YtcnibfancjofhaaDoorW.PrintLast Go.Proofs.YtcnibfancjofhaaDoorW.PrintMore
set_option linter.unusedVariables false
set_option linter.unusedSimpArgs false
/-- An own row of bytes; its mark, if it has one, lies behind all its cells. -/
def RowE (w : World) (base : Nat) (v : Value) (l : List UInt8) : Prop :=
  ∃ g cap cur fz, v = .slice (some ⟨g, 0, none⟩) l.length cap ∧ base ≤ g ∧ w.heap[g]? = some (.cells cur 5 fz) ∧ (cap ≤ fz.1 ∨ fz.2 = 0) ∧ l.length ≤ cap ∧ cap ≤ maxLen ∧ cur.size = cap ∧ cur.toList.take l.length = Lib.byteCells l
theorem RowE.cells {w : World} {base : Nat} {v : Value} {l : List UInt8} (h : RowE w base v l) : ∃ g cap, v = .slice (some ⟨g, 0, none⟩) l.length cap ∧ base ≤ g ∧ g < w.heap.size ∧ ∀ j (hj : j < l.length), w.cell? ⟨g, j, none⟩ = some (.int .u8 (l[j].toNat : Int)) := by
  obtain ⟨g, cap, cur, fz, hv, hb, hg, _, hl, _, hcs, ht⟩ := h
  refine ⟨g, cap, hv, hb, (Array.getElem?_eq_some_iff.1 hg).1, fun j hj => ?_⟩
  rw [cell_of_row w g j cur _ fz hg]
  have e : (cur.toList.take l.length)[j]? = (Lib.byteCells l)[j]? := by rw [ht]
  rw [List.getElem?_take_of_lt hj] at e
  rw [← Array.getElem?_toList, e]
  simp [Lib.byteCells, hj]
theorem RowE.mono {w w' : World} {base : Nat} {v : Value} {l : List UInt8} (h : RowE w base v l) (hk : ∀ k, v.ownBlock = some k → k < w.heap.size → w'.heap[k]? = w.heap[k]?) : RowE w' base v l := by
  obtain ⟨g, cap, cur, fz, hv, hb, hg, rest⟩ := h
  refine ⟨g, cap, cur, fz, hv, hb, ?_, rest⟩
  rw [hk g (by rw [hv]; rfl) (Array.getElem?_eq_some_iff.1 hg).1]
  exact hg
theorem RowE.alloc {w : World} {base : Nat} {v : Value} {l : List UInt8} (h : RowE w base v l) (o : Obj) : RowE (w.alloc o) base v l := h.mono fun k _ hk => heap_alloc_old w o hk
theorem RowE.bytes (w : World) (base : Nat) (s : ByteArray) (hb : base ≤ w.heap.size) (hs : s.size ≤ maxLen) : RowE (Lib.bytesWorld w 5 s) base (.slice (some ⟨w.heap.size, 0, none⟩) s.size (grownCap w s.size 0 5)) s.data.toList := by
  have hge := grownCap_ge w s.size 0 5
  have hcm := grownCap_le_maxLen w s.size 0 5 hs
  have hsl : s.data.toList.length = s.size := (Lib.size_eq s).symm
  have hsz : (Lib.bytesCells w 5 s).size = grownCap w s.size 0 5 := by
    simp only [Lib.bytesCells, Array.size_append, Array.size_map, Array.size_replicate]
    have : s.data.size = s.size := rfl
    omega
  refine ⟨w.heap.size, _, _, _, by rw [hsl], hb, Lib.bytesWorld_at_new w 5 s, .inl (by rw [hsz]; exact Nat.le_refl _), by rw [hsl]; exact hge, hcm, hsz, ?_⟩
  simp only [Lib.bytesCells, Array.toList_append, Array.toList_map]
  rw [List.take_append_of_le_length (by simp), List.take_of_length_le (by simp)]
  rfl
theorem run_append_e (base : Nat) (w : World) (ty : TypeId) (v : Value) (l : List UInt8) (h : RowE w base v l) (ad : Addr) (c : Nat) (x : UInt8) (hx : w.cell? ad = some (.int .u8 (x.toNat : Int))) (hl : l.length + 1 ≤ 1000000) (hb : base ≤ w.heap.size) :
    ∃ v1 w1, (Builtin.append_ #[39, 39] ty #[v, .slice (some ad) 1 c]).run Tryd.prog w = .ok v1 w1 ∧ RowE w1 base v1 (l ++ [x]) ∧ w.grownBy w1 v.ownBlock := by
  obtain ⟨i0, hi0, hz0, hsz0, hby0⟩ := info_parts infoB
  have hu := Tryd.underlying39
  have hnews : ∀ j u, ([Value.int .u8 (x.toNat : Int)] : List Value)[j]? = some u → w.cell? (ad.add j) = some u := by
    intro j u hj
    match j, hj with
    | 0, hj =>
      simp at hj
      subst hj
      have : ad.add 0 = ad := by unfold Addr.add; split <;> simp_all
      rw [this]; exact hx
  have hcells := h.cells
  obtain ⟨g, cap, cur, fz, rfl, hbg, hg, hfz, hlc, hcm, hcs, htake⟩ := h
  have hbl : (Lib.byteCells l).length = l.length := Lib.byteCells_length l
  have hblx : Lib.byteCells (l ++ [x]) = Lib.byteCells l ++ [.int .u8 (x.toNat : Int)] := by simp [Lib.byteCells]
  by_cases hroom : l.length + 1 ≤ cap
  · have hcell : w.cell? ⟨g, l.length, none⟩ = some cur[l.length] := by
      rw [cell_of_row w g _ cur _ fz hg]; exact Array.getElem?_eq_getElem (by omega)
    have hfro : w.frozen? ⟨g, l.length, none⟩ = false := by
      obtain ⟨lo, hi⟩ := fz
      simp only at hfz
      simp only [World.frozen?, hg, Bool.and_eq_false_iff, decide_eq_false_iff_not]
      omega
    have hst : (storeCells ⟨g, l.length, none⟩ [Value.int .u8 (x.toNat : Int)] 0).run Tryd.prog w = .ok () (w.setCell ⟨g, l.length, none⟩ (.int .u8 (x.toNat : Int))) := by
      have ha : (⟨g, l.length, none⟩ : Addr).add 0 = ⟨g, l.length, none⟩ := by unfold Addr.add; split <;> simp_all
      simp only [storeCells, Sem.run_bind, ha]
      rw [run_store Tryd.prog w _ _ _ rfl, hcell]
      simp [hfro]
    have hf := run_firstCells_some (P := Tryd.prog) w i0.size 1 ad 1 c [Value.int .u8 (x.toNat : Int)] (by rw [hsz0]; rfl) hnews
    refine ⟨.slice (some ⟨g, 0, none⟩) (l.length + 1) cap, w.setCell ⟨g, l.length, none⟩ (.int .u8 (x.toNat : Int)), ?_, ?_, ?_⟩
    · rw [hsz0] at hf
      simp [Builtin.append_, run_underlying hu, sizeOf, typeInfo, hi0, hsz0, Builtin.lenOf, hroom, hf, Addr.add_lit, hst]
    · refine ⟨g, cap, _, fz, by simp, hbg, Lib.heap_setCell_same hg _, hfz, by simpa using hroom, hcm, by simpa using hcs, ?_⟩
      rw [hblx, ← htake]
      have hlen : l.length < cur.toList.length := by have h9 : cur.toList.length = cur.size := Array.length_toList; omega
      rw [Array.toList_setIfInBounds, List.length_append, List.length_singleton, List.take_succ_eq_append_getElem (by rw [List.length_set]; exact hlen), List.getElem_set_self, List.take_set_of_le (Nat.le_refl _)]
    · exact ⟨rfl, rfl, rfl, by simp [World.setCell], fun k _ hk => Below.heap_setCell _ _ _ _ (fun e => hk (by simp [Value.ownBlock, e]))⟩
  · have holds : ∀ j u, (Lib.byteCells l)[j]? = some u → w.cell? ((⟨g, 0, none⟩ : Addr).add j) = some u := by
      intro j u hj
      rw [add_plain, cell_of_row w g j cur _ fz hg, ← hj, ← htake]
      have hjl : j < l.length := by rw [← hbl]; exact (List.getElem?_eq_some_iff.1 hj).1
      rw [List.getElem?_take_of_lt hjl, Array.getElem?_toList]
    have hlt : cap < l.length + 1 := by omega
    have hrun := run_append_grow (P := Tryd.prog) w 39 ty 5 i0 (.int .u8 0) hu hi0 hz0 ⟨g, 0, none⟩ l.length cap (Lib.byteCells l) (by rw [hsz0, hbl, Nat.mul_one]) holds ad 1 c _ (by rw [hsz0]; rfl) hnews hlt (by omega) (by rw [hby0]; exact growslice_fits hlt (by omega))
    have hge := grownCap_ge w (l.length + 1) cap 5
    have hcm2 := grownCap_le_maxLen w (l.length + 1) cap 5 (by simp only [maxLen]; omega)
    refine ⟨_, _, hrun, ⟨w.heap.size, _, _, (0, 0), by simp, hb, heap_alloc_new w.drew _, .inr rfl, by simpa using hge, hcm2, ?_, ?_⟩, ⟨rfl, rfl, rfl, by simp, fun k hk _ => heap_alloc_old w.drew _ hk⟩⟩
    · have hz1 : (Value.int IntKind.u8 0).cells.size = 1 := rfl
      simp only [Array.size_append, List.size_toArray, size_zeroCells, hz1, hbl, List.length_singleton]
      omega
    · rw [hblx]
      simp only [Array.toList_append, List.append_assoc]
      rw [← List.append_assoc, List.take_append_of_le_length (by simp [hbl]), List.take_of_length_le (by simp [hbl])]
theorem wpList_append_e {ops : Array Oper} {rest : List Oper} {o : Oper} {a : Act} {Q : Exit → Act → World → Prop} (hgd : o.guard = none) (s x : Operand) (ho : o.op = .call { callee := .builtin .append, args := #[s, x], argTypes := #[39, 39] })
    (base : Nat) (w : World) (v : Value) (l : List UInt8) (hs : a.eval s = v) (h : RowE w base v l) (ad : Addr) (c : Nat) (y : UInt8) (hx : a.eval x = .slice (some ad) 1 c) (hc : w.cell? ad = some (.int .u8 (y.toNat : Int))) (hl : l.length + 1 ≤ 1000000) (hb : base ≤ w.heap.size)
    (hh : ∀ v1 w1, RowE w1 base v1 (l ++ [y]) → w.grownBy w1 v.ownBlock → wpList Tryd.prog ops Q rest (a.put o.dst v1) w1) : wpList Tryd.prog ops Q (o :: rest) a w := by
  refine wpList_plain hgd fun K hK => ?_
  obtain ⟨v1, w1, hr, h2, h3⟩ := run_append_e base w o.type v l h ad c y hc hl hb
  unfold Oper.wp execOp
  simp only [ho, resolve, invoke, builtin, Sem.run_bind, Sem.run_pure, Result.andThen_ok, List.map_toArray, List.map_cons, List.map_nil, hs, hx, hr]
  exact hK _ _ (hh v1 w1 h2 h3)
/-- The document's decimal. -/
theorem rdec_f : ∀ (k u : Nat), u < 10 ^ k → u < 18446744073709551616 → 1 ≤ k → k ≤ 100 → PFixTexts.tiltyardref03_decimal.f k (u : Int) = some ⟨(Lib.decDigits u).toArray⟩ ∧ (Lib.decDigits u).length ≤ k
  | 0, u, h, _, hk, _ => by omega
  | k + 1, u, h, h64, _, hk => by
    have hsn : ∀ d : Nat, d < 10 → strOfNums [(48 + d : Nat)] = (⟨#[UInt8.ofNat (48 + d)]⟩ : ByteArray) := by
      intro d hd; rfl
    rw [PFixTexts.tiltyardref03_decimal.f]
    by_cases h10 : u < 10
    · rw [if_pos (by omega), wrap_u64, show ((48 + (u : Int)) % 18446744073709551616) % 256 = ((48 + u : Nat) : Int) by omega, hsn u h10, Lib.decDigits, dif_pos h10]
      exact ⟨rfl, by simp⟩
    · rw [if_neg (by omega)]
      have hk1 : 1 ≤ k := by
        rcases Nat.eq_zero_or_pos k with e | e
        · subst e; simp at h; omega
        · exact e
      have hlt : u / 10 < 10 ^ k := by rw [Nat.pow_succ] at h; omega
      obtain ⟨ih1, ih2⟩ := rdec_f k (u / 10) hlt (by omega) hk1 (by omega)
      rw [Int.tdiv_eq_ediv_of_nonneg (by omega), Int.tmod_eq_emod_of_nonneg (by omega), wrap_u64, wrap_u64]
      rw [show ((u : Int) / 10) % 18446744073709551616 = ((u / 10 : Nat) : Int) by omega, ih1]
      rw [show ((48 + (u : Int) % 10) % 18446744073709551616) % 256 = ((48 + u % 10 : Nat) : Int) by omega]
      simp only [Option.bind_some]
      rw [hsn (u % 10) (by omega)]
      have hs1 : (⟨(Lib.decDigits (u / 10)).toArray⟩ : ByteArray).size = (Lib.decDigits (u / 10)).length := by show (Lib.decDigits (u / 10)).toArray.size = _; simp
      have hs2 : (⟨#[UInt8.ofNat (48 + u % 10)]⟩ : ByteArray).size = 1 := rfl
      rw [if_pos (by rw [hs1, hs2]; omega)]
      rw [Lib.decDigits.eq_def u, dif_neg h10]
      constructor
      · refine congrArg some (ByteArray.ext ?_)
        rw [ByteArray.data_append]
        simp
      · rw [List.length_append, List.length_singleton]; omega
theorem rdec_calls (u : Nat) (h64 : u < 18446744073709551616) (w : World) :
    Calls Tryd.prog 41 #[.int .u64 u] w fun e w' => e = .returned (.string ⟨(Lib.decDigits u).toArray⟩) ∧ Below w.heap.size w w' :=
  PFixTexts.tiltyardref03_decimal.calls 20 u _ w (rdec_f 20 u (by omega) h64 (by omega) (by omega)).1
theorem ustep_cdig {U : Int} (h : Rep (cdig U) U) (hU : U < 18446744073709551616) : ustep (cdig U) 4 = U := by
  rw [ustep4]
  exact (h.high (m := 4) (by omega) (by rw [pw4]; exact hU)).2
set_option maxHeartbeats 8000000 in
set_option maxRecDepth 100000 in
theorem rPrint_neg (a U : Int) (w : World) (ha : I64 a) (hm : decide (a < 0) = true) (hU : U = (a.natAbs : Int)) :
    Calls Tryd.prog 15 #[.int .i64 a] w
      fun e w' => e = .returned (.string ⟨([45] ++ printF U).toArray⟩) ∧ Below w.heap.size w w' := by
  have HB := Aside0.mk (Below.refl w.heap.size w)
  have h1 := ha.1; have h2 := ha.2
  have hU0 : 0 ≤ U := by omega
  have hU1 : U ≤ 9223372036854775808 := by omega
  have hof := fun W => of_ex a W ha
  rw [hm, ← hU] at hof
  have rU : Rep (cdig U) U := rep_cdig hU0 (by omega)
  have hus := ustep_cdig rU (by omega)
  obtain ⟨q, hq⟩ : ∃ q, q = (U / 4294967296).toNat := ⟨_, rfl⟩
  have hq1 : U / 4294967296 = (q : Int) := by omega
  have hq9 : q < 10 ^ 10 := by omega
  have hdec := fun W => rdec_calls q (by omega) W
  obtain ⟨t, ht⟩ : ∃ t, t = Lib.decDigits q := ⟨_, rfl⟩
  have htl : t.length ≤ 10 := by rw [ht]; exact decDigits_le (k := 9) hq9
  rw [← ht] at hdec
  have HT := Aside0.mk ht; have HQ := Aside0.mk hq
  obtain ⟨st, hst⟩ : ∃ st : ByteArray, st = ⟨t.toArray⟩ := ⟨_, rfl⟩
  rw [← hst] at hdec
  have hstz : st.size = t.length := by rw [hst]; show t.toArray.size = _; simp
  obtain ⟨F, hF⟩ : ∃ F : ByteArray, F = (⟨#[45]⟩ : ByteArray) ++ st ++ (⟨#[46]⟩ : ByteArray) := ⟨_, rfl⟩
  have hFz : F.size = t.length + 2 := by rw [hF, ByteArray.size_append, ByteArray.size_append, hstz]; show 1 + _ + 1 = _; omega
  have hFd : F.data.toList = [45] ++ (t ++ [46]) := by rw [hF, ByteArray.data_append, ByteArray.data_append, hst]; simp
  have hA1 : (⟨#[45]⟩ : ByteArray) ++ st ++ (⟨#[46]⟩ : ByteArray) = F := hF.symm
  have hz1 : st.size + 1 ≤ 9223372036854775807 := by omega
  have hz2 : 1 + st.size ≤ 9223372036854775807 := by omega
  have hz5 : 1 + st.size + 1 ≤ 9223372036854775807 := by omega
  have hz4 : st.size ≤ 9223372036854775807 := by omega
  have hz3 : ((⟨#[45]⟩ : ByteArray) ++ st).size + 1 ≤ 9223372036854775807 := by rw [ByteArray.size_append, show (⟨#[45]⟩ : ByteArray).size = 1 from rfl]; omega
  have kb := fun W => print_bytes (P := Tryd.prog) 9 39 5 Tryd.underlying9 Tryd.underlying39 Tryd.underlying5 F W
  obtain ⟨r, hr⟩ : ∃ r, r = U % 4294967296 := ⟨_, rfl⟩
  have hr0 : 0 ≤ r ∧ r < 4294967296 := by omega
  have HR := Aside0.mk hr
  have HD : Aside0 (Div2 32 r) := ⟨by unfold Div2; simp⟩
  have HUM := Aside0.mk (show U % 4294967296 = r from hr.symm); have HUQ := Aside0.mk hq1; have HUS := Aside0.mk hus; have HFZ := Aside0.mk hFz; have HFD := Aside0.mk hFd
  have HB4 := Lib.hid hU; have HST := Lib.hid hst; have HSTZ := Lib.hid hstz; have HFF := Lib.hid hF; clear hU hst hstz hF hq ht hr hq1 hus hFz hFd hm
  go_enter Tryd.func15, Tryd.ntmps15
  go_wp2_with fail
  ((with_reducible refine (hof _).mono ?_); rintro e_ W1 ⟨rfl, hb_⟩)
  have n_ := Aside0.mk (below_step HB.out hb_); clear HB; have HB := n_; clear n_
  clear hb_
  clear hof
  go_wp2_with (first | ((with_reducible refine gate_dst (N := 3) rfl ?_); refine box_event ?hg (N := 3) ?hd (cs := #[.bool false, .int .i64 0, .int .i64 0, .int .i64 0, .int .i64 0, .int .i64 0, .int .i64 0, .int .i64 0, .int .i64 0]) (t := 60) ?hr ?_; (case hd => rfl); (case hg => rfl); (case hr => first | (go_simp; done) | (go_simp; rfl)); intro g3 hg_ W2 hbox_ hb_; have GEg3 := Aside0.mk ((by rw [hg_]; exact (below_size HB.out)) : w.heap.size ≤ g3); clear hg_; have n_ := Aside0.mk (below_step HB.out hb_); clear HB; have HB := n_; clear n_; have BKg3 := Aside0.mk hbox_; clear hbox_ hb_; have hcg3_0 : W2.cell? ⟨g3, 0, none⟩ = some (.bool false) := (blk_cell BKg3.out 0).trans rfl; have hfg3_0 := blk_frozen BKg3.out 0; have hcg3_1 : W2.cell? ⟨g3, 1, none⟩ = some (.int .i64 0) := (blk_cell BKg3.out 1).trans rfl; have hfg3_1 := blk_frozen BKg3.out 1; have hcg3_2 : W2.cell? ⟨g3, 2, none⟩ = some (.int .i64 0) := (blk_cell BKg3.out 2).trans rfl; have hfg3_2 := blk_frozen BKg3.out 2; have hcg3_3 : W2.cell? ⟨g3, 3, none⟩ = some (.int .i64 0) := (blk_cell BKg3.out 3).trans rfl; have hfg3_3 := blk_frozen BKg3.out 3; have hcg3_4 : W2.cell? ⟨g3, 4, none⟩ = some (.int .i64 0) := (blk_cell BKg3.out 4).trans rfl; have hfg3_4 := blk_frozen BKg3.out 4; have hcg3_5 : W2.cell? ⟨g3, 5, none⟩ = some (.int .i64 0) := (blk_cell BKg3.out 5).trans rfl; have hfg3_5 := blk_frozen BKg3.out 5; have hcg3_6 : W2.cell? ⟨g3, 6, none⟩ = some (.int .i64 0) := (blk_cell BKg3.out 6).trans rfl; have hfg3_6 := blk_frozen BKg3.out 6; have hcg3_7 : W2.cell? ⟨g3, 7, none⟩ = some (.int .i64 0) := (blk_cell BKg3.out 7).trans rfl; have hfg3_7 := blk_frozen BKg3.out 7; have hcg3_8 : W2.cell? ⟨g3, 8, none⟩ = some (.int .i64 0) := (blk_cell BKg3.out 8).trans rfl; have hfg3_8 := blk_frozen BKg3.out 8))
  have n_ : Aside0 ((((((((((W2.setCell ⟨g3, 0, none⟩ (.bool true)).setCell ⟨g3, 1, none⟩ (.int .i64 ((cdig U) 0))).setCell ⟨g3, 2, none⟩ (.int .i64 ((cdig U) 1))).setCell ⟨g3, 3, none⟩ (.int .i64 ((cdig U) 2))).setCell ⟨g3, 4, none⟩ (.int .i64 ((cdig U) 3))).setCell ⟨g3, 5, none⟩ (.int .i64 ((cdig U) 4))).setCell ⟨g3, 6, none⟩ (.int .i64 ((cdig U) 5))).setCell ⟨g3, 7, none⟩ (.int .i64 ((cdig U) 6))).setCell ⟨g3, 8, none⟩ (.int .i64 ((cdig U) 7))).heap[g3]? = some (.cells #[.bool true, .int .i64 ((cdig U) 0), .int .i64 ((cdig U) 1), .int .i64 ((cdig U) 2), .int .i64 ((cdig U) 3), .int .i64 ((cdig U) 4), .int .i64 ((cdig U) 5), .int .i64 ((cdig U) 6), .int .i64 ((cdig U) 7)] 60 (0, 0))) := ⟨by refine blk_put (cs := #[.bool true, .int .i64 ((cdig U) 0), .int .i64 ((cdig U) 1), .int .i64 ((cdig U) 2), .int .i64 ((cdig U) 3), .int .i64 ((cdig U) 4), .int .i64 ((cdig U) 5), .int .i64 ((cdig U) 6), .int .i64 0]) ?_ 8 _ rfl; refine blk_put (cs := #[.bool true, .int .i64 ((cdig U) 0), .int .i64 ((cdig U) 1), .int .i64 ((cdig U) 2), .int .i64 ((cdig U) 3), .int .i64 ((cdig U) 4), .int .i64 ((cdig U) 5), .int .i64 0, .int .i64 0]) ?_ 7 _ rfl; refine blk_put (cs := #[.bool true, .int .i64 ((cdig U) 0), .int .i64 ((cdig U) 1), .int .i64 ((cdig U) 2), .int .i64 ((cdig U) 3), .int .i64 ((cdig U) 4), .int .i64 0, .int .i64 0, .int .i64 0]) ?_ 6 _ rfl; refine blk_put (cs := #[.bool true, .int .i64 ((cdig U) 0), .int .i64 ((cdig U) 1), .int .i64 ((cdig U) 2), .int .i64 ((cdig U) 3), .int .i64 0, .int .i64 0, .int .i64 0, .int .i64 0]) ?_ 5 _ rfl; refine blk_put (cs := #[.bool true, .int .i64 ((cdig U) 0), .int .i64 ((cdig U) 1), .int .i64 ((cdig U) 2), .int .i64 0, .int .i64 0, .int .i64 0, .int .i64 0, .int .i64 0]) ?_ 4 _ rfl; refine blk_put (cs := #[.bool true, .int .i64 ((cdig U) 0), .int .i64 ((cdig U) 1), .int .i64 0, .int .i64 0, .int .i64 0, .int .i64 0, .int .i64 0, .int .i64 0]) ?_ 3 _ rfl; refine blk_put (cs := #[.bool true, .int .i64 ((cdig U) 0), .int .i64 0, .int .i64 0, .int .i64 0, .int .i64 0, .int .i64 0, .int .i64 0, .int .i64 0]) ?_ 2 _ rfl; refine blk_put (cs := #[.bool true, .int .i64 0, .int .i64 0, .int .i64 0, .int .i64 0, .int .i64 0, .int .i64 0, .int .i64 0, .int .i64 0]) ?_ 1 _ rfl; refine blk_put (cs := #[.bool false, .int .i64 0, .int .i64 0, .int .i64 0, .int .i64 0, .int .i64 0, .int .i64 0, .int .i64 0, .int .i64 0]) ?_ 0 _ rfl; exact BKg3.out⟩
  have b_ : Aside0 (Below w.heap.size w (((((((((W2.setCell ⟨g3, 0, none⟩ (.bool true)).setCell ⟨g3, 1, none⟩ (.int .i64 ((cdig U) 0))).setCell ⟨g3, 2, none⟩ (.int .i64 ((cdig U) 1))).setCell ⟨g3, 3, none⟩ (.int .i64 ((cdig U) 2))).setCell ⟨g3, 4, none⟩ (.int .i64 ((cdig U) 3))).setCell ⟨g3, 5, none⟩ (.int .i64 ((cdig U) 4))).setCell ⟨g3, 6, none⟩ (.int .i64 ((cdig U) 5))).setCell ⟨g3, 7, none⟩ (.int .i64 ((cdig U) 6))).setCell ⟨g3, 8, none⟩ (.int .i64 ((cdig U) 7)))) := ⟨(below_set (below_set (below_set (below_set (below_set (below_set (below_set (below_set (below_set HB.out GEg3.out) GEg3.out) GEg3.out) GEg3.out) GEg3.out) GEg3.out) GEg3.out) GEg3.out) GEg3.out)⟩
  clear BKg3 HB; have BKg3 := n_; have HB := b_; clear n_ b_
  clear hcg3_0 hfg3_0
  clear hcg3_1 hfg3_1
  clear hcg3_2 hfg3_2
  clear hcg3_3 hfg3_3
  clear hcg3_4 hfg3_4
  clear hcg3_5 hfg3_5
  clear hcg3_6 hfg3_6
  clear hcg3_7 hfg3_7
  clear hcg3_8 hfg3_8
  generalize (((((((((W2.setCell ⟨g3, 0, none⟩ (.bool true)).setCell ⟨g3, 1, none⟩ (.int .i64 ((cdig U) 0))).setCell ⟨g3, 2, none⟩ (.int .i64 ((cdig U) 1))).setCell ⟨g3, 3, none⟩ (.int .i64 ((cdig U) 2))).setCell ⟨g3, 4, none⟩ (.int .i64 ((cdig U) 3))).setCell ⟨g3, 5, none⟩ (.int .i64 ((cdig U) 4))).setCell ⟨g3, 6, none⟩ (.int .i64 ((cdig U) 5))).setCell ⟨g3, 7, none⟩ (.int .i64 ((cdig U) 6))).setCell ⟨g3, 8, none⟩ (.int .i64 ((cdig U) 7))) = W3 at *
  have hcg3_0 : W3.cell? ⟨g3, 0, none⟩ = some (.bool true) := (blk_cell BKg3.out 0).trans rfl
  have hfg3_0 := blk_frozen BKg3.out 0
  have hcg3_1 : W3.cell? ⟨g3, 1, none⟩ = some (.int .i64 ((cdig U) 0)) := (blk_cell BKg3.out 1).trans rfl
  have hfg3_1 := blk_frozen BKg3.out 1
  have hcg3_2 : W3.cell? ⟨g3, 2, none⟩ = some (.int .i64 ((cdig U) 1)) := (blk_cell BKg3.out 2).trans rfl
  have hfg3_2 := blk_frozen BKg3.out 2
  have hcg3_3 : W3.cell? ⟨g3, 3, none⟩ = some (.int .i64 ((cdig U) 2)) := (blk_cell BKg3.out 3).trans rfl
  have hfg3_3 := blk_frozen BKg3.out 3
  have hcg3_4 : W3.cell? ⟨g3, 4, none⟩ = some (.int .i64 ((cdig U) 3)) := (blk_cell BKg3.out 4).trans rfl
  have hfg3_4 := blk_frozen BKg3.out 4
  have hcg3_5 : W3.cell? ⟨g3, 5, none⟩ = some (.int .i64 ((cdig U) 4)) := (blk_cell BKg3.out 5).trans rfl
  have hfg3_5 := blk_frozen BKg3.out 5
  have hcg3_6 : W3.cell? ⟨g3, 6, none⟩ = some (.int .i64 ((cdig U) 5)) := (blk_cell BKg3.out 6).trans rfl
  have hfg3_6 := blk_frozen BKg3.out 6
  have hcg3_7 : W3.cell? ⟨g3, 7, none⟩ = some (.int .i64 ((cdig U) 6)) := (blk_cell BKg3.out 7).trans rfl
  have hfg3_7 := blk_frozen BKg3.out 7
  have hcg3_8 : W3.cell? ⟨g3, 8, none⟩ = some (.int .i64 ((cdig U) 7)) := (blk_cell BKg3.out 8).trans rfl
  have hfg3_8 := blk_frozen BKg3.out 8
  go_wp2
  go_loopw [5, 6] (fun vu vi wr => ∃ (j : Nat), vu = .int .u64 (ustep (cdig U) (4 - j)) ∧ vi = .int .i64 ((j : Int) - 1) ∧ Aside0 (j ≤ 4) ∧ Aside0 (wr.heap[g3]? = some (.cells (bigA true (cdig U)) 60 (0, 0))) ∧ Aside0 (Below w.heap.size w wr)) (fun _ vi _ => (intOf vi + 1).toNat)
  case atStart => exact ⟨4, rfl, rfl, ⟨by omega⟩, BKg3, HB⟩
  case round =>
    clear BKg3 HB hcg3_0 hfg3_0 hcg3_1 hfg3_1 hcg3_2 hfg3_2 hcg3_3 hfg3_3 hcg3_4 hfg3_4 hcg3_5 hfg3_5 hcg3_6 hfg3_6 hcg3_7 hfg3_7 hcg3_8 hfg3_8
    obtain ⟨j, rfl, rfl, Hj, BKg3, HB⟩ := hrel
    have hb := ustep_bound rU.dig (4 - j) (by omega)
    have hj4 := Hj.out
    cases j with
    | succ j =>
      obtain ⟨X, hX⟩ : ∃ X, X = ustep (cdig U) (4 - (j + 1)) := ⟨_, rfl⟩
      obtain ⟨x, hx⟩ : ∃ x, x = cdig U j := ⟨_, rfl⟩
      rw [← hX, show (((j + 1 : Nat) : Int) - 1) = (j : Int) from by omega]
      rw [← hX] at hb
      obtain ⟨x0, x1⟩ := rU.dig j (by omega); rw [← hx] at x0 x1
      have hp3 := pw_le3 (4 - (j + 1)) (by omega)
      have hX0 : 0 ≤ X := hb.1; have hX1 : X < 281474976710656 := by omega
      have hst : X * 65536 + x = ustep (cdig U) (4 - j) := by rw [show 4 - j = (4 - (j + 1)) + 1 from by omega]; simp only [ustep]; rw [← hX, show 3 - (4 - (j + 1)) = j from by omega, hx]
      have HS := Lib.hid hst; have hc0 : wr.cell? ⟨g3, 1 + j, none⟩ = some (.int .i64 x) := (blk_cell BKg3.out (1 + j)).trans ((big_get true (cdig U) (by omega)).trans (by rw [hx]))
      clear hst hX hx hb hp3
      go_wp2
      exact ⟨⟨j, congrArg (Value.int .u64) HS.out, rfl, ⟨by omega⟩, BKg3, HB⟩, by simp [intOf]⟩
    | zero =>
      rw [show ustep (cdig U) (4 - 0) = U from HUS.out, show (((0 : Nat) : Int) - 1) = -1 from rfl]
      have hum : U % 4294967296 = r := HUM.out
      have huq : U / 4294967296 = (q : Int) := HUQ.out
      clear hb
      go_wp2_with fail
      ((with_reducible refine (hdec _).mono ?_); rintro e_ W5 ⟨rfl, hb_⟩)
      have n_ := Aside0.mk (below_step HB.out hb_); clear HB; have HB := n_; clear n_ hb_
      clear hdec
      have hbz := HB.out.size
      have HRE := Aside0.mk (RowE.bytes W5 w.heap.size F hbz (by simp only [maxLen]; have := HFZ.out; omega))
      have n_ := Aside0.mk (bytes_below HB.out hbz 5 F); clear HB; have HB := n_; clear n_
      have HTL : Aside0 (F.data.toList.length + 32 ≤ 100) := ⟨by rw [HFD.out]; simp; omega⟩
      have HE : Aside0 (F.data.toList ++ fracD 32 r = [45] ++ printF U) := ⟨by rw [HFD.out]; unfold printF; rw [HT.out, HQ.out, HR.out]; simp⟩
      clear hbz
      go_wp2
      clear hum huq kb
      go_loopg [7, 8, 9] 32 (fun kq v7 v8 v9 w' => ∃ (r' : Int) (i : Nat) (done : List UInt8), v8 = .int .u64 r' ∧ v9 = .int .i64 (i : Int) ∧ i + kq = 32 ∧ 1 ≤ kq ∧ kq ≤ 32 ∧ 0 ≤ r' ∧ r' < 4294967296 ∧ Aside0 (Div2 kq r') ∧ Aside0 (RowE w' w.heap.size v7 done) ∧ Aside0 (done ++ fracD kq r' = [45] ++ printF U) ∧ Aside0 (done.length + kq ≤ 100) ∧ Aside0 (Below w.heap.size w w'))
      case atStart => exact ⟨r, 0, F.data.toList, congrArg (Value.int .u64) HUM.out, rfl, rfl, by omega, by omega, hr0.1, hr0.2, HD, HRE, HE, HTL, HB⟩
      case round =>
        obtain ⟨r', i, done, rfl, rfl, hik, hk1, hk2, hr1, hr2, HDV, HRE, HEQ, HLN, HBE⟩ := hrel
        cases gk with
        | zero => omega
        | succ k1 =>
          obtain ⟨y, hy⟩ : ∃ y, y = UInt8.ofNat (48 + (r' * 10 / 4294967296).toNat) := ⟨_, rfl⟩
          have hst := div2_step (k := k1) hk2 HDV.out
          have hfd : fracD (k1 + 1) r' = UInt8.ofNat (48 + (r' * 10 / 4294967296).toNat) :: if r' * 10 % 4294967296 = 0 then [] else fracD k1 (r' * 10 % 4294967296) := rfl
          have heq := HEQ.out
          rw [hfd, ← hy] at heq
          have hw1 : IntKind.u64.wrap (r' * 10) = r' * 10 := by rw [wrap_u64]; omega
          have hq0 : 0 ≤ r' * 10 / 4294967296 ∧ r' * 10 / 4294967296 ≤ 9 := by omega
          have hm0 : 0 ≤ r' * 10 % 4294967296 ∧ r' * 10 % 4294967296 < 4294967296 := by omega
          obtain ⟨m10, hm10⟩ : ∃ m, m = r' * 10 % 4294967296 := ⟨_, rfl⟩
          rw [← hm10] at hst heq hm0
          obtain ⟨q10, hq10⟩ : ∃ q, q = r' * 10 / 4294967296 := ⟨_, rfl⟩
          rw [← hq10] at hy hq0
          have hq10' : r' * 10 / 4294967296 = q10 := hq10.symm
          have hm10' : r' * 10 % 4294967296 = m10 := hm10.symm
          have hw2 : IntKind.u64.wrap (48 + q10) = 48 + q10 := by rw [wrap_u64]; omega
          have hw3 : IntKind.u8.wrap (48 + q10) = 48 + q10 := by rw [IntKind.wrap_u8]; omega
          have hby : (y.toNat : Int) = 48 + q10 := by rw [hy, dig_val (by omega)]; omega
          obtain ⟨g7, c7, rfl, hg71, hg72, _⟩ := HRE.out.cells
          have hi32 : decide ((i : Int) < 32) = true := decide_eq_true (by omega)
          have hi32n : decide (i < 32) = true := decide_eq_true (by omega)
          have hbes := HBE.out.size
          have HST := Aside0.mk hst; have HQ2 := Aside0.mk heq
          clear hst heq hfd hm10 hq10 HDV HEQ HB
          have HBY := Lib.hid hby; clear hby hy
          go_wp2_with (at_builtin; refine wpList_append_e rfl _ _ rfl w.heap.size _ _ done rfl (HRE.out.alloc _) ⟨wr.heap.size, 0, none⟩ 1 y rfl ?c1 ?c2 ?c3 ?_)
          case c1 => rw [HBY.out]; simp
          case c2 => have := HLN.out; omega
          case c3 => simp; omega
          intro v1 w1 hre1 hgrow
          have HRE1 := Aside0.mk hre1
          have HB1 := Aside0.mk (((HBE.out.alloc hbes _).grown hgrow (by simp; omega) (fun k hk => by simp [Value.ownBlock] at hk; omega)) : Below w.heap.size w w1)
          obtain ⟨g8, c8, hv8, hg81, hg82, hcells⟩ := hre1.cells
          subst hv8
          have HC := Aside0.mk hcells
          clear hre1 hgrow hcells HRE HBE
          by_cases hz : m10 = 0
          · have dz : (m10 == 0) = true := beq_iff_eq.2 hz
            have hfin := HQ2.out
            rw [if_pos hz] at hfin
            have hcv := fun W' => run_convert_bytes_back (P := Tryd.prog) W' 39 9 5 ⟨g8, 0, none⟩ c8 (done ++ [y]) Tryd.underlying39 Tryd.underlying5 Tryd.underlying9
            have hcv1 := hcv w1 (fun j hj => by rw [add_plain]; exact HC.out j hj)
            rw [hfin] at hcv1
            have hcv2 : (convert 39 9 (.slice (some ⟨g8, 0, none⟩) (done.length + 1) c8)).run Tryd.prog w1 = .ok (.string ⟨([45] ++ printF U).toArray⟩) w1 := by
              have e : ([45] ++ printF U).length = done.length + 1 := by rw [← hfin]; simp
              rw [e] at hcv1; exact hcv1
            clear hz hfin hcv hcv1
            rw [show (done ++ [y]).length = done.length + 1 from by simp]
            go_wp2
            go_ret
            exact ⟨rfl, HB1.out⟩
          · have dz : (m10 == 0) = false := beq_eq_false_iff_ne.2 hz
            have hfin := HQ2.out
            rw [if_neg hz] at hfin
            have hk3 : 1 ≤ k1 := by
              apply Classical.byContradiction
              intro hk
              have e0 : k1 = 0 := by omega
              subst e0
              exact hz (div2_last HST.out hm0.1 hm0.2)
            have HFIN : Aside0 ((done ++ [y]) ++ fracD k1 m10 = [45] ++ printF U) := ⟨by rw [← hfin]; simp⟩
            have HLN2 : Aside0 ((done ++ [y]).length + k1 ≤ 100) := ⟨by have := HLN.out; simp; omega⟩
            clear hz hfin
            go_wp2
            go_roundg k1
            case measure => omega
            case rel => exact ⟨m10, i + 1, _, congrArg (Value.int .u64) hm10', by go_num, by omega, hk3, by omega, hm0.1, hm0.2, HST, HRE1, HFIN, HLN2, HB1⟩
set_option maxHeartbeats 8000000 in
set_option maxRecDepth 100000 in
theorem rPrint_pos (a U : Int) (w : World) (ha : I64 a) (hm : decide (a < 0) = false) (hU : U = (a.natAbs : Int)) :
    Calls Tryd.prog 15 #[.int .i64 a] w
      fun e w' => e = .returned (.string ⟨([] ++ printF U).toArray⟩) ∧ Below w.heap.size w w' := by
  have HB := Aside0.mk (Below.refl w.heap.size w)
  have h1 := ha.1; have h2 := ha.2
  have hU0 : 0 ≤ U := by omega
  have hU1 : U ≤ 9223372036854775808 := by omega
  have hof := fun W => of_ex a W ha
  rw [hm, ← hU] at hof
  have rU : Rep (cdig U) U := rep_cdig hU0 (by omega)
  have hus := ustep_cdig rU (by omega)
  obtain ⟨q, hq⟩ : ∃ q, q = (U / 4294967296).toNat := ⟨_, rfl⟩
  have hq1 : U / 4294967296 = (q : Int) := by omega
  have hq9 : q < 10 ^ 10 := by omega
  have hdec := fun W => rdec_calls q (by omega) W
  obtain ⟨t, ht⟩ : ∃ t, t = Lib.decDigits q := ⟨_, rfl⟩
  have htl : t.length ≤ 10 := by rw [ht]; exact decDigits_le (k := 9) hq9
  rw [← ht] at hdec
  have HT := Aside0.mk ht; have HQ := Aside0.mk hq
  obtain ⟨st, hst⟩ : ∃ st : ByteArray, st = ⟨t.toArray⟩ := ⟨_, rfl⟩
  rw [← hst] at hdec
  have hstz : st.size = t.length := by rw [hst]; show t.toArray.size = _; simp
  obtain ⟨F, hF⟩ : ∃ F : ByteArray, F = (⟨#[]⟩ : ByteArray) ++ st ++ (⟨#[46]⟩ : ByteArray) := ⟨_, rfl⟩
  have hFz : F.size = t.length + 1 := by rw [hF, ByteArray.size_append, ByteArray.size_append, hstz]; show 0 + _ + 1 = _; omega
  have hFd : F.data.toList = [] ++ (t ++ [46]) := by rw [hF, ByteArray.data_append, ByteArray.data_append, hst]; simp
  have hA0 : (⟨#[]⟩ : ByteArray) ++ st = st := by apply ByteArray.ext; rw [ByteArray.data_append]; simp
  have hA1 : st ++ (⟨#[46]⟩ : ByteArray) = F := by rw [hF, hA0]
  have hz1 : st.size + 1 ≤ 9223372036854775807 := by omega
  have hz2 : 1 + st.size ≤ 9223372036854775807 := by omega
  have hz5 : 1 + st.size + 1 ≤ 9223372036854775807 := by omega
  have hz4 : st.size ≤ 9223372036854775807 := by omega
  have hz3 : ((⟨#[45]⟩ : ByteArray) ++ st).size + 1 ≤ 9223372036854775807 := by rw [ByteArray.size_append, show (⟨#[45]⟩ : ByteArray).size = 1 from rfl]; omega
  have kb := fun W => print_bytes (P := Tryd.prog) 9 39 5 Tryd.underlying9 Tryd.underlying39 Tryd.underlying5 F W
  obtain ⟨r, hr⟩ : ∃ r, r = U % 4294967296 := ⟨_, rfl⟩
  have hr0 : 0 ≤ r ∧ r < 4294967296 := by omega
  have HR := Aside0.mk hr
  have HD : Aside0 (Div2 32 r) := ⟨by unfold Div2; simp⟩
  have HUM := Aside0.mk (show U % 4294967296 = r from hr.symm); have HUQ := Aside0.mk hq1; have HUS := Aside0.mk hus; have HFZ := Aside0.mk hFz; have HFD := Aside0.mk hFd
  have HB4 := Lib.hid hU; have HST := Lib.hid hst; have HSTZ := Lib.hid hstz; have HFF := Lib.hid hF; clear hU hst hstz hF hq ht hr hq1 hus hFz hFd hm
  go_enter Tryd.func15, Tryd.ntmps15
  go_wp2_with fail
  ((with_reducible refine (hof _).mono ?_); rintro e_ W1 ⟨rfl, hb_⟩)
  have n_ := Aside0.mk (below_step HB.out hb_); clear HB; have HB := n_; clear n_
  clear hb_
  clear hof
  go_wp2_with (first | ((with_reducible refine gate_dst (N := 3) rfl ?_); refine box_event ?hg (N := 3) ?hd (cs := #[.bool false, .int .i64 0, .int .i64 0, .int .i64 0, .int .i64 0, .int .i64 0, .int .i64 0, .int .i64 0, .int .i64 0]) (t := 60) ?hr ?_; (case hd => rfl); (case hg => rfl); (case hr => first | (go_simp; done) | (go_simp; rfl)); intro g3 hg_ W2 hbox_ hb_; have GEg3 := Aside0.mk ((by rw [hg_]; exact (below_size HB.out)) : w.heap.size ≤ g3); clear hg_; have n_ := Aside0.mk (below_step HB.out hb_); clear HB; have HB := n_; clear n_; have BKg3 := Aside0.mk hbox_; clear hbox_ hb_; have hcg3_0 : W2.cell? ⟨g3, 0, none⟩ = some (.bool false) := (blk_cell BKg3.out 0).trans rfl; have hfg3_0 := blk_frozen BKg3.out 0; have hcg3_1 : W2.cell? ⟨g3, 1, none⟩ = some (.int .i64 0) := (blk_cell BKg3.out 1).trans rfl; have hfg3_1 := blk_frozen BKg3.out 1; have hcg3_2 : W2.cell? ⟨g3, 2, none⟩ = some (.int .i64 0) := (blk_cell BKg3.out 2).trans rfl; have hfg3_2 := blk_frozen BKg3.out 2; have hcg3_3 : W2.cell? ⟨g3, 3, none⟩ = some (.int .i64 0) := (blk_cell BKg3.out 3).trans rfl; have hfg3_3 := blk_frozen BKg3.out 3; have hcg3_4 : W2.cell? ⟨g3, 4, none⟩ = some (.int .i64 0) := (blk_cell BKg3.out 4).trans rfl; have hfg3_4 := blk_frozen BKg3.out 4; have hcg3_5 : W2.cell? ⟨g3, 5, none⟩ = some (.int .i64 0) := (blk_cell BKg3.out 5).trans rfl; have hfg3_5 := blk_frozen BKg3.out 5; have hcg3_6 : W2.cell? ⟨g3, 6, none⟩ = some (.int .i64 0) := (blk_cell BKg3.out 6).trans rfl; have hfg3_6 := blk_frozen BKg3.out 6; have hcg3_7 : W2.cell? ⟨g3, 7, none⟩ = some (.int .i64 0) := (blk_cell BKg3.out 7).trans rfl; have hfg3_7 := blk_frozen BKg3.out 7; have hcg3_8 : W2.cell? ⟨g3, 8, none⟩ = some (.int .i64 0) := (blk_cell BKg3.out 8).trans rfl; have hfg3_8 := blk_frozen BKg3.out 8))
  have n_ : Aside0 ((((((((((W2.setCell ⟨g3, 0, none⟩ (.bool false)).setCell ⟨g3, 1, none⟩ (.int .i64 ((cdig U) 0))).setCell ⟨g3, 2, none⟩ (.int .i64 ((cdig U) 1))).setCell ⟨g3, 3, none⟩ (.int .i64 ((cdig U) 2))).setCell ⟨g3, 4, none⟩ (.int .i64 ((cdig U) 3))).setCell ⟨g3, 5, none⟩ (.int .i64 ((cdig U) 4))).setCell ⟨g3, 6, none⟩ (.int .i64 ((cdig U) 5))).setCell ⟨g3, 7, none⟩ (.int .i64 ((cdig U) 6))).setCell ⟨g3, 8, none⟩ (.int .i64 ((cdig U) 7))).heap[g3]? = some (.cells #[.bool false, .int .i64 ((cdig U) 0), .int .i64 ((cdig U) 1), .int .i64 ((cdig U) 2), .int .i64 ((cdig U) 3), .int .i64 ((cdig U) 4), .int .i64 ((cdig U) 5), .int .i64 ((cdig U) 6), .int .i64 ((cdig U) 7)] 60 (0, 0))) := ⟨by refine blk_put (cs := #[.bool false, .int .i64 ((cdig U) 0), .int .i64 ((cdig U) 1), .int .i64 ((cdig U) 2), .int .i64 ((cdig U) 3), .int .i64 ((cdig U) 4), .int .i64 ((cdig U) 5), .int .i64 ((cdig U) 6), .int .i64 0]) ?_ 8 _ rfl; refine blk_put (cs := #[.bool false, .int .i64 ((cdig U) 0), .int .i64 ((cdig U) 1), .int .i64 ((cdig U) 2), .int .i64 ((cdig U) 3), .int .i64 ((cdig U) 4), .int .i64 ((cdig U) 5), .int .i64 0, .int .i64 0]) ?_ 7 _ rfl; refine blk_put (cs := #[.bool false, .int .i64 ((cdig U) 0), .int .i64 ((cdig U) 1), .int .i64 ((cdig U) 2), .int .i64 ((cdig U) 3), .int .i64 ((cdig U) 4), .int .i64 0, .int .i64 0, .int .i64 0]) ?_ 6 _ rfl; refine blk_put (cs := #[.bool false, .int .i64 ((cdig U) 0), .int .i64 ((cdig U) 1), .int .i64 ((cdig U) 2), .int .i64 ((cdig U) 3), .int .i64 0, .int .i64 0, .int .i64 0, .int .i64 0]) ?_ 5 _ rfl; refine blk_put (cs := #[.bool false, .int .i64 ((cdig U) 0), .int .i64 ((cdig U) 1), .int .i64 ((cdig U) 2), .int .i64 0, .int .i64 0, .int .i64 0, .int .i64 0, .int .i64 0]) ?_ 4 _ rfl; refine blk_put (cs := #[.bool false, .int .i64 ((cdig U) 0), .int .i64 ((cdig U) 1), .int .i64 0, .int .i64 0, .int .i64 0, .int .i64 0, .int .i64 0, .int .i64 0]) ?_ 3 _ rfl; refine blk_put (cs := #[.bool false, .int .i64 ((cdig U) 0), .int .i64 0, .int .i64 0, .int .i64 0, .int .i64 0, .int .i64 0, .int .i64 0, .int .i64 0]) ?_ 2 _ rfl; refine blk_put (cs := #[.bool false, .int .i64 0, .int .i64 0, .int .i64 0, .int .i64 0, .int .i64 0, .int .i64 0, .int .i64 0, .int .i64 0]) ?_ 1 _ rfl; refine blk_put (cs := #[.bool false, .int .i64 0, .int .i64 0, .int .i64 0, .int .i64 0, .int .i64 0, .int .i64 0, .int .i64 0, .int .i64 0]) ?_ 0 _ rfl; exact BKg3.out⟩
  have b_ : Aside0 (Below w.heap.size w (((((((((W2.setCell ⟨g3, 0, none⟩ (.bool false)).setCell ⟨g3, 1, none⟩ (.int .i64 ((cdig U) 0))).setCell ⟨g3, 2, none⟩ (.int .i64 ((cdig U) 1))).setCell ⟨g3, 3, none⟩ (.int .i64 ((cdig U) 2))).setCell ⟨g3, 4, none⟩ (.int .i64 ((cdig U) 3))).setCell ⟨g3, 5, none⟩ (.int .i64 ((cdig U) 4))).setCell ⟨g3, 6, none⟩ (.int .i64 ((cdig U) 5))).setCell ⟨g3, 7, none⟩ (.int .i64 ((cdig U) 6))).setCell ⟨g3, 8, none⟩ (.int .i64 ((cdig U) 7)))) := ⟨(below_set (below_set (below_set (below_set (below_set (below_set (below_set (below_set (below_set HB.out GEg3.out) GEg3.out) GEg3.out) GEg3.out) GEg3.out) GEg3.out) GEg3.out) GEg3.out) GEg3.out)⟩
  clear BKg3 HB; have BKg3 := n_; have HB := b_; clear n_ b_
  clear hcg3_0 hfg3_0
  clear hcg3_1 hfg3_1
  clear hcg3_2 hfg3_2
  clear hcg3_3 hfg3_3
  clear hcg3_4 hfg3_4
  clear hcg3_5 hfg3_5
  clear hcg3_6 hfg3_6
  clear hcg3_7 hfg3_7
  clear hcg3_8 hfg3_8
  generalize (((((((((W2.setCell ⟨g3, 0, none⟩ (.bool false)).setCell ⟨g3, 1, none⟩ (.int .i64 ((cdig U) 0))).setCell ⟨g3, 2, none⟩ (.int .i64 ((cdig U) 1))).setCell ⟨g3, 3, none⟩ (.int .i64 ((cdig U) 2))).setCell ⟨g3, 4, none⟩ (.int .i64 ((cdig U) 3))).setCell ⟨g3, 5, none⟩ (.int .i64 ((cdig U) 4))).setCell ⟨g3, 6, none⟩ (.int .i64 ((cdig U) 5))).setCell ⟨g3, 7, none⟩ (.int .i64 ((cdig U) 6))).setCell ⟨g3, 8, none⟩ (.int .i64 ((cdig U) 7))) = W3 at *
  have hcg3_0 : W3.cell? ⟨g3, 0, none⟩ = some (.bool false) := (blk_cell BKg3.out 0).trans rfl
  have hfg3_0 := blk_frozen BKg3.out 0
  have hcg3_1 : W3.cell? ⟨g3, 1, none⟩ = some (.int .i64 ((cdig U) 0)) := (blk_cell BKg3.out 1).trans rfl
  have hfg3_1 := blk_frozen BKg3.out 1
  have hcg3_2 : W3.cell? ⟨g3, 2, none⟩ = some (.int .i64 ((cdig U) 1)) := (blk_cell BKg3.out 2).trans rfl
  have hfg3_2 := blk_frozen BKg3.out 2
  have hcg3_3 : W3.cell? ⟨g3, 3, none⟩ = some (.int .i64 ((cdig U) 2)) := (blk_cell BKg3.out 3).trans rfl
  have hfg3_3 := blk_frozen BKg3.out 3
  have hcg3_4 : W3.cell? ⟨g3, 4, none⟩ = some (.int .i64 ((cdig U) 3)) := (blk_cell BKg3.out 4).trans rfl
  have hfg3_4 := blk_frozen BKg3.out 4
  have hcg3_5 : W3.cell? ⟨g3, 5, none⟩ = some (.int .i64 ((cdig U) 4)) := (blk_cell BKg3.out 5).trans rfl
  have hfg3_5 := blk_frozen BKg3.out 5
  have hcg3_6 : W3.cell? ⟨g3, 6, none⟩ = some (.int .i64 ((cdig U) 5)) := (blk_cell BKg3.out 6).trans rfl
  have hfg3_6 := blk_frozen BKg3.out 6
  have hcg3_7 : W3.cell? ⟨g3, 7, none⟩ = some (.int .i64 ((cdig U) 6)) := (blk_cell BKg3.out 7).trans rfl
  have hfg3_7 := blk_frozen BKg3.out 7
  have hcg3_8 : W3.cell? ⟨g3, 8, none⟩ = some (.int .i64 ((cdig U) 7)) := (blk_cell BKg3.out 8).trans rfl
  have hfg3_8 := blk_frozen BKg3.out 8
  go_wp2
  go_loopw [5, 6] (fun vu vi wr => ∃ (j : Nat), vu = .int .u64 (ustep (cdig U) (4 - j)) ∧ vi = .int .i64 ((j : Int) - 1) ∧ Aside0 (j ≤ 4) ∧ Aside0 (wr.heap[g3]? = some (.cells (bigA false (cdig U)) 60 (0, 0))) ∧ Aside0 (Below w.heap.size w wr)) (fun _ vi _ => (intOf vi + 1).toNat)
  case atStart => exact ⟨4, rfl, rfl, ⟨by omega⟩, BKg3, HB⟩
  case round =>
    clear BKg3 HB hcg3_0 hfg3_0 hcg3_1 hfg3_1 hcg3_2 hfg3_2 hcg3_3 hfg3_3 hcg3_4 hfg3_4 hcg3_5 hfg3_5 hcg3_6 hfg3_6 hcg3_7 hfg3_7 hcg3_8 hfg3_8
    obtain ⟨j, rfl, rfl, Hj, BKg3, HB⟩ := hrel
    have hb := ustep_bound rU.dig (4 - j) (by omega)
    have hj4 := Hj.out
    cases j with
    | succ j =>
      obtain ⟨X, hX⟩ : ∃ X, X = ustep (cdig U) (4 - (j + 1)) := ⟨_, rfl⟩
      obtain ⟨x, hx⟩ : ∃ x, x = cdig U j := ⟨_, rfl⟩
      rw [← hX, show (((j + 1 : Nat) : Int) - 1) = (j : Int) from by omega]
      rw [← hX] at hb
      obtain ⟨x0, x1⟩ := rU.dig j (by omega); rw [← hx] at x0 x1
      have hp3 := pw_le3 (4 - (j + 1)) (by omega)
      have hX0 : 0 ≤ X := hb.1; have hX1 : X < 281474976710656 := by omega
      have hst : X * 65536 + x = ustep (cdig U) (4 - j) := by rw [show 4 - j = (4 - (j + 1)) + 1 from by omega]; simp only [ustep]; rw [← hX, show 3 - (4 - (j + 1)) = j from by omega, hx]
      have HS := Lib.hid hst; have hc0 : wr.cell? ⟨g3, 1 + j, none⟩ = some (.int .i64 x) := (blk_cell BKg3.out (1 + j)).trans ((big_get false (cdig U) (by omega)).trans (by rw [hx]))
      clear hst hX hx hb hp3
      go_wp2
      exact ⟨⟨j, congrArg (Value.int .u64) HS.out, rfl, ⟨by omega⟩, BKg3, HB⟩, by simp [intOf]⟩
    | zero =>
      rw [show ustep (cdig U) (4 - 0) = U from HUS.out, show (((0 : Nat) : Int) - 1) = -1 from rfl]
      have hum : U % 4294967296 = r := HUM.out
      have huq : U / 4294967296 = (q : Int) := HUQ.out
      clear hb
      go_wp2_with fail
      ((with_reducible refine (hdec _).mono ?_); rintro e_ W5 ⟨rfl, hb_⟩)
      have n_ := Aside0.mk (below_step HB.out hb_); clear HB; have HB := n_; clear n_ hb_
      clear hdec
      have hbz := HB.out.size
      have HRE := Aside0.mk (RowE.bytes W5 w.heap.size F hbz (by simp only [maxLen]; have := HFZ.out; omega))
      have n_ := Aside0.mk (bytes_below HB.out hbz 5 F); clear HB; have HB := n_; clear n_
      have HTL : Aside0 (F.data.toList.length + 32 ≤ 100) := ⟨by rw [HFD.out]; simp; omega⟩
      have HE : Aside0 (F.data.toList ++ fracD 32 r = [] ++ printF U) := ⟨by rw [HFD.out]; unfold printF; rw [HT.out, HQ.out, HR.out]; simp⟩
      clear hbz
      go_wp2
      clear hum huq kb
      go_loopg [7, 8, 9] 32 (fun kq v7 v8 v9 w' => ∃ (r' : Int) (i : Nat) (done : List UInt8), v8 = .int .u64 r' ∧ v9 = .int .i64 (i : Int) ∧ i + kq = 32 ∧ 1 ≤ kq ∧ kq ≤ 32 ∧ 0 ≤ r' ∧ r' < 4294967296 ∧ Aside0 (Div2 kq r') ∧ Aside0 (RowE w' w.heap.size v7 done) ∧ Aside0 (done ++ fracD kq r' = [] ++ printF U) ∧ Aside0 (done.length + kq ≤ 100) ∧ Aside0 (Below w.heap.size w w'))
      case atStart => exact ⟨r, 0, F.data.toList, congrArg (Value.int .u64) HUM.out, rfl, rfl, by omega, by omega, hr0.1, hr0.2, HD, HRE, HE, HTL, HB⟩
      case round =>
        obtain ⟨r', i, done, rfl, rfl, hik, hk1, hk2, hr1, hr2, HDV, HRE, HEQ, HLN, HBE⟩ := hrel
        cases gk with
        | zero => omega
        | succ k1 =>
          obtain ⟨y, hy⟩ : ∃ y, y = UInt8.ofNat (48 + (r' * 10 / 4294967296).toNat) := ⟨_, rfl⟩
          have hst := div2_step (k := k1) hk2 HDV.out
          have hfd : fracD (k1 + 1) r' = UInt8.ofNat (48 + (r' * 10 / 4294967296).toNat) :: if r' * 10 % 4294967296 = 0 then [] else fracD k1 (r' * 10 % 4294967296) := rfl
          have heq := HEQ.out
          rw [hfd, ← hy] at heq
          have hw1 : IntKind.u64.wrap (r' * 10) = r' * 10 := by rw [wrap_u64]; omega
          have hq0 : 0 ≤ r' * 10 / 4294967296 ∧ r' * 10 / 4294967296 ≤ 9 := by omega
          have hm0 : 0 ≤ r' * 10 % 4294967296 ∧ r' * 10 % 4294967296 < 4294967296 := by omega
          obtain ⟨m10, hm10⟩ : ∃ m, m = r' * 10 % 4294967296 := ⟨_, rfl⟩
          rw [← hm10] at hst heq hm0
          obtain ⟨q10, hq10⟩ : ∃ q, q = r' * 10 / 4294967296 := ⟨_, rfl⟩
          rw [← hq10] at hy hq0
          have hq10' : r' * 10 / 4294967296 = q10 := hq10.symm
          have hm10' : r' * 10 % 4294967296 = m10 := hm10.symm
          have hw2 : IntKind.u64.wrap (48 + q10) = 48 + q10 := by rw [wrap_u64]; omega
          have hw3 : IntKind.u8.wrap (48 + q10) = 48 + q10 := by rw [IntKind.wrap_u8]; omega
          have hby : (y.toNat : Int) = 48 + q10 := by rw [hy, dig_val (by omega)]; omega
          obtain ⟨g7, c7, rfl, hg71, hg72, _⟩ := HRE.out.cells
          have hi32 : decide ((i : Int) < 32) = true := decide_eq_true (by omega)
          have hi32n : decide (i < 32) = true := decide_eq_true (by omega)
          have hbes := HBE.out.size
          have HST := Aside0.mk hst; have HQ2 := Aside0.mk heq
          clear hst heq hfd hm10 hq10 HDV HEQ HB
          have HBY := Lib.hid hby; clear hby hy
          go_wp2_with (at_builtin; refine wpList_append_e rfl _ _ rfl w.heap.size _ _ done rfl (HRE.out.alloc _) ⟨wr.heap.size, 0, none⟩ 1 y rfl ?c1 ?c2 ?c3 ?_)
          case c1 => rw [HBY.out]; simp
          case c2 => have := HLN.out; omega
          case c3 => simp; omega
          intro v1 w1 hre1 hgrow
          have HRE1 := Aside0.mk hre1
          have HB1 := Aside0.mk (((HBE.out.alloc hbes _).grown hgrow (by simp; omega) (fun k hk => by simp [Value.ownBlock] at hk; omega)) : Below w.heap.size w w1)
          obtain ⟨g8, c8, hv8, hg81, hg82, hcells⟩ := hre1.cells
          subst hv8
          have HC := Aside0.mk hcells
          clear hre1 hgrow hcells HRE HBE
          by_cases hz : m10 = 0
          · have dz : (m10 == 0) = true := beq_iff_eq.2 hz
            have hfin := HQ2.out
            rw [if_pos hz] at hfin
            have hcv := fun W' => run_convert_bytes_back (P := Tryd.prog) W' 39 9 5 ⟨g8, 0, none⟩ c8 (done ++ [y]) Tryd.underlying39 Tryd.underlying5 Tryd.underlying9
            have hcv1 := hcv w1 (fun j hj => by rw [add_plain]; exact HC.out j hj)
            rw [hfin] at hcv1
            have hcv2 : (convert 39 9 (.slice (some ⟨g8, 0, none⟩) (done.length + 1) c8)).run Tryd.prog w1 = .ok (.string ⟨([] ++ printF U).toArray⟩) w1 := by
              have e : ([] ++ printF U).length = done.length + 1 := by rw [← hfin]; simp
              rw [e] at hcv1; exact hcv1
            clear hz hfin hcv hcv1
            rw [show (done ++ [y]).length = done.length + 1 from by simp]
            go_wp2
            go_ret
            exact ⟨rfl, HB1.out⟩
          · have dz : (m10 == 0) = false := beq_eq_false_iff_ne.2 hz
            have hfin := HQ2.out
            rw [if_neg hz] at hfin
            have hk3 : 1 ≤ k1 := by
              apply Classical.byContradiction
              intro hk
              have e0 : k1 = 0 := by omega
              subst e0
              exact hz (div2_last HST.out hm0.1 hm0.2)
            have HFIN : Aside0 ((done ++ [y]) ++ fracD k1 m10 = [] ++ printF U) := ⟨by rw [← hfin]; simp⟩
            have HLN2 : Aside0 ((done ++ [y]).length + k1 ≤ 100) := ⟨by have := HLN.out; simp; omega⟩
            clear hz hfin
            go_wp2
            go_roundg k1
            case measure => omega
            case rel => exact ⟨m10, i + 1, _, congrArg (Value.int .u64) hm10', by go_num, by omega, hk3, by omega, hm0.1, hm0.2, HST, HRE1, HFIN, HLN2, HB1⟩
end Go.Proofs.YtcnibfancjofhaaDoor
