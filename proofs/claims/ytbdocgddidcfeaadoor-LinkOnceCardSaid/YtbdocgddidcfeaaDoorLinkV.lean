/- LinkWhole. -/
import Derived.Test.YtbdocgddidcfeaaDoorLinkU
namespace Go.Proofs.YtbdocgddidcfeaaDoor
open Go.RowKit Go.Proofs.YtbdocgddidcfeaaDoorW.PrintWords Go.Proofs.YtbdocgddidcfeaaDoorW.PrintLast Go.Proofs.YtbdocgddidcfeaaDoorW.PrintMore
set_option linter.unusedVariables false
set_option linter.unusedSimpArgs false

theorem and_1023 (z : Int) : bits .and .i64 z 1023 = z % 1024 := by
  show IntKind.i64.wrap (((BitVec.ofInt 64 z) &&& (BitVec.ofInt 64 1023)).toNat : Int) = z % 1024
  rw [BitVec.toNat_and, show (BitVec.ofInt 64 1023).toNat = 2 ^ 10 - 1 by decide, Nat.and_two_pow_sub_one_eq_mod, IntKind.wrap_i64, BitVec.toNat_ofInt]
  have h : (((z % (2 ^ 64 : Nat)).toNat % 2 ^ 10 : Nat) : Int) = z % 1024 := by
    have : (0 : Int) ≤ z % (2 ^ 64 : Nat) := Int.emod_nonneg _ (by decide)
    rw [Int.natCast_emod, Int.toNat_of_nonneg this]
    show z % 18446744073709551616 % 1024 = z % 1024
    omega
  rw [h]
  omega
/-- What came in is read in each world that keeps what was there. -/
theorem ByIn.kept2 {w : World} {t : Tri} {l : List Int} {g1 : Nat} {s1 : LS} {ws1 : List Nat} {g2 : Nat} {s2 : LS} {ws2 : List Nat} {W : World} (h : ByIn w t l) (E : Ends w g1 s1 ws1 g2 s2 ws2 W) : ∀ W', Keeps W W' ws1 → Kd.C (Kd.int .u8) W' t.1 l.length l := h.kept E.below E.own1
/-- What stands behind the sending of an older message. -/
def OldSent (w : World) (gc ga : Nat) (first : Int) (old : List Int) (v12 v14 : Value) (wx : World) : Prop :=
  ∃ sa wsa wsc, Ends w gc (newS 0) wsc ga sa wsa wx ∧ ((v14 = .int .i64 2 ∧ v12 = .slice none 0 0 ∧ sa = newS first) ∨
    (old.length ≤ 2000 ∧ v14 = .int .i64 0 ∧ ∃ T B, DgRows B wx v12 (dgF (newS first) (newS first).next old) T ∧ T.length = manyF old.length ∧ sa = sendS (newS first)))
def Old2 (w : World) (gc ga : Nat) (first : Int) (old : List Int) (q : Bool) (v12 : Value) (wx : World) : Prop :=
  ∃ sa wsa wsc, Ends w gc (newS 0) wsc ga sa wsa wx ∧ (q = false ∨
    (q = true ∧ old.length ≤ 2000 ∧ 1 < manyF old.length ∧ ∃ T B, DgRows B wx v12 (dgF (newS first) (newS first).next old) T ∧ T.length = manyF old.length ∧ sa = sendS (newS first)))
theorem rf_move {base : Nat} {w w1 : World} {v : Value} {xs : List Int} (h : RS base w v xs) (hu : ∀ (b : Nat) (cs : Array Value), w.heap[b]? = some (Obj.cells cs 5 (0, 0)) → w1.heap[b]? = w.heap[b]?) : RS base w1 v xs := by
  obtain ⟨sp, h⟩ := h
  refine ⟨sp, ?_⟩
  rcases h with h | ⟨gb, h1, h2, h3, h4⟩
  · exact .inl h
  · exact .inr ⟨gb, h1, h2, (hu _ _ h3).trans h3, h4⟩
theorem grown_far {W W' : World} {v : Option Nat} (hv : ∀ b, v = some b → ∃ cs, W.heap[b]? = some (Obj.cells cs 3 (0, 0))) (hg : W.grownBy W' v) : ∀ (b : Nat) (cs : Array Value) (t : TypeId), W.heap[b]? = some (Obj.cells cs t (0, 0)) → t ≠ 3 → W'.heap[b]? = W.heap[b]? :=
  fun b cs t hb ht => hg.block b (Array.getElem?_eq_some_iff.1 hb).1 (fun e => by
    obtain ⟨cs', hc⟩ := hv b e.symm
    rw [hb] at hc
    injection hc with hc
    injection hc with _ hc
    exact ht hc)
theorem DgRows.grown {W W' : World} {base : Nat} {v0 : Value} {D : Nat → List Int} {T : List Tri} {v : Option Nat} (h : DgRows base W v0 D T) (hv : ∀ b, v = some b → ∃ cs, W.heap[b]? = some (Obj.cells cs 3 (0, 0))) (hg : W.grownBy W' v) : DgRows base W' v0 D T := by
  have hf := grown_far hv hg
  refine ⟨Kd.R_mono (Kd.R_move (Kd.R_bound h.1) (fun k hkk => ?_)) (fun _ _ => trivial), fun i x hx => rf_move (h.2.1 i x hx) (fun b cs hb => hf b cs _ hb (by decide)), h.2.2⟩
  obtain ⟨_, _, hlt, q, hq, cs, hc⟩ := hkk
  have hq' : q = 30 := by
    rcases List.mem_cons.1 hq with e | e
    · exact e
    · cases e
  subst hq'
  exact hf k cs _ hc (by decide)
theorem Ends.grown {w : World} {g1 : Nat} {s1 : LS} {ws1 : List Nat} {g2 : Nat} {s2 : LS} {ws2 : List Nat} {W W' : World} {v : Option Nat} (E : Ends w g1 s1 ws1 g2 s2 ws2 W) (hv : ∀ b, v = some b → w.heap.size ≤ b ∧ ∃ cs, W.heap[b]? = some (Obj.cells cs 3 (0, 0))) (hg : W.grownBy W' v) : Ends w g1 s1 ws1 g2 s2 ws2 W' :=
  ⟨E.one.grown (t := 3) (by decide) (fun b e => (hv b e).2) hg, E.two.grown (t := 3) (by decide) (fun b e => (hv b e).2) hg, E.apart, E.own1, E.own2, grown_below E.below hg (fun b e => (hv b e).1)⟩
theorem hiI : ∃ i, Tryd.prog.info? 3 = some i ∧ i.size = 1 := by
  have h := infoI
  obtain ⟨i, hi, h⟩ := Option.map_eq_some_iff.1 h
  exact ⟨i, hi, by injection h with h1 h2; injection h2⟩
theorem cut_ints (A : Option Addr) (c : Nat) (xs : List Int) (q : Nat) (hq : xs.length = q) (j : Nat) (hj : j < q) (hc : q ≤ c) :
    ∃ A', (∀ W : World, (Instr.slice 33 (.slice A q c) (some (.int .i64 ((j : Int) + 1))) none none).run Tryd.prog W = .ok (.slice A' (q - (j + 1)) (c - (j + 1))) W) ∧
      ∀ w, Kd.C (Kd.int .i64) w A q xs → Kd.C (Kd.int .i64) w A' (q - (j + 1)) (xs.drop (j + 1)) := by
  subst hq
  obtain ⟨i, hi, hsz⟩ := hiI
  obtain ⟨A', h1, h2, h3⟩ := print_cut_int (P := Tryd.prog) (k := .i64) 33 3 Tryd.underlying33 hi hsz A c xs ((j : Int) + 1) (by omega) (by omega) hc
  have ht : ((j : Int) + 1).toNat = j + 1 := by omega
  rw [ht] at h1 h2
  have hl : (xs.drop (j + 1)).length = xs.length - (j + 1) := List.length_drop
  rw [hl] at h1 h2
  exact ⟨A', h1, fun w hC => Kd.C_of_reads (d := (0 : Int)) (h1 := fun _ => rfl) (h2 w (Kd.reads_of_C (enc := Value.int .i64) (d := (0 : Int)) (h1 := fun _ => rfl) hC))⟩
theorem take_ints {A : Option Addr} {xs : List Int} {q : Nat} (hq : xs.length = q) (j : Nat) (hj : j < q) {w : World} (h : Kd.C (Kd.int .i64) w A q xs) : Kd.C (Kd.int .i64) w A j (xs.take j) := by
  subst hq
  have h1 := Kd.C_take (m := j) h (by omega)
  rw [List.length_take, Nat.min_eq_left (by omega)] at h1
  exact h1
theorem perm_moved {lf R : List Nat} {k j : Nat} (hk : k < lf.length) (h : List.Perm (lf ++ R) (List.range j)) : List.Perm ((lf.take k ++ lf.drop (k + 1)) ++ (R ++ [lf[k]])) (List.range j) := by
  refine List.Perm.trans ?_ h
  have hlf : lf = lf.take k ++ lf[k] :: lf.drop (k + 1) := by rw [← List.drop_eq_getElem_cons hk, List.take_append_drop]
  generalize lf[k] = x at hlf
  generalize lf.take k = A at hlf
  generalize lf.drop (k + 1) = B at hlf
  subst hlf
  have h1 : List.Perm ((A ++ B) ++ (R ++ [x])) (x :: ((A ++ B) ++ R)) := by
    rw [← List.append_assoc]
    exact List.perm_append_singleton x _
  refine h1.trans ?_
  rw [List.append_assoc, List.append_assoc, List.cons_append]
  exact List.perm_middle.symm
def castL (l : List Nat) : List Int := l.map (fun i : Nat => (i : Int))
/-- What stands of the message's way. -/
structure Way (w : World) (n : Int) (b : List Int) (W : World) (g1 g2 : Nat) (lv : Value) (lf : List Nat) (R : List Nat) : Prop where
  ends : ∃ r ws1 s2 ws2, Ends w g1 r ws1 g2 s2 ws2 W ∧ Holds n b r R
  left : Kd.R (Kd.int .i64) 3 W w.heap.size (fun _ => True) lv (castL lf)
  perm : List.Perm (lf ++ R) (List.range (manyF b.length))

set_option maxHeartbeats 8000000 in
set_option maxRecDepth 100000 in
theorem LinkWhole_calls (first : Int) (A1 : Option Addr) (c1 : Nat) (old : List Int) (A2 : Option Addr) (c2 : Nat) (b : List Int) (A3 : Option Addr) (c3 : Nat) (ord : List Int) (w : World) (hT : Tab w)
    (h1 : ByIn w (A1, old.length, c1) old) (h2 : ByIn w (A2, b.length, c2) b) (h3 : Kd.C (Kd.int .i64) w A3 ord.length ord) (h3c : ord.length ≤ c3) (h3w : ∀ x ∈ ord, w64 x) (h3l : ord.length ≤ 9223372036854775807) :
    Calls Tryd.prog 8 #[.int .i64 first, .slice A1 old.length c1, .slice A2 b.length c2, .slice A3 ord.length c3] w fun e w' => e = .returned (.bool true) ∧ Below w.heap.size w w' := by
  have HT := Aside0.mk hT; have H1 := Aside0.mk h1; have H2 := Aside0.mk h2; have H3 := Aside0.mk h3; have H3W := Aside0.mk h3w
  obtain ⟨m1, hm1⟩ : ∃ m, m = old.length := ⟨_, rfl⟩
  obtain ⟨m2, hm2⟩ : ∃ m, m = b.length := ⟨_, rfl⟩
  obtain ⟨m3, hm3⟩ : ∃ m, m = ord.length := ⟨_, rfl⟩
  have hc1 : old.length ≤ c1 := h1.cap
  have hc2 : b.length ≤ c2 := h2.cap
  have hs1 : old.length ≤ 140737488351232 := h1.small
  have hs2 : b.length ≤ 140737488351232 := h2.small
  rw [← hm1] at hc1 hs1 ⊢
  rw [← hm2] at hc2 hs2 ⊢
  rw [← hm3] at h3c h3l ⊢
  have HM1 := Aside0.mk hm1; have HM2 := Aside0.mk hm2; have HM3 := Aside0.mk hm3
  clear hT h1 h2 h3 h3w hm1 hm2 hm3
  go_enter Tryd.func8, Tryd.ntmps8
  go_wp2_with fail
  ((with_reducible refine (awake_calls w HT.out).mono ?_); rintro e_ W1 ⟨rfl, hb1⟩)
  have HB := Aside0.mk hb1
  clear hb1
  go_wp2_with fail
  ((with_reducible refine (New_calls first W1).mono ?_); rintro e_ W2 ⟨ga, wa, rfl, hl1, ho1, hb1⟩)
  have HL1 := Aside0.mk hl1; have HO1 := Aside0.mk ho1; have HB1 := Aside0.mk hb1
  clear hl1 ho1 hb1
  go_wp2_with fail
  ((with_reducible refine (New_calls 0 W2).mono ?_); rintro e_ W3 ⟨gc, wc, rfl, hl2, ho2, hb2⟩)
  have E0 : Aside0 (Ends w gc (newS 0) wc ga (newS first) wa W3) := ⟨⟨hl2, HL1.out.below hb2, fun k hk hm => by have := HL1.out.lt k hm; have := ho2 k hk; omega, fun k hk => by have := ho2 k hk; have := below_size HB1.out; have := below_size HB.out; omega, fun k hk => by have := HO1.out k hk; have := below_size HB.out; omega, below_step (below_step HB.out HB1.out) hb2⟩⟩
  clear hl2 ho2 hb2 HL1 HO1 HB1 HB
  go_upto_region 6 with (fail)
  go_cut [12, 14] (fun v12 v14 wx => OldSent w gc ga first old v12 v14 wx)
  case first =>
    by_cases hz : m1 ≤ 2000
    · have hsd := E0.out.swap.send HT.out A1 c1 m1 old HM1.out.symm (H1.out.kept2 E0.out.swap) hc1 H1.out.byte hz
      go_wp2_with fail
      ((with_reducible refine hsd.mono ?_); rintro e_ W4 ⟨v, T, B, wa', rfl, hTl, hB, hD, hE, hk⟩)
      have HD := Aside0.mk hD; have HE := Aside0.mk hE; have HTL := Aside0.mk hTl
      clear hsd hTl hB hD hE hk E0
      go_wp2
      go_meet
      case rel => exact ⟨_, wa', _, HE.out.swap, .inr ⟨by rw [← HM1.out]; exact hz, rfl, T, B, HD.out, HTL.out, rfl⟩⟩
    · go_wp2_with fail
      ((with_reducible refine (Send_long _ _ _ _ _ (by omega)).mono ?_); rintro e_ W4 ⟨rfl, rfl⟩)
      go_wp2
      go_meet
      case rel => exact ⟨_, wa, wc, E0.out, .inl ⟨rfl, rfl, rfl⟩⟩
  case rest =>
    obtain ⟨sa, wsa, wsc, hE, hold⟩ := hcut
    have HE := Aside0.mk hE
    clear hE E0
    go_upto_region 7 with (fail)
    go_cut [62] (fun v62 wx => ∃ q : Bool, v62 = .bool q ∧ Old2 w gc ga first old q u12 wx)
    case first =>
      rcases hold with ⟨rfl, rfl, rfl⟩ | ⟨hz, rfl, T, B, hD, hTl, rfl⟩
      · go_wp2
        go_meet
        case rel => exact ⟨false, rfl, _, wsa, wsc, HE.out, .inl rfl⟩
      · have hmo := manyF_le hz
        obtain ⟨gb, cc, rfl, hgb, hgl, hcc, hat⟩ := sl_at hD.1 (by omega)
        have HD := Aside0.mk hD; have HTL := Aside0.mk hTl
        clear hD hgb hgl hcc hat
        by_cases h1 : 1 < manyF old.length
        · have d1 : decide (1 < T.length) = true := decide_eq_true (by omega)
          have d1' : decide (1 < (T.length : Int)) = true := decide_eq_true (by omega)
          clear hTl
          go_wp2
          go_meet
          case rel => exact ⟨true, rfl, _, wsa, wsc, HE.out, .inr ⟨rfl, hz, h1, T, B, HD.out, HTL.out, rfl⟩⟩
        · have d1 : decide (1 < T.length) = false := decide_eq_false (by omega)
          have d1' : decide (1 < (T.length : Int)) = false := decide_eq_false (by omega)
          clear hTl
          go_wp2
          go_meet
          case rel => exact ⟨false, rfl, _, wsa, wsc, HE.out, .inl rfl⟩
    case rest =>
      obtain ⟨q, rfl, hold2⟩ := hcut
      clear hold HE
      obtain ⟨sa', wsa', wsc', hE, hold⟩ := hold2
      have HE := Aside0.mk hE
      clear hE
      go_upto_if 62 with (fail)
      go_cut [10] (fun v10 wx => v10 = .pointer (some ⟨ga, 0, none⟩) ∧ ∃ r wsr sa wsa, Aside0 (Ends w gc r wsr ga sa wsa wx) ∧ Aside0 (∀ b2, Holds sa.next b2 r []))
      case first =>
        rcases hold with rfl | ⟨rfl, hz, h1, T, B, hD, hTl, rfl⟩
        · go_wp2
          go_meet
          case rel => exact ⟨rfl, newS 0, wsc', sa', wsa', HE, ⟨fun b2 => .inl ⟨rfl, rfl, fun h => by cases h⟩⟩⟩
        · have hmo := manyF_le hz
          obtain ⟨gb, cc, rfl, hgb, hgl, hcc, hat⟩ := sl_at hD.1 (by omega)
          have hT0 : 0 < T.length := by omega
          have hc0 := hat 0 T[0] (List.getElem?_eq_getElem hT0)
          obtain ⟨hn0, hnc0, hC0⟩ := RS.C (hD.2.1 0 T[0] (List.getElem?_eq_getElem hT0))
          have hok := HE.out.two.ok
          have hnx : 0 ≤ (newS first).next ∧ (newS first).next < 65536 := (newS_okay first).1
          have hfo := holds_first (b := old) 0 (newS first) hnx hz h1
          have hdr := dg_range (newS_okay first) hnx H1.out.byte hz (i := 0) (by omega)
          have hds := dg_small (newS first) (newS first).next old 0
          obtain ⟨t, ht⟩ : ∃ t, t = T[0] := ⟨_, rfl⟩
          rw [← ht] at hc0 hn0 hnc0 hC0
          obtain ⟨At, nt, ct⟩ := t
          change nt = _ at hn0
          change _ ≤ ct at hnc0
          change Kd.C (Kd.int .u8) _ At _ _ at hC0
          replace hc0 : _ = some (Value.slice At nt ct) := hc0
          have hrv := HE.out.recv HT.out At ct nt _ hn0.symm hC0 (by omega) hdr (by omega)
          rw [show (recvF (newS 0) (dgF (newS first) (newS first).next old 0)).2.2.1 = false by rw [hfo.1], show (recvF (newS 0) (dgF (newS first) (newS first).next old 0)).2.2.2 = 0 by rw [hfo.1]] at hrv
          have HF := Aside0.mk hfo.2
          have hT1 : 0 < T.length := hT0
          clear hn0 hnc0 hC0 hfo hdr hds ht hD hat hgb hgl hcc hok hnx hTl hmo
          go_wp2_with fail
          ((with_reducible refine hrv.mono ?_); rintro e_ W5 ⟨vx, wsr, rfl, _, hE2, hk2⟩)
          have HE2 := Aside0.mk hE2
          clear hrv hE2 hk2 HE
          go_wp2
          go_meet
          case rel => exact ⟨rfl, _, wsr, _, _, HE2, HF⟩
      case rest =>
        obtain ⟨rfl, r, wsr, sa, wsa, HE1, HH⟩ := hcut
        clear hold HE
        by_cases hz : m2 ≤ 2000
        · have hsd := HE1.out.swap.send HT.out A2 c2 m2 b HM2.out.symm (H2.out.kept2 HE1.out.swap) hc2 H2.out.byte hz
          have HK := Aside0.mk (H2.out.kept2 HE1.out.swap)
          go_wp2_with fail
          ((with_reducible refine hsd.mono ?_); rintro e_ W4 ⟨v, T, B, wa', rfl, hTl, hB, hD, hE, hk⟩)
          have hml := manyF_le hz
          have HD := Aside0.mk hD; have HE := Aside0.mk hE.swap; have HTL := Aside0.mk hTl
          have HN1 := Aside0.mk HE1.out.two.ok.1
          have HOKA := Aside0.mk HE1.out.two.ok
          have HH2 := Aside0.mk (HH.out b)
          clear hsd hTl hB hD hE hk HE1 HK HH
          obtain ⟨M, hMM⟩ : ∃ M, M = manyF b.length := ⟨_, rfl⟩
          rw [← HM2.out] at hMM HTL
          rw [← hMM] at HTL hml
          have hT1 : 0 < T.length := by have := HTL.out; omega
          obtain ⟨gb, cc, rfl, hgb, hgl, hcc, hat⟩ := sl_at HD.out.1 hT1
          rw [show T.length = M from HTL.out] at HD ⊢
          have HMM := Aside0.mk hMM
          clear hgb hgl hcc hat hT1 hMM
          generalize hnn : sa.next = n at HN1 HH2 HD ⊢
          clear hnn
          generalize hdd : dgF sa n b = D at HD
          have HDD := Aside0.mk hdd
          clear hdd
          go_wp2
          go_loopw [22, 23] (fun vl vi wr => ∃ j : Nat, vi = .int .i64 j ∧ j ≤ M ∧ Aside0 (Kd.R (Kd.int .i64) 3 wr w.heap.size (fun _ => True) vl (castL (List.range j))) ∧ Aside0 (Ends w gc r wsr ga (sendS sa) wa' wr) ∧ Aside0 (DgRows B wr (.slice (some ⟨gb, 0, none⟩) M cc) D T)) (fun _ vi _ => (M - (intOf vi).toNat))
          case atStart => exact ⟨0, rfl, by omega, ⟨Kd.R_nil _ _ _ _ _⟩, HE, HD⟩
          case round =>
            clear HE HD
            obtain ⟨j, rfl, hj, HL, HE, HD⟩ := hrel
            by_cases hjM : j < M
            · have dj : decide (j < M) = true := decide_eq_true hjM
              have hcl : (castL (List.range j)).length = j := by simp [castL]
              have HCL := Aside0.mk hcl
              clear hcl
              go_wp2_with (first | ((with_reducible refine gate_builtin (b := .append) (xs := #[.tmp 99, .tmp 101]) rfl ?_); at_builtin; refine Kd.R_append_rows (Kd.int .i64) (w0 := w) w.heap.size rfl (.tmp 99) (.tmp 101) 33 3 (.int .i64 0) 8 rfl Tryd.underlying33 infoI rfl (by decide) (by omega) _ (castL (List.range j)) [(j : Int)] _ _ _ (fun _ => True) (fun _ => False) rfl rfl ?aO ?aR (fun _ _ h => h) (fun _ h => h.elim) ?aF ?aB ?aS ?aL ?_; (case aR => exact (C_int1 wr .i64 j _)); (case aB => exact below_alloc HE.out.below _); (case aF => exact (fun _ _ => trivial)); (case aO => exact Kd.R_alloc HL.out _); (case aS => exact (below_size (below_alloc HE.out.below _))); (case aL => (rw [HCL.out]; omega)); intro v1 w1 ho hb hg hat; have HE4 := Aside0.mk ((HE.out.more (below_alloc (Below.refl _ _) _)).grown (ints_own (Kd.R_alloc HL.out _)) hg); have HD4 := Aside0.mk ((HD.out.below (below_alloc (Below.refl _ _) _)).grown (fun b e => (ints_own (Kd.R_alloc HL.out _) b e).2) hg); have HL4 := Aside0.mk ho; clear HE HL HD ho hb hg hat))
              exact ⟨⟨j + 1, by go_num, by omega, ⟨by rw [List.range_succ]; simpa [castL] using HL4.out⟩, HE4, HD4⟩, by simp [intOf]; omega⟩
            · have hje : j = M := by omega
              subst hje
              have dj : decide (j < j) = false := by simp
              have HMB : Aside0 (manyF b.length = j) := ⟨by rw [← HM2.out]; exact HMM.out.symm⟩
              have hperm : List.Perm (List.range j ++ ([] : List Nat)) (List.range j) := by simp
              have HPM := Aside0.mk hperm
              clear hperm
              go_wp2
              go_loopw [21, 22, 24] (fun vt vl vi wr => ∃ (i q : Nat) (lf R : List Nat) (r : LS) (ws1 : List Nat), vi = .int .i64 i ∧ vt = .int .i64 (if q = 0 then 1 else 0) ∧ q = lf.length ∧ i = R.length ∧ i + q = j ∧
                Aside0 (Kd.R (Kd.int .i64) 3 wr w.heap.size (fun _ => True) vl (castL lf)) ∧ Aside0 (Ends w gc r ws1 ga (sendS sa) wa' wr) ∧ Aside0 (DgRows B wr (.slice (some ⟨gb, 0, none⟩) j cc) D T) ∧ Aside0 (Holds n b r R) ∧ Aside0 (List.Perm (lf ++ R) (List.range j))) (fun _ _ vi _ => (j - (intOf vi).toNat))
              case atStart => exact ⟨0, j, List.range j, [], r, wsr, rfl, by rw [if_neg (by omega)], by simp, rfl, by omega, HL, HE, HD, HH2, HPM⟩
              case round =>
                clear HL HE HD HH2 HPM
                obtain ⟨i, q, lf, R, r, ws1, rfl, rfl, hq, hi, hiq, HL, HE, HD, HH, HP⟩ := hrel
                have HQ := Aside0.mk hq; have HI := Aside0.mk hi
                clear hq hi dj
                obtain ⟨A4, c4, hvl, hlc, hC4⟩ := Kd.R_reads HL.out
                subst hvl
                have hcl : (castL lf).length = q := by simp [castL, HQ.out]
                have hlq : lf.length = q := HQ.out.symm
                rw [hcl] at hlc hC4 ⊢
                have HC4 := Aside0.mk hC4
                rw [hcl] at HL
                clear hcl hC4 hlq
                by_cases hq0 : 0 < q
                · have d0 : decide (0 < q) = true := decide_eq_true hq0
                  have d0' : decide (0 < (q : Int)) = true := decide_eq_true (by omega)
                  rw [if_neg (by omega)]
                  go_upto_if 111 with (fail)
                  go_cut [25] (fun v25 wx => wr = wx ∧ ∃ k : Nat, v25 = .int .i64 k ∧ k < q)
                  case first =>
                    by_cases ho : i < m3
                    · have do1 : decide (i < m3) = true := decide_eq_true ho
                      obtain ⟨ad, hA3, hcx⟩ := Kd.at_int (Kd.C_below H3.out HE.out.below) (i : Int) (by omega) (by have := HM3.out; omega)
                      subst hA3
                      rw [Int.toNat_natCast] at hcx
                      generalize rd ord (i : Int) = x at hcx
                      have hx := and_1023 x
                      have hx0 : 0 ≤ x % 1024 := by omega
                      have hx1 : x % 1024 < 1024 := by omega
                      generalize x % 1024 = y at hx hx0 hx1
                      have hy0 : 0 ≤ y % (q : Int) := Int.emod_nonneg _ (by omega)
                      have hy1 : y % (q : Int) < (q : Int) := Int.emod_lt_of_pos _ (by omega)
                      go_wp2
                      go_meet
                      case rel => exact ⟨rfl, (y % (q : Int)).toNat, by rw [Int.toNat_of_nonneg hy0], by omega⟩
                    · have do1 : decide (i < m3) = false := decide_eq_false ho
                      go_wp2
                      go_meet
                      case rel => exact ⟨rfl, 0, rfl, hq0⟩
                  case rest =>
                    obtain ⟨rfl, k, rfl, hk⟩ := hcut
                    clear d0 d0'
                    have hkl : k < lf.length := by have := HQ.out; omega
                    obtain ⟨x, hx⟩ : ∃ x, x = lf[k] := ⟨_, rfl⟩
                    have hxm : x ∈ lf := by rw [hx]; exact List.getElem_mem hkl
                    have hxj : x < j := by
                      have := HP.out.mem_iff.1 (List.mem_append_left R hxm)
                      simpa using this
                    have hxR : x ∉ R := by
                      have hnd : (lf ++ R).Nodup := HP.out.nodup_iff.2 List.nodup_range
                      exact fun hm => (List.nodup_append.1 hnd).2.2 x hxm x hm rfl
                    have hcx : ∃ ad, A4 = some ad ∧ wr.cell? (ad.add k) = some (.int .i64 x) := by
                      obtain ⟨ad, e, h⟩ := Kd.at_int HC4.out (k : Int) (by omega) (by omega)
                      refine ⟨ad, e, ?_⟩
                      rw [Int.toNat_natCast, rd_get' (show k < (castL lf).length by simpa [castL] using hkl)] at h
                      rw [h, hx]
                      simp [castL]
                    obtain ⟨ad4, rfl, hcx⟩ := hcx
                    have HXK := Aside0.mk hx; have HXR := Aside0.mk hxR
                    clear hx hxm hxR
                    have hxT : x < T.length := by rw [show T.length = j from HTL.out]; exact hxj
                    have hct := sl_cell HD.out.1 x T[x] (List.getElem?_eq_getElem hxT)
                    obtain ⟨hn0, hnc0, hC0⟩ := RS.C (HD.out.2.1 x T[x] (List.getElem?_eq_getElem hxT))
                    obtain ⟨t, ht⟩ : ∃ t, t = T[x] := ⟨_, rfl⟩
                    rw [← ht] at hct hn0 hnc0 hC0
                    obtain ⟨At, nt, ct⟩ := t
                    change nt = _ at hn0
                    change _ ≤ ct at hnc0
                    change Kd.C (Kd.int .u8) _ At _ _ at hC0
                    replace hct : _ = some (Value.slice At nt ct) := hct
                    have hbz : b.length ≤ 2000 := by rw [← HM2.out]; exact hz
                    have hxM : x < manyF b.length := by have := HMB.out; omega
                    have hno := HI.out
                    have HRl : Aside0 (R.length < manyF b.length) := ⟨by have := HMB.out; omega⟩
                    have hnew := holds_new HH.out sa HN1.out hbz hxM HXR.out HRl.out (fun _ jj hjj => by
                      have hm : jj ∈ lf ++ R := HP.out.mem_iff.2 (by have := HMB.out; simp; omega)
                      have hl1 : lf.length = 1 := by have := HQ.out; have := HMB.out; omega
                      obtain ⟨y, hy⟩ := List.length_eq_one_iff.1 hl1
                      have hxy : x ∈ lf := by rw [HXK.out]; exact List.getElem_mem hkl
                      rw [hy] at hm hxy
                      rw [List.mem_singleton.1 hxy]
                      simp at hm
                      simp
                      exact hm.symm)
                    have hold' := holds_old hnew.1 sa HN1.out hbz hxM (by simp)
                    rw [HDD.out] at hnew hold'
                    rw [← HDD.out] at hn0 hnc0 hC0
                    have hdr := dg_range HOKA.out HN1.out H2.out.byte hbz hxM
                    have hds := dg_small sa n b x
                    rw [HDD.out] at hn0 hnc0 hC0 hdr hds
                    have hrv := HE.out.recv HT.out At ct nt _ hn0.symm hC0 (by omega) hdr (by omega)
                    have HNEW := Aside0.mk hnew; have HOLD := Aside0.mk hold'
                    have HC0 := Aside0.mk hC0; have HN0 := Aside0.mk hn0
                    have hcap : nt ≤ ct := by omega
                    have hsm : nt ≤ 215 := by omega
                    clear hnew hold' hdr hds hC0 hn0 hnc0 hno
                    obtain ⟨m', tb, hres, ht1, ht0⟩ : ∃ m' tb, (recvF r (D x)).2 = (m', tb, 0) ∧ (tb = true → m' = b ∧ q = 1) ∧ (tb = false → q ≠ 1) := by
                      have h1 := HI.out
                      have h2 := HMB.out
                      have h3 := HNEW.out.2
                      by_cases hlast : R.length + 1 = manyF b.length
                      · rw [if_pos hlast] at h3
                        exact ⟨b, true, h3, fun _ => ⟨rfl, by omega⟩, fun e => by cases e⟩
                      · rw [if_neg hlast] at h3
                        exact ⟨[], false, h3, fun e => (by cases e), fun _ => by omega⟩
                    rw [show (recvF r (D x)).2.2.1 = tb by rw [hres], show (recvF r (D x)).2.2.2 = 0 by rw [hres], show (recvF r (D x)).2.1 = m' by rw [hres]] at hrv
                    have HT1 := Aside0.mk ht1; have HT0 := Aside0.mk ht0
                    clear hres ht1 ht0
                    go_wp2_with fail
                    ((with_reducible refine hrv.mono ?_); rintro e_ W5 ⟨vm, ws5, rfl, hm, hE5, hk5⟩)
                    have HE5 := Aside0.mk hE5; have HM5 := Aside0.mk hm
                    have HD5 := Aside0.mk (HD.out.keeps HE.out.one hk5)
                    have HL5 := Aside0.mk (ints_keeps HL.out HE.out.one hk5)
                    clear hrv hm hE5 hk5 hcx hct
                    obtain ⟨Am, cm, hvm, hcm⟩ := bytes_string HM5.out
                    subst hvm
                    obtain ⟨lm, hlm⟩ : ∃ lm, lm = m'.length := ⟨_, rfl⟩
                    rw [← hlm] at hcm HM5 ⊢
                    clear hlm
                    go_upto_if 133 with (fail)
                    go_cut [21] (fun v21 wx => W5 = wx ∧ v21 = .int .i64 (if q = 1 then 1 else 0))
                    case first =>
                      cases tb with
                      | true =>
                        obtain ⟨rfl, rfl⟩ := HT1.out rfl
                        have hcb := Kd.C_string (c := c2) Tryd.underlying30 Tryd.underlying5 Tryd.underlying9 (Kd.C_below H2.out.C HE5.out.below)
                        have hln : m'.length = m2 := HM2.out.symm
                        rw [hln] at hcb
                        clear hln
                        generalize strOfNums m' = sb at hcm hcb
                        go_wp2
                        go_meet
                        case rel => exact ⟨rfl, by simp⟩
                      | false =>
                        have hq1 := HT0.out rfl
                        go_wp2
                        go_meet
                        case rel => exact ⟨rfl, by simp [hq1]⟩
                    case rest =>
                      obtain ⟨rfl, hv21⟩ := hcut
                      obtain ⟨tv, htv⟩ : ∃ tv : Int, tv = if q = 1 then 1 else 0 := ⟨_, rfl⟩
                      rw [← htv] at hv21
                      subst hv21
                      have HTV := Aside0.mk htv
                      clear htv
                      have hcx : W5.cell? (ad4.add k) = some (.int .i64 x) := by
                        obtain ⟨ad, e, h⟩ := Kd.at_int (Kd.R_reads' HL5.out).2.2 (k : Int) (by omega) (by rw [show (castL lf).length = lf.length by simp [castL]]; omega)
                        injection e with e
                        subst e
                        rw [Int.toNat_natCast, rd_get' (show k < (castL lf).length by simpa [castL] using hkl)] at h
                        rw [h, HXK.out]
                        simp [castL]
                      have hct := sl_cell HD5.out.1 x T[x] (List.getElem?_eq_getElem hxT)
                      obtain ⟨hn5, _, hC5⟩ := RS.C (HD5.out.2.1 x T[x] (List.getElem?_eq_getElem hxT))
                      rw [← ht] at hct hC5 hn5
                      replace hct : _ = some (Value.slice At nt ct) := hct
                      have hrv := HE5.out.recv HT.out At ct nt _ HN0.out.symm hC5 hcap (by have := dg_range HOKA.out HN1.out H2.out.byte hbz hxM; rw [HDD.out] at this; exact this) (by omega)
                      have hres := HOLD.out.2
                      rw [show (recvF (recvF r (D x)).1 (D x)).2.2.1 = false by rw [hres], show (recvF (recvF r (D x)).1 (D x)).2.2.2 = 71 by rw [hres]] at hrv
                      have hh6 := HOLD.out.1
                      have HT5 := Aside0.mk ht
                      clear hres hn5 hC5 ht
                      go_wp2_with fail
                      ((with_reducible refine hrv.mono ?_); rintro e_ W6 ⟨vm6, ws6, rfl, _, hE6, hk6⟩)
                      have HE6 := Aside0.mk hE6
                      have HD6 := Aside0.mk (HD5.out.keeps HE5.out.one hk6)
                      have HL6 := Aside0.mk (ints_keeps HL5.out HE5.out.one hk6)
                      have HH6 := Aside0.mk hh6
                      clear hrv hE6 hk6 hcx hct hh6 HE HD HL HH HE5 HD5 HL5 HM5 HC4 HNEW HOLD
                      obtain ⟨A8, hcut8, hC8⟩ := cut_ints (some ad4) c4 (castL lf) q (by simp [castL, HQ.out]) k hk hlc
                      have HC8 := Aside0.mk hC8
                      have hlen8 : (castL lf).length = q := by simp [castL, HQ.out]
                      have HLEN8 := Aside0.mk hlen8
                      have hq10 : q ≤ 10 := by omega
                      clear hC8 hlen8
                      go_wp2_with (first | ((with_reducible refine gate_builtin (b := .append) (xs := #[.tmp 164, .tmp 167]) rfl ?_); at_builtin; refine Kd.R_append_rows (Kd.int .i64) (w0 := w) w.heap.size rfl (.tmp 164) (.tmp 167) 33 3 (.int .i64 0) 8 rfl Tryd.underlying33 infoI rfl (by decide) (by omega) _ [] ((castL lf).take k) _ _ _ (fun _ => True) (fun _ => False) rfl rfl ?aO ?aR (fun _ _ h => h) (fun _ h => h.elim) ?aF ?aB ?aS ?aL ?_; (case aR => exact take_ints HLEN8.out k hk (by have h := (Kd.R_reads' HL6.out).2.2; rw [HLEN8.out] at h; exact h)); (case aB => exact HE6.out.below); (case aF => exact (fun _ _ => trivial)); (case aO => exact Kd.R_nil _ _ _ _ _); (case aS => exact (below_size HE6.out.below)); (case aL => (show (0 + k) * 8 ≤ 140737488355328; omega)); intro v1 w1 ho hb hg hat; have HE7 := Aside0.mk (HE6.out.grown (fun b e => by cases e) hg); have HD7 := Aside0.mk (HD6.out.grown (fun b e => by cases e) hg); have HL7 := Aside0.mk (Kd.R_below HL6.out (grown_below (Below.refl _ _) hg (fun b e => by cases e))); have HO7 := Aside0.mk ho; clear HE6 HD6 HL6 ho hb hg hat) | ((with_reducible refine gate_builtin (b := .append) (xs := #[.tmp 169, .tmp 173]) rfl ?_); at_builtin; refine Kd.R_append_rows (Kd.int .i64) (w0 := w) w.heap.size rfl (.tmp 169) (.tmp 173) 33 3 (.int .i64 0) 8 rfl Tryd.underlying33 infoI rfl (by decide) (by omega) _ ([] ++ (castL lf).take k) ((castL lf).drop (k + 1)) _ _ _ (fun _ => True) (fun _ => False) rfl rfl ?aO ?aR (fun _ _ h => h) (fun _ h => h.elim) ?aF ?aB ?aS ?aL ?_; (case aR => exact HC8.out _ (by have h := (Kd.R_reads' HL7.out).2.2; rw [HLEN8.out] at h; exact h)); (case aB => exact HE7.out.below); (case aF => exact (fun _ _ => trivial)); (case aO => exact HO7.out); (case aS => exact (below_size HE7.out.below)); (case aL => (have hh : ([] ++ (castL lf).take k).length ≤ k := (by rw [List.nil_append, List.length_take]; omega); omega)); intro v8 w8 ho hb hg hat; have HE8 := Aside0.mk (HE7.out.grown (ints_own HO7.out) hg); have HD8 := Aside0.mk (HD7.out.grown (fun b e => (ints_own HO7.out b e).2) hg); have HO8 := Aside0.mk ho; clear HE7 HD7 HL7 HO7 ho hb hg hat))
                      refine ⟨⟨i + 1, q - 1, lf.take k ++ lf.drop (k + 1), R ++ [x], _, ws6, by go_num, ?_, ?_, ?_, by omega, ⟨?_⟩, HE8, HD8, HH6, ⟨?_⟩⟩, by simp [intOf]; omega⟩
                      · rw [HTV.out]
                        by_cases h1 : q = 1
                        · rw [if_pos h1, if_pos (by omega)]
                        · rw [if_neg h1, if_neg (by omega)]
                      · rw [List.length_append, List.length_take, List.length_drop]; have := HQ.out; omega
                      · rw [List.length_append, ← HI.out]; rfl
                      · have h8 := HO8.out
                        rw [List.nil_append] at h8
                        unfold castL at *
                        rw [List.map_append, List.map_take, List.map_drop]
                        exact h8
                      · rw [HXK.out]
                        exact perm_moved hkl HP.out
                · have hq1 : q = 0 := by omega
                  subst hq1
                  have d0 : decide (0 < 0) = false := by decide
                  have hend : r.any = true ∧ r.last = n := by
                    rcases HH.out with ⟨e, _⟩ | ⟨_, e, _⟩ | ⟨_, e1, e2⟩
                    · have h1 := HI.out; rw [e] at h1; simp at h1; omega
                    · have := HI.out; have := HMB.out; omega
                    · exact ⟨e1, e2⟩
                  have hla := Last_calls gc r ws1 wr HE.out.one
                  rw [hend.1, hend.2] at hla
                  clear hend
                  go_wp2_with fail
                  ((with_reducible refine hla.mono ?_); rintro e_ W6 ⟨rfl, q6, rfl⟩)
                  clear hla
                  go_wp2
                  go_ret
                  exact ⟨rfl, pw_below_drewN HE.out.below q6⟩
        · go_wp2_with fail
          ((with_reducible refine (Send_long _ _ _ _ _ (by omega)).mono ?_); rintro e_ W4 ⟨rfl, rfl⟩)
          have d1 : decide (2000 < m2) = true := decide_eq_true (by omega)
          have d1' : decide (2000 < (m2 : Int)) = true := decide_eq_true (by omega)
          go_wp2
          go_ret
          exact ⟨rfl, HE1.out.below⟩
end Go.Proofs.YtbdocgddidcfeaaDoor
