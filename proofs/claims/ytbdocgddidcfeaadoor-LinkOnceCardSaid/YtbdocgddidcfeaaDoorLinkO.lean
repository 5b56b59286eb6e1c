/- Send. -/
import Derived.Test.YtbdocgddidcfeaaDoorLinkNA
import Derived.Deep.DeepCutAuto
import Derived.Deep.CutBlock
import Derived.Deep.CutRange
import Derived.Deep.Cut
namespace Go.Proofs.YtbdocgddidcfeaaDoor
open Go.RowKit Go.Proofs.YtbdocgddidcfeaaDoorW.PrintWords Go.Proofs.YtbdocgddidcfeaaDoorW.PrintLast Go.Proofs.YtbdocgddidcfeaaDoorW.PrintMore
set_option linter.unusedVariables false
set_option linter.unusedSimpArgs false

set_option maxHeartbeats 8000000 in
set_option maxRecDepth 100000 in
theorem Send_calls (g : Nat) (s : LS) (ws : List Nat) (A : Option Addr) (c : Nat) (b : List Int) (w : World) (h : LinkM w g s ws) (hC : ∀ W', Keeps w W' ws → Kd.C (Kd.int .u8) W' A b.length b) (hc : b.length ≤ c) (hb : ∀ x ∈ b, 0 ≤ x ∧ x < 256) (hL : b.length ≤ 2000) (hT : Tab w) (h0 : ∀ k ∈ ws, k ≠ 0) :
    Calls Tryd.prog 12 #[.pointer (some ⟨g, 0, none⟩), .slice A b.length c] w (SndPost w g ws s b) := by
  have HT := Aside0.mk hT; have HH := Aside0.mk h; have HC := Aside0.mk hC; have HBR := Aside0.mk hb; have HZ := Aside0.mk h0
  obtain ⟨sv, ma, mp, gs, mb, hg, hsent, hack, hparts, hw, hne, hws, hok⟩ := h
  obtain ⟨A1, c1, hsv, hlc, _⟩ := hsent.C
  subst hsv
  obtain ⟨k0, k1, k2, k3, k4, k5, k6, k7, k8, k9⟩ := lcell hg
  have hfz : ∀ j, w.frozen? ⟨g, j, none⟩ = false := fun j => blk_frozen hg j
  have hgl : g < w.heap.size := (Array.getElem?_eq_some_iff.1 hg).1
  obtain ⟨m, hm⟩ : ∃ m, m = s.sent.length := ⟨_, rfl⟩
  rw [← hm] at k1 hlc hsent hg
  obtain ⟨L, hLe⟩ : ∃ L, L = b.length := ⟨_, rfl⟩
  rw [← hLe] at hL hc ⊢
  have hnx := hok.1
  generalize hnn : s.next = n at k0 hnx
  have HG := Aside0.mk hg; have HS := Aside0.mk hsent; have HA := Aside0.mk hack; have HP := Aside0.mk hparts; have HW := Aside0.mk hw; have HNE := Aside0.mk hne; have HWS := Aside0.mk hws; have HOK := Aside0.mk hok; have HM := Aside0.mk hm; have HLE := Aside0.mk hLe; have HNN := Aside0.mk hnn
  clear hg hsent hack hparts hw hne hws hok hm hLe hC hb hT hnn h0
  have e1 : decide (2000 < (L : Int)) = false := decide_eq_false (by omega)
  go_enter Tryd.func12, Tryd.ntmps12
  have hX : ∀ o : Obj, ((w.setCell ⟨g, 0, none⟩ (.int .u16 (IntKind.u16.wrap (n + 1)))).alloc o).heap[g]? = some (.cells (lcells { s with next := IntKind.u16.wrap (n + 1) } (.slice A1 m c1) ma mp) 64 (0, 0)) := fun o =>
    ((MapKept.heap_alloc _ o).2 g (by simpa [World.setCell] using hgl)).trans (blk_put HG.out 0 (.int .u16 (IntKind.u16.wrap (n + 1))) rfl)
  have hgr1 : ∀ o : Obj, w.grownBy ((w.setCell ⟨g, 0, none⟩ (.int .u16 (IntKind.u16.wrap (n + 1)))).alloc o) (some g) := fun o => grown_trans (grown_set (World.grownBy.refl w (some g))) (World.grownBy_alloc _ _ _)
  have HX := Aside0.mk hX; have HGR1 := Aside0.mk hgr1
  clear hX hgr1
  obtain ⟨X1, hX1⟩ : ∃ X, X = (w.setCell ⟨g, 0, none⟩ (.int .u16 (IntKind.u16.wrap (n + 1)))).alloc (.cells #[.int .u16 n] 58) := ⟨_, rfl⟩
  have p1 : SentAt X1 (.slice A1 m c1) s.sent gs := by rw [hX1]; exact (struct_keeps HG.out (HGR1.out _)).1 _ _ _ HS.out
  have p2 : X1.cell? ((⟨w.heap.size, 0, none⟩ : Addr).add 0) = some (.int .u16 n) := by
    rw [add_plain, hX1]
    have h := (MapKept.heap_alloc (w.setCell ⟨g, 0, none⟩ (.int .u16 (IntKind.u16.wrap (n + 1)))) (.cells #[.int .u16 n] 58)).1
    have hsz : (w.setCell ⟨g, 0, none⟩ (.int .u16 (IntKind.u16.wrap (n + 1)))).heap.size = w.heap.size := by simp [World.setCell]
    rw [hsz] at h
    exact blk_cell h 0
  have p3 : X1.heap[g]? = some (.cells (lcells { s with next := IntKind.u16.wrap (n + 1) } (.slice A1 m c1) ma mp) 64 (0, 0)) := by rw [hX1]; exact HX.out _
  have p4 : w.grownBy X1 (some g) := by rw [hX1]; exact HGR1.out _
  have hl64 : s.sent.length ≤ 64 := HOK.out.2.2.2.2.2.2.1
  have P1 := Aside0.mk p1; have P2 := Aside0.mk p2; have P3 := Aside0.mk p3; have P4 := Aside0.mk p4; have PX := Aside0.mk hX1; have HL64 := Aside0.mk hl64
  clear p1 p2 p3 p4 hX1 hl64
  go_upto_if 42 with (first | ((with_reducible refine gate_builtin (b := .append) (xs := #[.tmp 31, .tmp 33]) rfl ?_); at_builtin; rw [← PX.out]; refine wp_sent_append rfl (.tmp 31) (.tmp 33) rfl _ s.sent gs P1.out HL64.out n ⟨w.heap.size, 0, none⟩ rfl rfl P2.out ?_; intro v1 w1 gs1 hs1 hg1 hgs1; obtain ⟨A2, c2, hv1, hlc2, _⟩ := hs1.C; subst hv1; have hw1 := sent_far P1.out hg1 P3.out (fun cs e => by injection e with _ e; cases e); have HS1 := Aside0.mk hs1; have HG1 := Aside0.mk hg1; have HGS1 := Aside0.mk hgs1; have HW1 := Aside0.mk hw1; obtain ⟨_, t1, t2, t3, t4, t5, t6, t7, t8, t9⟩ := lcell hw1; have fz1 : ∀ j, w1.frozen? ⟨g, j, none⟩ = false := (fun j => blk_frozen hw1 j); clear hs1 hg1 hgs1 hw1))
  go_cut [7, 42] from 43 (fun s7 s42 wc => s7 = .int .u16 n ∧ Aside0 (Sent1 w g s ws wc))
  case first =>
    have hsz0 : (s.sent ++ [n]).length = s.sent.length + 1 := by simp
    have hcL : (lcells { s with next := IntKind.u16.wrap (n + 1) } (.slice A1 m c1) ma mp).setIfInBounds 1 (.slice A2 (s.sent ++ [n]).length c2) = lcells { s with next := IntKind.u16.wrap (n + 1) } (.slice A2 (s.sent ++ [n]).length c2) ma mp := rfl
    have hgc := (blk_put HW1.out 1 (.slice A2 (s.sent ++ [n]).length c2) rfl)
    rw [hcL] at hgc
    have hgrc : w1.grownBy (w1.setCell ⟨g, 1, none⟩ (.slice A2 (s.sent ++ [n]).length c2)) (some g) := grown_set (World.grownBy.refl w1 (some g))
    obtain ⟨q1, q2, q3⟩ := struct_keeps HW1.out hgrc
    have hsc := q1 _ _ _ HS1.out
    obtain ⟨z2, z3⟩ := sent_keeps P1.out HG1.out
    have hgx : w.grownBy X1 (some g) := P4.out
    obtain ⟨y1, y2, y3⟩ := struct_keeps HG.out hgx
    have hac := q2 _ _ (z2 _ _ (y2 _ _ HA.out))
    have hpc := q3 _ _ _ (z3 _ _ _ (y3 _ _ _ HP.out))
    have hgw : g ∈ ws := by rw [HWS.out]; simp [wset]
    have hkc : Keeps w (w1.setCell ⟨g, 1, none⟩ (.slice A2 (s.sent ++ [n]).length c2)) ws :=
      ((Keeps.of_grown hgx hgw).then (Keeps.of_grown' HG1.out (fun b e => by rw [HWS.out, e]; simp [wset]))).then (Keeps.of_grown hgrc hgw)
    have hwn : ∀ k ∈ wset g ma gs1 mb, k ∈ ws ∨ w.heap.size ≤ k := by
      intro k hk
      rw [HWS.out]
      simp only [wset, List.mem_append, List.mem_cons, List.not_mem_nil, or_false, Option.mem_toList] at hk ⊢
      rcases hk with (hk | hk) | hk
      · exact .inl (.inl (.inl hk))
      · rcases HGS1.out with e | e
        · rw [e] at hk; exact .inl (.inl (.inr hk))
        · rw [e] at hk
          injection hk with hk
          have := hgx.size
          exact .inr (by omega)
      · exact .inl (.inr hk)
    have hnm : IntKind.u16.wrap (n + 1) = (s.next + 1) % 65536 := by rw [IntKind.wrap_u16, HNN.out]
    rw [hsz0] at hgc hsc hkc hac hpc
    clear q1 q2 q3 z2 z3 y1 y2 y3 hcL
    have HGC := Aside0.mk hgc; have HSC := Aside0.mk hsc; have HAC := Aside0.mk hac; have HPC := Aside0.mk hpc; have HKC := Aside0.mk hkc; have HWN := Aside0.mk hwn; have HNM := Aside0.mk hnm; have HSZ := Aside0.mk hsz0; have HGW := Aside0.mk hgw
    clear hgc hsc hac hpc hkc hwn hnm hsz0 hgw hgrc hgx
    by_cases hk : 64 < s.sent.length + 1
    · have dk : decide ((64 : Int) < (s.sent.length : Int) + 1) = true := decide_eq_true (by omega)
      obtain ⟨x0, l0, hl0⟩ : ∃ x0 l0, s.sent ++ [n] = x0 :: l0 := List.exists_cons_of_ne_nil (by simp)
      have hsc0 := HSC.out
      obtain ⟨A3, c3, hv3, hlc3, hC3⟩ := hsc0.C
      obtain ⟨ad, hA3, hcl3⟩ := Kd.at_int hC3 0 (by omega) (by rw [HSZ.out]; omega)
      injection hv3 with e31 e32 e33
      subst e31; subst hA3; subst e33
      rw [hl0] at hcl3 hsc0
      have hl1 : s.sent.length + 1 = l0.length + 1 := by rw [← HSZ.out, hl0]; rfl
      have hc31 : ¬ c2 = 1 := by rw [HSZ.out] at hlc3; omega
      have hs3 := sent_slide2 (l := l0) hsc0 hc31
      obtain ⟨W5, hdel, hgr5, him5⟩ := IM.del (w := (w1.setCell ⟨g, 1, none⟩ (.slice (some ad) (s.sent.length + 1) c2)).drew) (ty := 0) HAC.out Tryd.underlying59 Tryd.underlying58 x0
      obtain ⟨r0, r1, r2, r3, r4, r5, r6, r7, r8, r9⟩ := lcell HGC.out
      have hrd : rd (x0 :: l0) 0 = x0 := rfl
      rw [hrd] at hcl3
      change _ = some (Value.int .u16 x0) at hcl3
      rw [show (0 : Int).toNat = 0 from rfl] at hcl3
      obtain ⟨m1, m2, m3⟩ := map_keeps (W := (w1.setCell ⟨g, 1, none⟩ (.slice (some ad) (s.sent.length + 1) c2)).drew) HAC.out hgr5
      have hg5 := m1 _ _ HGC.out
      have hs5 := m2 _ _ _ hs3
      have hp5 := m3 _ _ _ HNE.out HPC.out
      have hk5 : Keeps w W5 ws := HKC.out.then (Keeps.of_grown (g := ma) ⟨hgr5.os, hgr5.tape, hgr5.output, hgr5.size, hgr5.block⟩ (by rw [HWS.out]; simp [wset]))
      obtain ⟨b0, b1, b2, b3, b4, b5, b6, b7, b8, b9⟩ := lcell hg5
      have fz5 : ∀ j, W5.frozen? ⟨g, j, none⟩ = false := fun j => blk_frozen hg5 j
      have HG5 := Aside0.mk hg5; have HS5 := Aside0.mk hs5; have HP5 := Aside0.mk hp5; have HK5 := Aside0.mk hk5; have HI5 := Aside0.mk him5; have HL0 := Aside0.mk hl0; have HL1 := Aside0.mk hl1
      clear hsc0 hlc3 hC3 hl0 hl1 hs3 hgr5 him5 hrd m1 m2 m3 hg5 hs5 hp5 hk5 k0 k1 k2 k3 k4 k5 k6 k7 k8 k9 t1 t2 t3 t4 t5 t6 t7 t8 t9 b2 b3 b4 b5 b6 b7 b8 b9 r3 r4 r5 r6 r7 r8 r9
      have dlen : decide ((0 : Int) < (s.sent.length : Int) + 1) = true := decide_eq_true (by omega)
      generalize hWc : w1.setCell ⟨g, 1, none⟩ (.slice (some ad) (s.sent.length + 1) c2) = Wc at *
      have HWC := Aside0.mk hWc
      clear hWc
      clear e32
      have had0 : ad.add 0 = ad := by
        obtain ⟨b_, o_, p_⟩ := ad
        unfold Addr.add
        cases p_ <;> simp
      rw [had0] at hcl3
      go_wp2
      go_region
      go_wp2
      go_meet
      refine ⟨rfl, ⟨wset g ma gs1 mb, ⟨.slice (some { block := ad.block, off := ad.off + 1 }) s.sent.length (c2 - 1), ma, mp, gs1, mb, ?_, ?_, ?_, ?_, HW.out, HNE.out, rfl, sendS_okay HOK.out⟩, HWN.out, ?_⟩⟩
      · rw [blk_put HG5.out 1 _ rfl]
        have := HNM.out
        unfold sendS lcells
        simp only [this]
        rfl
      · have : (sendS s).sent = l0 := by unfold sendS; simp only []; rw [HNN.out, HL0.out, if_pos (by have := HL1.out; simp only [List.length_cons]; omega)]; rfl
        rw [this]
        exact (struct_keeps HG5.out (grown_set (World.grownBy.refl W5 (some g)))).1 _ _ _ HS5.out
      · have : (sendS s).acked = pdel x0 s.acked := by unfold sendS; simp only []; rw [HNN.out, HL0.out, if_pos (by have := HL1.out; simp only [List.length_cons]; omega)]; rfl
        rw [this]
        exact (struct_keeps HG5.out (grown_set (World.grownBy.refl W5 (some g)))).2.1 _ _ HI5.out
      · exact (struct_keeps HG5.out (grown_set (World.grownBy.refl W5 (some g)))).2.2 _ _ _ HP5.out
      · exact HK5.out.then (Keeps.of_grown (grown_set (World.grownBy.refl W5 (some g))) HGW.out)
    · have dk : decide ((64 : Int) < (s.sent.length : Int) + 1) = false := decide_eq_false (by omega)
      go_wp2
      go_meet
      refine ⟨rfl, ⟨wset g ma gs1 mb, ⟨.slice A2 (s.sent.length + 1) c2, ma, mp, gs1, mb, ?_, ?_, ?_, ?_, HW.out, HNE.out, rfl, sendS_okay HOK.out⟩, HWN.out, HKC.out⟩⟩
      · rw [HGC.out]
        unfold sendS
        simp only [HNM.out]
        rfl
      · have : (sendS s).sent = s.sent ++ [n] := by unfold sendS; simp only []; rw [HNN.out, if_neg (by rw [HSZ.out]; omega)]
        rw [this]
        have h2 := HSC.out
        exact h2
      · have : (sendS s).acked = s.acked := by unfold sendS; simp only []; rw [HNN.out, if_neg (by rw [HSZ.out]; omega)]
        rw [this]
        exact HAC.out
      · exact HPC.out
  case rest =>
    obtain ⟨rfl, hs1⟩ := hcut
    obtain ⟨wc_0, hwc0⟩ : ∃ W, W = wc := ⟨_, rfl⟩
    subst hwc0
    obtain ⟨ws', hlm, hwn, hkp⟩ := hs1.out
    have hCc := HC.out wc_0 hkp
    have hTc := HT.out.keeps hkp HZ.out
    obtain ⟨sv', ma', mp', hg'⟩ : ∃ sv' ma' mp', wc_0.heap[g]? = some (.cells (lcells (sendS s) sv' ma' mp') 64 (0, 0)) := by
      obtain ⟨a1, a2, a3, _, _, h, _⟩ := hlm
      exact ⟨a1, a2, a3, h⟩
    obtain ⟨y0, y1, y2, y3, y4, y5, y6, y7, y8, y9⟩ := lcell hg'
    have y3' : wc_0.cell? ⟨g, 3, none⟩ = some (.bool s.any) := y3
    have y4' : wc_0.cell? ⟨g, 4, none⟩ = some (.int .u16 s.last) := y4
    have y5' : wc_0.cell? ⟨g, 5, none⟩ = some (.int .u32 s.bits) := y5
    have hgw : g < wc_0.heap.size := (Array.getElem?_eq_some_iff.1 hg').1
    have hlt := hlm.lt
    have HLM := Aside0.mk hlm; have HWN := Aside0.mk hwn; have HKP := Aside0.mk hkp; have HCC := Aside0.mk hCc; have HTC := Aside0.mk hTc; have HLT := Aside0.mk hlt; have Y3 := Aside0.mk y3'; have Y4 := Aside0.mk y4'; have Y5 := Aside0.mk y5'; have HGW := Aside0.mk hgw
    clear hlm hwn hkp hCc hTc hg' y0 y1 y2 y3 y4 y5 y6 y7 y8 y9 y3' y4' y5' hs1 hlt hgw k0 k1 k2 k3 k4 k5 k6 k7 k8 k9 hfz e1 HX HGR1 P1 P2 P3 P4 PX HG HS HA HP HW HNE HG1 HGS1 HW1 HS1 t1 t2 t3 t4 t5 t6 t7 t8 t9 fz1 HM hgl
    obtain ⟨M, hM⟩ : ∃ M : Int, M = max 1 (((L : Int) + 200 - 1) / 200) := ⟨_, rfl⟩
    have hM2 : M = (manyF b.length : Int) := by rw [hM, ← HLE.out, manyF_int]
    have hMr := manyF_le (L := b.length) (by rw [← HLE.out]; exact hL)
    have hM10 : 1 ≤ M ∧ M ≤ 10 := by rw [hM2]; omega
    have HM2 := Aside0.mk hM2; have HM1 := Aside0.mk hM
    clear hM2 hM hMr
    have hmk : ∀ W : World, (Instr.makeSlice 30 (.int .i64 11) (.int .i64 211)).run Tryd.prog W = .ok (.slice (some ⟨W.heap.size, 0, none⟩) 11 211) (W.alloc (.cells (madeCells #[.int .u8 0] 211) 5)) := by
      intro W
      obtain ⟨i0, hi0, hz0, hsz0, hby⟩ := info_parts infoB
      have h := run_make (P := Tryd.prog) W 30 5 i0 (.int .u8 0) Tryd.underlying30 hi0 hz0 .i64 .i64 11 211 (by omega) (by omega) (by rw [hby]; omega) (by omega)
      rw [hsz0, Nat.mul_one] at h
      exact h
    have HMK := Aside0.mk hmk; clear hmk
    go_upto_region 11 with fail
    rw [← HM1.out]
    go_wp2
    go_loopw [8, 68] (fun v vi wr => ∃ i : Int, vi = .int .i64 i ∧ 0 ≤ i ∧ i ≤ M ∧ Aside0 (∃ T, T.length = i.toNat ∧ DgRows wc_0.heap.size wr v (dgF s n b) T) ∧ Aside0 (Below wc_0.heap.size wc_0 wr)) (fun _ vi _ => (M - intOf vi).toNat)
    case atStart => exact ⟨0, rfl, by omega, by omega, ⟨[], rfl, DgRows.nil _ _ _⟩, ⟨Below.refl _ _⟩⟩
    case round =>
      obtain ⟨i, rfl, hi0, hi1, HR, HB⟩ := hrel
      by_cases hx : i < M
      · have dx : decide (i < M) = true := decide_eq_true hx
        have hmk := HMK.out
        go_upto_region 15 with fail
        obtain ⟨G, hG⟩ : ∃ G, G = wr.heap.size := ⟨_, rfl⟩
        have hrf := made211 wr wr.heap.size (Nat.le_refl _)
        have hba := below_alloc (Below.refl wr.heap.size wr) (.cells (madeCells #[.int .u8 0] 211) 5)
        have hbg := below_step HB.out hba
        generalize hW0 : wr.alloc (.cells (madeCells #[.int .u8 0] 211) 5) = W0 at *
        have y3 := (hbg.cell (p := ⟨g, 3, none⟩) HGW.out).trans Y3.out
        have y4 := (hbg.cell (p := ⟨g, 4, none⟩) HGW.out).trans Y4.out
        have y5 := (hbg.cell (p := ⟨g, 5, none⟩) HGW.out).trans Y5.out
        rw [← hG] at hrf ⊢
        rw [← hG] at hba
        have HRF := Aside0.mk hrf; have HBA := Aside0.mk hba; have HG := Aside0.mk hG; have HW0 := Aside0.mk hW0; have HBG := Aside0.mk hbg
        clear hrf hba hG hW0 hmk hbg
        go_upto_if 75 with fail
        go_cut [11, 12, 68, 75] from 68 to 144 (fun s11 s12 s68 s75 wx => s11 = .slice (some ⟨G, 0, none⟩) 11 211 ∧ s68 = .int .i64 i ∧ Aside0 (RF G wx (.slice (some ⟨G, 0, none⟩) 11 211) (headF s ++ [0, 0, 0, 0]) (List.replicate 200 0)) ∧ Aside0 (Below G wr wx))
        case first =>
          rcases bool2 s.any with ha | ha
          · rw [ha] at y3 ⊢
            have HA := Aside0.mk ha; clear ha
            go_wp2
            go_meet
            refine ⟨rfl, rfl, ⟨?_⟩, HBA⟩
            unfold headF
            rw [HA.out]
            exact HRF.out
          · rw [ha] at y3 ⊢
            have HA := Aside0.mk ha; clear ha
            have z0 : W0.cell? ⟨G, 0, none⟩ = some (.int .u8 0) := (HRF.out.cell 0 (by decide)).1
            have z1 : W0.cell? ⟨G, 1, none⟩ = some (.int .u8 0) := (HRF.out.cell 1 (by decide)).1
            have z2 : W0.cell? ⟨G, 2, none⟩ = some (.int .u8 0) := (HRF.out.cell 2 (by decide)).1
            have f0 := (HRF.out.cell 0 (by decide)).2
            have f1 := (HRF.out.cell 1 (by decide)).2
            have f2 := (HRF.out.cell 2 (by decide)).2
            have hgG : g ≠ G := by rw [HG.out]; have := HGW.out; have := below_size HB.out; omega
            go_wp2
            go_region
            go_wp2
            have hlr := HOK.out.2.1
            have hbr := HOK.out.2.2.1
            have hrf3 := ((HRF.out.put 0 1 (by decide)).put 1 (s.last / 256) (by decide)).put 2 (s.last % 256) (by decide)
            have hbl3 : Below G wr (((W0.setCell ⟨G, 0, none⟩ (.int .u8 1)).setCell ⟨G, 1, none⟩ (.int .u8 (s.last / 256))).setCell ⟨G, 2, none⟩ (.int .u8 (s.last % 256))) := Below.setCell (Below.setCell (Below.setCell HBA.out (Nat.le_refl _) _) (Nat.le_refl _) _) (Nat.le_refl _) _
            rw [show s.last / 256 % 256 = s.last / 256 by omega]
            have HRF3 : Aside0 (RF G (((W0.setCell ⟨G, 0, none⟩ (.int .u8 1)).setCell ⟨G, 1, none⟩ (.int .u8 (s.last / 256))).setCell ⟨G, 2, none⟩ (.int .u8 (s.last % 256))).drew (.slice (some ⟨G, 0, none⟩) 11 211) (hdK s 0) (List.replicate 200 0)) := ⟨hrf3⟩
            have HBL3 : Aside0 (Below G wr (((W0.setCell ⟨G, 0, none⟩ (.int .u8 1)).setCell ⟨G, 1, none⟩ (.int .u8 (s.last / 256))).setCell ⟨G, 2, none⟩ (.int .u8 (s.last % 256))).drew) := ⟨below_drew hbl3⟩
            have Y5' := Y5.out
            have HY5 := Aside0.mk Y5'
            clear hrf3 hbl3 z0 z1 z2 f0 f1 f2 y3 y4 y5 Y5'
            go_loopw [93] (fun vk wy => ∃ k : Int, vk = .int .i64 k ∧ 0 ≤ k ∧ k ≤ 4 ∧ Aside0 (RF G wy (.slice (some ⟨G, 0, none⟩) 11 211) (hdK s k) (List.replicate 200 0)) ∧ Aside0 (Below G wr wy)) (fun vk _ => (4 - intOf vk).toNat)
            case atStart => exact ⟨0, rfl, by omega, by omega, HRF3, HBL3⟩
            case round =>
              clear HRF3 HBL3 HRF HBA
              obtain ⟨k, rfl, hk0, hk4, HRK, HBK⟩ := hrel
              have y5 := (HBK.out.cell (p := ⟨g, 5, none⟩) (by show g < G; rw [HG.out]; have := HGW.out; have := below_size HB.out; omega)).trans ((HB.out.cell (p := ⟨g, 5, none⟩) HGW.out).trans Y5.out)
              by_cases hkx : k < 4
              · have dk : decide (k < 4) = true := decide_eq_true hkx
                have hk4' : k = 0 ∨ k = 1 ∨ k = 2 ∨ k = 3 := by omega
                clear hkx hk4 hk0
                rcases hk4' with rfl | rfl | rfl | rfl
                · have z := (HRK.out.cell 3 (by show 3 < 11; omega)).1
                  change wr.cell? ⟨G, 3, none⟩ = some (.int .u8 0) at z
                  have f := (HRK.out.cell 3 (by show 3 < 11; omega)).2
                  go_wp2
                  have hq := HRK.out.put 3 (s.bits / 16777216) (by omega)
                  rw [hdK_0] at hq
                  exact ⟨⟨1, rfl, by omega, by omega, ⟨hq⟩, ⟨Below.setCell HBK.out (Nat.le_refl _) _⟩⟩, by simp [intOf]⟩
                · have z := (HRK.out.cell 4 (by show 4 < 11; omega)).1
                  change wr.cell? ⟨G, 4, none⟩ = some (.int .u8 0) at z
                  have f := (HRK.out.cell 4 (by show 4 < 11; omega)).2
                  go_wp2
                  have hq := HRK.out.put 4 (s.bits / 65536 % 256) (by omega)
                  rw [hdK_1] at hq
                  exact ⟨⟨2, rfl, by omega, by omega, ⟨hq⟩, ⟨Below.setCell HBK.out (Nat.le_refl _) _⟩⟩, by simp [intOf]⟩
                · have z := (HRK.out.cell 5 (by show 5 < 11; omega)).1
                  change wr.cell? ⟨G, 5, none⟩ = some (.int .u8 0) at z
                  have f := (HRK.out.cell 5 (by show 5 < 11; omega)).2
                  go_wp2
                  have hq := HRK.out.put 5 (s.bits / 256 % 256) (by omega)
                  rw [hdK_2] at hq
                  exact ⟨⟨3, rfl, by omega, by omega, ⟨hq⟩, ⟨Below.setCell HBK.out (Nat.le_refl _) _⟩⟩, by simp [intOf]⟩
                · have z := (HRK.out.cell 6 (by show 6 < 11; omega)).1
                  change wr.cell? ⟨G, 6, none⟩ = some (.int .u8 0) at z
                  have f := (HRK.out.cell 6 (by show 6 < 11; omega)).2
                  go_wp2
                  have hq := HRK.out.put 6 (s.bits % 256) (by omega)
                  rw [hdK_3] at hq
                  exact ⟨⟨4, rfl, by omega, by omega, ⟨hq⟩, ⟨Below.setCell HBK.out (Nat.le_refl _) _⟩⟩, by simp [intOf]⟩
              · have dk : decide (k < 4) = false := decide_eq_false hkx
                have hke : k = 4 := by omega
                subst hke
                clear dk hkx hk0 hk4
                go_wp2
                go_meet
                refine ⟨rfl, rfl, ⟨?_⟩, HBK⟩
                rw [← hdK_end s HA.out]
                exact HRK.out
        case rest =>
          obtain ⟨rfl, rfl, HRX, HBX⟩ := hcut
          clear HRF HBA y3 y4 y5
          obtain ⟨zz7, zz8, zz9, zz10, hdl⟩ := hd_zero s
          have z7 := (HRX.out.cell 7 (by rw [hdl]; omega)).1
          have z8 := (HRX.out.cell 8 (by rw [hdl]; omega)).1
          have z9 := (HRX.out.cell 9 (by rw [hdl]; omega)).1
          have z10 := (HRX.out.cell 10 (by rw [hdl]; omega)).1
          have f7 := (HRX.out.cell 7 (by rw [hdl]; omega)).2
          have f8 := (HRX.out.cell 8 (by rw [hdl]; omega)).2
          have f9 := (HRX.out.cell 9 (by rw [hdl]; omega)).2
          have f10 := (HRX.out.cell 10 (by rw [hdl]; omega)).2
          rw [zz7] at z7; rw [zz8] at z8; rw [zz9] at z9; rw [zz10] at z10
          clear zz7 zz8 zz9 zz10 hdl
          go_upto_region 24 with fail
          have hrf4 := (((HRX.out.put 7 (n / 256) (by omega)).put 8 (n % 256) (by omega)).put 9 i (by omega)).put 10 M (by omega)
          rw [hd_four] at hrf4
          have hbl4 : Below G wr ((((wc.setCell ⟨G, 7, none⟩ (.int .u8 (n / 256))).setCell ⟨G, 8, none⟩ (.int .u8 (n % 256))).setCell ⟨G, 9, none⟩ (.int .u8 i)).setCell ⟨G, 10, none⟩ (.int .u8 M)) := Below.setCell (Below.setCell (Below.setCell (Below.setCell HBX.out (Nat.le_refl _) _) (Nat.le_refl _) _) (Nat.le_refl _) _) (Nat.le_refl _) _
          generalize ((((wc.setCell ⟨G, 7, none⟩ (.int .u8 (n / 256))).setCell ⟨G, 8, none⟩ (.int .u8 (n % 256))).setCell ⟨G, 9, none⟩ (.int .u8 i)).setCell ⟨G, 10, none⟩ (.int .u8 M)) = W4 at hrf4 hbl4 ⊢
          have hb4 := below_step HB.out (by rw [← HG.out]; exact hbl4)
          have hGs : G ≤ W4.heap.size := by rw [HG.out]; exact hbl4.size
          obtain ⟨i0, hi0_, hz0_, hsz0_, hby0_⟩ := info_parts infoB
          obtain ⟨A', hsl, hrd, hlen⟩ := print_mid_int (P := Tryd.prog) (k := .u8) 30 5 Tryd.underlying30 hi0_ hsz0_ A c b (i * 200) (min (L : Int) ((i + 1) * 200)) (by omega) (part_range HM1.out hi0 hx) (by rw [← HLE.out]; omega) (by rw [← HLE.out]; exact hc)
          have hC4 := Kd.C_of_reads (h1 := fun _ => rfl) (hrd W4 (Kd.reads_of_C (h1 := fun _ => rfl) (Kd.C_below HCC.out hb4)))
          have hpe := part_eq b i hi0
          rw [← HLE.out] at hpe hsl
          rw [hpe] at hsl hC4 hlen
          have hpl := part_len b i.toNat
          obtain ⟨PL, hPL⟩ : ∃ PL, PL = (partF b i.toNat).length := ⟨_, rfl⟩
          rw [← hPL] at hsl hlen hpl
          have HRF4 := Aside0.mk hrf4; have HBL4 := Aside0.mk hbl4; have HB4 := Aside0.mk hb4; have HC4 := Aside0.mk hC4; have HPL := Aside0.mk hPL; have HGS := Aside0.mk hGs
          have hraw : headF s ++ [n / 256, n % 256, i, M] ++ partF b i.toNat = rawF s n b i.toNat := by unfold rawF; rw [Int.toNat_of_nonneg hi0, ← HM2.out]
          have hrl := raw_len s n b i.toNat
          rw [← hPL] at hrl
          obtain ⟨NR, hNR⟩ : ∃ NR, NR = (rawF s n b i.toNat).length := ⟨_, rfl⟩
          rw [← hNR] at hrl
          have hNR2 : NR ≤ 211 := by omega
          have HRAW := Aside0.mk hraw; have HNR := Aside0.mk hNR
          clear hraw hNR hrl
          clear hrf4 hbl4 hb4 hC4 hPL hrd hpe hi0_ hz0_ hsz0_ hby0_ hGs HRX HBX z7 z8 z9 z10 f7 f8 f9 f10
          go_wp2_with (first | ((with_reducible refine gate_builtin (b := .append) (xs := #[.tmp 127, .tmp 137]) rfl ?_); at_builtin; refine wp_rf_rows (w0 := wr) G rfl (.tmp 127) (.tmp 137) rfl _ (headF s ++ [n / 256, n % 256, i, M]) _ (partF b i.toNat) _ _ _ rfl rfl HRF4.out (by rw [← HPL.out] at HC4; exact HC4.out) HBL4.out HGS.out (by have := head_len s; simp [this]; omega) ?_; intro v1 w1 sp1 ho hb hg; rw [HRAW.out] at ho; obtain ⟨A5, c5, hv5⟩ := Kd.R_slice ho.R; rw [← HNR.out] at hv5; subst hv5; have HO := Aside0.mk ho; have HBO := Aside0.mk hb; clear ho hb hg) | fail)
          have hbo := HBO.out
          have hcr := (Kd.R_reads' HO.out.R).2.2
          have hb5 := below_step HB.out (by rw [← HG.out]; exact hbo)
          have hT5 := HTC.out.below hb5
          have hf := Frame_callsF A5 c5 (rawF s n b i.toNat) w1 hcr (by rw [← HNR.out]; omega) hT5
          rw [← HNR.out] at hf
          (with_reducible refine hf.mono ?_)
          rintro e_ W5 ⟨v5, rfl, ho5, hb6⟩
          obtain ⟨A6, c6, hv6⟩ := Kd.R_slice ho5.R
          obtain ⟨N6, hN6⟩ : ∃ N, N = (frameF (rawF s n b i.toNat)).length := ⟨_, rfl⟩
          rw [← hN6] at hv6
          subst hv6
          have hb7 := below_step hb5 hb6
          have h8 : Below wr.heap.size wr W5 := below_step (by rw [← HG.out]; exact hbo) hb6
          obtain ⟨T, hTl, hD⟩ := HR.out
          obtain ⟨X6, hX6⟩ : ∃ X : World, X = W5.alloc (.cells #[triV (A6, N6, c6)] 30) := ⟨_, rfl⟩
          have hb9 : Below wc_0.heap.size wc_0 X6 := by rw [hX6]; exact below_alloc hb7 _
          have hD6 : DgRows wc_0.heap.size X6 u8 (dgF s n b) T := by rw [hX6]; exact hD.below (below_alloc h8 _)
          have hx6 : RS G X6 (triV (A6, N6, c6)) (dgF s n b T.length) := by
            rw [hX6, hTl]
            exact (ho5.below (below_alloc (Below.refl _ _) _)).lower (by rw [HG.out]; exact hbo.size)
          have hC6 : Kd.C KSl X6 (some ⟨W5.heap.size, 0, none⟩) 1 [(A6, N6, c6)] := by rw [hX6]; exact C_tri W5 (A6, N6, c6) _
          have hlt6 : ∀ t ∈ T, ∀ a, (triV t).ownBlock = some a → a < G := by
            intro t ht a ha
            obtain ⟨k, hk⟩ := List.mem_iff_getElem?.1 ht
            rw [HG.out]
            exact ((hD.2.1 k t hk).own a ha).2
          have hvl6 : ∀ a, u8.ownBlock = some a → a < G := by rw [HG.out]; exact tri_lt hD.1
          have hBG : wc_0.heap.size ≤ G := by rw [HG.out]; exact below_size HB.out
          have hTl10 : T.length ≤ 10 := by rw [hTl]; omega
          have HD6 := Aside0.mk hD6; have HX6 := Aside0.mk hx6; have HC6 := Aside0.mk hC6; have HLT6 := Aside0.mk hlt6; have HVL6 := Aside0.mk hvl6; have HBG6 := Aside0.mk hBG; have HX6E := Aside0.mk hX6; have HB9 := Aside0.mk hb9; have HTL := Aside0.mk hTl; have HTL10 := Aside0.mk hTl10; have H8 := Aside0.mk h8
          clear hD hD6 hx6 hC6 hlt6 hvl6 hBG hX6 hb9 hTl hTl10 h8 hb7 hb6 hb5 ho5 hN6 hT5 hcr hbo
          go_wp2_with (first | ((with_reducible refine gate_builtin (b := .append) (xs := #[.tmp 139, .tmp 142]) rfl ?_); at_builtin; rw [show W5.alloc (.cells #[.slice A6 N6 c6] 30) = X6 from HX6E.out.symm]; refine Kd.R_append_rows KSl (w0 := wc_0) wc_0.heap.size rfl (.tmp 139) (.tmp 142) 24 30 (.slice none 0 0) 24 rfl Tryd.underlying24 infoSl rfl (by decide) (by omega) _ T [(A6, N6, c6)] _ _ _ (fun _ => True) (fun _ => False) rfl rfl HD6.out.1 HC6.out (fun _ _ h => h) (fun _ h => h.elim) (fun _ _ => trivial) HB9.out (below_size HB9.out) (by have := HTL10.out; omega) ?_; intro v7 w7 ho7 hb7 hg7 hat7; have hp := HD6.out.push HLT6.out HX6.out HBG6.out ho7 hg7 hat7 HVL6.out; have HP7 := Aside0.mk hp; have HB7 := Aside0.mk hb7; clear hp ho7 hb7 hg7 hat7) | fail)
          refine ⟨⟨i + 1, rfl, by omega, by omega, ⟨T ++ [(A6, N6, c6)], ?_, HP7.out⟩, HB7⟩, by simp only [intOf]; omega⟩
          have := HTL.out
          rw [List.length_append, this]
          show i.toNat + 1 = _
          omega
      · have dx : decide (i < M) = false := decide_eq_false hx
        have hiM : i = M := by omega
        have HI := Aside0.mk hiM; clear hiM
        go_wp2
        go_ret3
        obtain ⟨T, hTl, hT⟩ := HR.out
        refine ⟨u8, T, ws', wc_0.heap.size, ?_, ?_, HKP.out.2.2.2.1, HLT.out, ?_, HLM.out.below HB.out, HWN.out, HKP.out.trans (Keeps.of_below HB.out ws) ?_⟩
        · rw [HNN.out]; rfl
        · rw [hTl, HI.out, HM2.out]; rfl
        · rw [HNN.out]; exact hT
        · intro k hk
          exact .inl hk
end Go.Proofs.YtbdocgddidcfeaaDoor
