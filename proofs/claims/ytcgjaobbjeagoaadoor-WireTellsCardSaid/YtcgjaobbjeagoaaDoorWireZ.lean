/- WireWrites. Printed by gen_z.py. -/
import Derived.Test.YtcgjaobbjeagoaaDoorWireY
import Derived.Test.YtcgjaobbjeagoaaDoorWireS
import Derived.Test.YtcgjaobbjeagoaaDoorWireL
namespace Go.Proofs.YtcgjaobbjeagoaaDoor
open Go.RowKit Go.Proofs.YtcgjaobbjeagoaaDoorW.PrintWords Go.Proofs.YtcgjaobbjeagoaaDoorW.PrintLast Go.Proofs.YtcgjaobbjeagoaaDoorW.PrintMore
set_option linter.unusedVariables false
set_option linter.unusedSimpArgs false

set_option maxHeartbeats 4000000 in
set_option maxRecDepth 100000 in
theorem Kept_callsG (g : Nat) (A1 : Option Addr) (c1 : Nat) (l0 : List Int) (w0 w : World) (hg : w0.heap.size ≤ g) (hB : Below w0.heap.size w0 w)
    (hbk : w.heap[g]? = some (.cells (spareC l0 3) 5 (0, 0))) (hr : Kd.C (Kd.int .u8) w0 A1 l0.length l0) (hl : l0.length ≤ 140737488355318) :
    Calls Tryd.prog 19 #[.slice (some ⟨g, 0, none⟩) l0.length (l0.length + 3), .slice A1 l0.length c1] w
      fun e w' => e = .returned (.bool true) ∧ Below w0.heap.size w0 w' ∧ w.grownBy w' (some g) := by
  have HGR := Aside0.mk (World.grownBy.refl w (some g))
  have HR := Aside0.mk hr; have HB := Aside0.mk hB; have BK := Aside0.mk hbk; have HG := Aside0.mk hg
  clear hr hB hbk hg
  obtain ⟨n, hn⟩ : ∃ n, n = l0.length := ⟨_, rfl⟩
  rw [← hn] at hl ⊢
  have HN := Aside0.mk hn; clear hn
  have d1 : decide ((n : Int) + 3 ≤ ((n + 3 : Nat) : Int)) = true := decide_eq_true (by omega)
  go_enter Tryd.func19, Tryd.ntmps19
  go_wp2
  go_loopw [7] (fun v wr => ∃ i : Int, v = .int .i64 i ∧ 0 ≤ i ∧ i ≤ (n : Int) + 3 ∧ Aside0 (∃ cs, wr.heap[g]? = some (.cells cs 5 (0, 0)) ∧ ∀ j : Nat, i ≤ (j : Int) → cs[j]? = (spareC l0 3)[j]?) ∧ Aside0 (Below w0.heap.size w0 wr) ∧ Aside0 (w.grownBy wr (some g))) (fun v _ => ((n : Int) + 3 - intOf v).toNat)
  case atStart => exact ⟨0, rfl, by omega, by omega, ⟨_, BK.out, fun j _ => rfl⟩, HB, HGR⟩
  case round =>
    clear HB BK HGR
    obtain ⟨i, rfl, hi0, hi1, BK, HB, HGR⟩ := hrel
    by_cases hx : i < (n : Int) + 3
    · have dx : decide (i < (n : Int) + 3) = true := decide_eq_true hx
      obtain ⟨cs, hcs, hrest⟩ := BK.out
      by_cases hin : i < (n : Int)
      · have dn : decide (i < (n : Int)) = true := decide_eq_true hin
        have dn2 : decide ((n : Int) ≤ i) = false := decide_eq_false (by omega)
        obtain ⟨x, hxx⟩ : ∃ x, x = rd l0 i := ⟨_, rfl⟩
        have hcl : wr.cell? ⟨g, i.toNat, none⟩ = some (.int .u8 x) := by
          rw [blk_cell hcs, hrest _ (by omega), spare3_lo l0 i.toNat (by have := HN.out; omega), Int.toNat_of_nonneg hi0, hxx]
        have hfr := blk_frozen hcs i.toNat
        have hrc := Kd.C_below HR.out HB.out
        rw [← HN.out] at hrc
        obtain ⟨ad, e, hcell⟩ := Kd.at_int hrc i hi0 hin
        cases e
        rw [← hxx] at hcell
        have hcs2 := Aside0.mk hcs; have hrest2 := Aside0.mk hrest
        clear hcs hrest BK hrc hxx
        go_wp2
        go_quiet (fail)
        go_wp2
        exact ⟨⟨i + 1, rfl, by omega, by omega, ⟨_, blk_put (w := wr.drewN nq) hcs2.out i.toNat _ rfl, fun j hj => by rw [Array.getElem?_setIfInBounds_ne (by omega)]; exact hrest2.out j (by omega)⟩, ⟨Below.setCell (pw_below_drewN HB.out nq) HG.out _⟩, ⟨grown_set (grown_drewN HGR.out nq)⟩⟩, by simp only [intOf]; omega⟩
      · have dn : decide (i < (n : Int)) = false := decide_eq_false hin
        have dn2 : decide ((n : Int) ≤ i) = true := decide_eq_true (by omega)
        have hcl : wr.cell? ⟨g, i.toNat, none⟩ = some (.int .u8 77) := by
          rw [blk_cell hcs, hrest _ (by omega), spare3_hi l0 i.toNat (by have := HN.out; omega) (by have := HN.out; omega)]
        have hfr := blk_frozen hcs i.toNat
        have hcs2 := Aside0.mk hcs; have hrest2 := Aside0.mk hrest
        clear hcs hrest BK
        go_wp2
        go_quiet (fail)
        go_wp2
        exact ⟨⟨i + 1, rfl, by omega, by omega, ⟨_, blk_put (w := wr.drewN nq) hcs2.out i.toNat _ rfl, fun j hj => by rw [Array.getElem?_setIfInBounds_ne (by omega)]; exact hrest2.out j (by omega)⟩, ⟨Below.setCell (pw_below_drewN HB.out nq) HG.out _⟩, ⟨grown_set (grown_drewN HGR.out nq)⟩⟩, by simp only [intOf]; omega⟩
    · have dx : decide (i < (n : Int) + 3) = false := decide_eq_false hx
      go_wp2
      go_ret
      exact ⟨rfl, HB.out, HGR.out⟩

theorem RF.lt {base : Nat} {w : World} {v : Value} {xs sp : List Int} (h : RF base w v xs sp) (b : Nat) (hb : v.ownBlock = some b) : b < w.heap.size := by
  rcases h with ⟨rfl, _⟩ | ⟨g, rfl, h2, h3, _⟩
  · cases hb
  · injection hb with hb; subst hb; exact (Array.getElem?_eq_some_iff.1 h3).1
theorem RS.own {base : Nat} {w : World} {v : Value} {xs : List Int} (h : RS base w v xs) (b : Nat) (hb : v.ownBlock = some b) : base ≤ b ∧ b < w.heap.size := by
  obtain ⟨sp, h⟩ := h
  exact ⟨h.base b hb, h.lt b hb⟩
theorem RS.R {base : Nat} {w : World} {v : Value} {xs : List Int} (h : RS base w v xs) : Kd.R (Kd.int .u8) 5 w base (fun _ => True) v xs := by
  obtain ⟨sp, h⟩ := h
  exact h.R
theorem RS.move {base : Nat} {w w1 : World} {v : Value} {xs : List Int} (h : RS base w v xs) (hm : ∀ b, v.ownBlock = some b → b < w.heap.size → w1.heap[b]? = w.heap[b]?) : RS base w1 v xs := by
  obtain ⟨sp, h⟩ := h
  exact ⟨sp, h.move hm⟩
/-- Five own rows, each behind the last. -/
theorem five_owned (w W : World) (V0 V1 V2 V3 V4 : Value) (L0 L1 L2 L3 L4 : List Int) (b0 b1 b2 b3 b4 e0 e1 e2 e3 : Nat) (base : Nat)
    (h0 : RS b0 W V0 L0) (h1 : RS b1 W V1 L1) (h2 : RS b2 W V2 L2) (h3 : RS b3 W V3 L3) (h4 : RS b4 W V4 L4)
    (u0 : ∀ b, V0.ownBlock = some b → b < b1) (u1 : ∀ b, V1.ownBlock = some b → b < b2) (u2 : ∀ b, V2.ownBlock = some b → b < b3) (u3 : ∀ b, V3.ownBlock = some b → b < b4)
    (o01 : b0 ≤ b1) (o12 : b1 ≤ b2) (o23 : b2 ≤ b3) (o34 : b3 ≤ b4)
    (r0 : ∀ x ∈ L0, 0 ≤ x ∧ x < 256) (r1 : ∀ x ∈ L1, 0 ≤ x ∧ x < 256) (r2 : ∀ x ∈ L2, 0 ≤ x ∧ x < 256) (r3 : ∀ x ∈ L3, 0 ≤ x ∧ x < 256) (r4 : ∀ x ∈ L4, 0 ≤ x ∧ x < 256) :
    Calls Tryd.prog 25 #[.slice (some ⟨W.heap.size, 0, none⟩) 5 5] (W.alloc (.cells #[V0, V1, V2, V3, V4] 23)) fun e w' => e = .returned (.bool true) ∧ Below W.heap.size W w' := by
  obtain ⟨s0, h0⟩ := h0; obtain ⟨s1, h1⟩ := h1; obtain ⟨s2, h2⟩ := h2; obtain ⟨s3, h3⟩ := h3; obtain ⟨s4, h4⟩ := h4
  have ba := below_alloc (Below.refl W.heap.size W) (.cells #[V0, V1, V2, V3, V4] 23)
  have five : ∀ (p : Nat → Prop), p 0 → p 1 → p 2 → p 3 → p 4 → ∀ k, k < 5 → p k := by
    intro p a0 a1 a2 a3 a4 k hk
    have : k = 0 ∨ k = 1 ∨ k = 2 ∨ k = 3 ∨ k = 4 := by omega
    rcases this with rfl | rfl | rfl | rfl | rfl <;> assumption
  have hcl : ∀ k : Nat, (W.alloc (.cells #[V0, V1, V2, V3, V4] 23)).cell? ⟨W.heap.size, k, none⟩ = #[V0, V1, V2, V3, V4][k]? := fun k => blk_cell (MapKept.heap_alloc W _).1 k
  refine (Owned_calls W.heap.size 5 (fun k => #[V0, V1, V2, V3, V4].getD k undef) (fun k => #[L0, L1, L2, L3, L4].getD k []) (fun k => #[s0, s1, s2, s3, s4].getD k []) _ 0 (by omega) (by omega) ?_ ?_ ?_ ?_ ?_).mono ?_
  · exact five _ (hcl 0) (hcl 1) (hcl 2) (hcl 3) (hcl 4)
  · exact five _ ((h0.below ba).lower (Nat.zero_le _)) ((h1.below ba).lower (Nat.zero_le _)) ((h2.below ba).lower (Nat.zero_le _)) ((h3.below ba).lower (Nat.zero_le _)) ((h4.below ba).lower (Nat.zero_le _))
  · exact five _ r0 r1 r2 r3 r4
  · have key : ∀ (U V : Value), (∀ b, U.ownBlock = some b → V.ownBlock ≠ some b) → U.ownBlock = none ∨ U.ownBlock ≠ V.ownBlock := by
      intro U V h
      cases hu : U.ownBlock with
      | none => exact .inl rfl
      | some b => exact .inr (fun e => h b hu e.symm)
    have hlo : ∀ k, k < 5 → ∀ b, Value.ownBlock (#[V0, V1, V2, V3, V4].getD k undef) = some b → #[b0, b1, b2, b3, b4].getD k 0 ≤ b ∧ b < #[b1, b2, b3, b4, W.heap.size].getD k 0 :=
      five _ (fun b hb => ⟨h0.base b hb, u0 b hb⟩) (fun b hb => ⟨h1.base b hb, u1 b hb⟩) (fun b hb => ⟨h2.base b hb, u2 b hb⟩) (fun b hb => ⟨h3.base b hb, u3 b hb⟩) (fun b hb => ⟨h4.base b hb, h4.lt b hb⟩)
    have hst : ∀ i, i < 5 → ∀ j, j < 5 → i < j → #[b1, b2, b3, b4, W.heap.size].getD i 0 ≤ #[b0, b1, b2, b3, b4].getD j 0 := by
      intro i hi j hj hij
      have e1 : i = 0 ∨ i = 1 ∨ i = 2 ∨ i = 3 := by omega
      have e2 : j = 1 ∨ j = 2 ∨ j = 3 ∨ j = 4 := by omega
      rcases e1 with rfl | rfl | rfl | rfl <;> rcases e2 with rfl | rfl | rfl | rfl <;> simp at hij ⊢ <;> omega
    intro i j hi hj hne
    refine key _ _ (fun b hb hc => ?_)
    have p := hlo i hi b hb
    have q := hlo j hj b hc
    rcases Nat.lt_or_ge i j with h | h
    · have := hst i hi j hj h; omega
    · have := hst j hj i hi (by omega); omega
  · have lt : ∀ {base : Nat} {v : Value} {xs sp : List Int}, RF base W v xs sp → v.ownBlock ≠ some W.heap.size := fun h e => Nat.lt_irrefl _ (h.lt _ e)
    exact five _ (lt h0) (lt h1) (lt h2) (lt h3) (lt h4)
  · rintro e w' ⟨rfl, hb⟩
    exact ⟨rfl, below_step ba hb⟩

theorem numF_range (l : List Int) (n : Int) (h : ∀ x ∈ l, 0 ≤ x ∧ x < 256) : ∀ x ∈ (numF l n).1, 0 ≤ x ∧ x < 256 := by
  unfold numF
  split
  · simp
  · exact app_range h (venc_range _ _ (Nat.lt_succ_self _))
theorem textF_range (l : List Int) (t : ByteArray) (h : ∀ x ∈ l, 0 ≤ x ∧ x < 256) : ∀ x ∈ (textF l t).1, 0 ≤ x ∧ x < 256 := by
  unfold textF
  split
  · simp
  · exact app_range (app_range h (venc_range _ _ (Nat.lt_succ_self _))) (bytes_range _)
theorem opF_range (l : List Int) (h : ∀ x ∈ l, 0 ≤ x ∧ x < 256) : ∀ x ∈ (opF l).1, 0 ≤ x ∧ x < 256 := by
  unfold opF
  split
  · simp
  · split
    · exact fun x hx => h x (List.mem_of_mem_take hx)
    · simp

set_option maxHeartbeats 8000000 in
set_option maxRecDepth 100000 in
theorem WireWrites_calls (A0 : Option Addr) (c0 : Nat) (l0 : List Int) (k : Int) (t : ByteArray) (w : World) (hT : Tab w)
    (hr0 : Kd.C (Kd.int .u8) w A0 l0.length l0) (hc0 : l0.length ≤ c0) (hb : ∀ x ∈ l0, 0 ≤ x ∧ x < 256) (hl : l0.length ≤ 140737488351232)
    (hk1 : -9223372036854775808 ≤ k) (hk2 : k ≤ 9223372036854775807) (ht : t.size ≤ 9223372036854775807) :
    Calls Tryd.prog 8 #[.slice A0 l0.length c0, .int .i64 k, .string t] w fun e w' => e = .returned (.bool true) ∧ Below w.heap.size w w' := by
  have HT := Aside0.mk hT; have HR := Aside0.mk hr0
  clear hT hr0
  have hN := fun A c W (h : Kd.C (Kd.int .u8) W A l0.length l0) => Num_callsF A c l0 k W h (by omega) hk1 hk2
  have hI := fun A c W (h : Kd.C (Kd.int .u8) W A l0.length l0) => Int_callsF A c l0 k W h (by omega) hk1 hk2
  have hS := fun A c W (h : Kd.C (Kd.int .u8) W A l0.length l0) => Text_callsF A c l0 t W h hl ht
  have hF := fun A c W (h : Kd.C (Kd.int .u8) W A l0.length l0) (hT : Tab W) => Frame_callsF A c l0 W h (by omega) hT
  have hO := fun A c W (h : Kd.C (Kd.int .u8) W A l0.length l0) (hc : l0.length ≤ c) (hT : Tab W) => Open_callsF A c l0 W h hc (by omega) hT
  have hM := fun A c W (h : Kd.C (Kd.int .u8) W A l0.length l0) (hT : Tab W) => Sum_calls A c l0 W h (by omega) hT
  have rN := fun A c W (h : Kd.C (Kd.int .u8) W A l0.length l0) => rNum_callsF A c l0 k W h (by omega) hk1 hk2
  have rI := fun A c W (h : Kd.C (Kd.int .u8) W A l0.length l0) => rInt_callsF A c l0 k W h (by omega) hk1 hk2
  have rS := fun A c W (h : Kd.C (Kd.int .u8) W A l0.length l0) => rText_callsF A c l0 t W h hl ht
  have rF := fun A c W (h : Kd.C (Kd.int .u8) W A l0.length l0) => rFrame_callsF A c l0.length l0 W rfl h (by omega)
  have rO := fun A c W (h : Kd.C (Kd.int .u8) W A l0.length l0) (hc : l0.length ≤ c) => rOpen_callsF A c l0 W h hc hb (by omega)
  have rM := fun A c W (h : Kd.C (Kd.int .u8) W A l0.length l0) => rSum_calls A c l0 W h (by omega)
  have g1 := numF_range l0 k hb
  have g2 := app_range hb (venc_range _ (zz k).toNat (Nat.lt_succ_self _))
  have g3 := textF_range l0 t hb
  have g4 := frameF_range l0 hb
  have g5 := opF_range l0 hb
  generalize numF l0 k = nf at hN rN g1
  generalize l0 ++ venc (zz k).toNat = iz at hI rI g2
  generalize textF l0 t = tf at hS rS g3
  generalize frameF l0 = fr at hF rF g4
  generalize opF l0 = op at hO rO g5
  generalize sumF l0 = sm at hM rM
  have HX := Aside0.mk hb
  have G1 := Aside0.mk g1; have G2 := Aside0.mk g2; have G3 := Aside0.mk g3; have G4 := Aside0.mk g4; have G5 := Aside0.mk g5
  clear hb g1 g2 g3 g4 g5
  go_enter Tryd.func8, Tryd.ntmps8
  go_wp2_with fail
  ((with_reducible refine (awake_calls _ HT.out).mono ?_); rintro e_ W1 ⟨rfl, hb_⟩)
  have HB := Aside0.mk hb_; clear hb_
  go_wp2_with fail
  ((with_reducible refine (Lent_calls A0 c0 l0 _ (Kd.C_below HR.out HB.out) (by omega)).mono ?_); rintro e_ W2 ⟨g, rfl, hg_, bk_, hb_⟩)
  have HG := Aside0.mk (Nat.le_trans (below_size HB.out) hg_)
  have HBn := Aside0.mk (below_step HB.out hb_); clear HB hb_ hg_; have HB := HBn; clear HBn
  have BK : Aside0 (W2.heap[g]? = some (.cells (spareC l0 3) 5 (0, 0))) := ⟨bk_⟩
  clear bk_
  have HC := Aside0.mk (lent_reads (by omega) BK.out)
  have B2 : Aside0 (Below W2.heap.size W2 W2) := ⟨Below.refl _ _⟩
  go_wp2_with fail
  ((with_reducible refine (hN _ _ _ (Kd.C_below HC.out B2.out)).mono ?_); rintro e_ W3 ⟨v0, rfl, ho_, hb_⟩)
  have B3 := Aside0.mk (below_step B2.out hb_)
  have HBn := Aside0.mk (below_step HB.out hb_); clear HB; have HB := HBn; clear HBn
  have z3 := Aside0.mk hb_.size
  obtain ⟨Ax, cx, ex⟩ := Kd.R_slice (RS.R ho_)
  subst ex
  have Hx := Aside0.mk ho_; have Ux := Aside0.mk (fun b hb => (RS.own ho_ b hb).2); clear ho_
  clear hb_
  go_wp2_with fail
  ((with_reducible refine (hI _ _ _ (Kd.C_below HC.out B3.out)).mono ?_); rintro e_ W4 ⟨v0, rfl, ho_, hb_⟩)
  have B4 := Aside0.mk (below_step B3.out hb_)
  have HBn := Aside0.mk (below_step HB.out hb_); clear HB; have HB := HBn; clear HBn
  have z4 := Aside0.mk hb_.size
  have n_ := Aside0.mk (Hx.out.below hb_); clear Hx; have Hx := n_; clear n_
  obtain ⟨Ay, cy, ey⟩ := Kd.R_slice (RS.R ho_)
  subst ey
  have Hy := Aside0.mk ho_; have Uy := Aside0.mk (fun b hb => (RS.own ho_ b hb).2); clear ho_
  clear hb_
  go_wp2_with fail
  ((with_reducible refine (hS _ _ _ (Kd.C_below HC.out B4.out)).mono ?_); rintro e_ W5 ⟨v0, rfl, ho_, hb_⟩)
  have B5 := Aside0.mk (below_step B4.out hb_)
  have HBn := Aside0.mk (below_step HB.out hb_); clear HB; have HB := HBn; clear HBn
  have z5 := Aside0.mk hb_.size
  have n_ := Aside0.mk (Hx.out.below hb_); clear Hx; have Hx := n_; clear n_
  have n_ := Aside0.mk (Hy.out.below hb_); clear Hy; have Hy := n_; clear n_
  obtain ⟨Az, cz, ez⟩ := Kd.R_slice (RS.R ho_)
  subst ez
  have Hz := Aside0.mk ho_; have Uz := Aside0.mk (fun b hb => (RS.own ho_ b hb).2); clear ho_
  clear hb_
  go_wp2_with fail
  ((with_reducible refine (hF _ _ _ (Kd.C_below HC.out B5.out) (HT.out.below HB.out)).mono ?_); rintro e_ W6 ⟨v0, rfl, ho_, hb_⟩)
  have B6 := Aside0.mk (below_step B5.out hb_)
  have HBn := Aside0.mk (below_step HB.out hb_); clear HB; have HB := HBn; clear HBn
  have z6 := Aside0.mk hb_.size
  have n_ := Aside0.mk (Hx.out.below hb_); clear Hx; have Hx := n_; clear n_
  have n_ := Aside0.mk (Hy.out.below hb_); clear Hy; have Hy := n_; clear n_
  have n_ := Aside0.mk (Hz.out.below hb_); clear Hz; have Hz := n_; clear n_
  obtain ⟨Au, cu, eu⟩ := Kd.R_slice (RS.R ho_)
  subst eu
  have Hu := Aside0.mk ho_; have Uu := Aside0.mk (fun b hb => (RS.own ho_ b hb).2); clear ho_
  clear hb_
  go_wp2_with fail
  ((with_reducible refine (hO _ _ _ (Kd.C_below HC.out B6.out) (by omega) (HT.out.below HB.out)).mono ?_); rintro e_ W7 ⟨v0, rfl, ho_, hb_⟩)
  have B7 := Aside0.mk (below_step B6.out hb_)
  have HBn := Aside0.mk (below_step HB.out hb_); clear HB; have HB := HBn; clear HBn
  have n_ := Aside0.mk (Hx.out.below hb_); clear Hx; have Hx := n_; clear n_
  have n_ := Aside0.mk (Hy.out.below hb_); clear Hy; have Hy := n_; clear n_
  have n_ := Aside0.mk (Hz.out.below hb_); clear Hz; have Hz := n_; clear n_
  have n_ := Aside0.mk (Hu.out.below hb_); clear Hu; have Hu := n_; clear n_
  obtain ⟨Av, cv, ev⟩ := Kd.R_slice (RS.R ho_)
  subst ev
  have Hv := Aside0.mk ho_; have Uv := Aside0.mk (fun b hb => (RS.own ho_ b hb).2); clear ho_
  clear hb_
  clear hN hI hS hF hO
  go_wp2_with fail
  ((with_reducible refine (hM _ _ _ (Kd.C_below HC.out B7.out) (HT.out.below HB.out)).mono ?_); rintro e_ W7b ⟨rfl, rfl⟩)
  clear hM
  go_wp2_with fail
  have s22 := Aside0.mk (Nat.le_refl W2.heap.size); have s23 := Aside0.mk (Nat.le_trans s22.out z3.out); have s24 := Aside0.mk (Nat.le_trans s23.out z4.out); have s25 := Aside0.mk (Nat.le_trans s24.out z5.out); have s26 := Aside0.mk (Nat.le_trans s25.out z6.out)
  ((with_reducible refine (five_owned w W7b _ _ _ _ _ _ _ _ _ _ _ _ _ _ _ 0 0 0 0 0 Hx.out Hy.out Hz.out Hu.out Hv.out Ux.out Uy.out Uz.out Uu.out z3.out z4.out z5.out z6.out G1.out G2.out G3.out G4.out G5.out).mono ?_); rintro e_ W8 ⟨rfl, hb_⟩)
  have B8 := Aside0.mk (below_step B7.out hb_)
  have HBn := Aside0.mk (below_step HB.out hb_); clear HB; have HB := HBn; clear HBn
  have n_ := Aside0.mk (Hx.out.below hb_); clear Hx; have Hx := n_; clear n_
  have n_ := Aside0.mk (Hy.out.below hb_); clear Hy; have Hy := n_; clear n_
  have n_ := Aside0.mk (Hz.out.below hb_); clear Hz; have Hz := n_; clear n_
  have n_ := Aside0.mk (Hu.out.below hb_); clear Hu; have Hu := n_; clear n_
  have n_ := Aside0.mk (Hv.out.below hb_); clear Hv; have Hv := n_; clear n_
  have BK8 : Aside0 (W8.heap[g]? = some (.cells (spareC l0 3) 5 (0, 0))) := ⟨by rw [B8.out.block g (Array.getElem?_eq_some_iff.1 BK.out).1]; exact BK.out⟩
  have HGL : Aside0 (g < W2.heap.size) := ⟨(Array.getElem?_eq_some_iff.1 BK.out).1⟩
  clear hb_
  go_wp2_with fail
  ((with_reducible refine (Kept_callsG g A0 c0 l0 w _ HG.out HB.out BK8.out HR.out (by omega)).mono ?_); rintro e_ W9 ⟨rfl, hb_, hgr_⟩)
  have HGR := Aside0.mk hgr_; clear HB; have HB := Aside0.mk hb_; clear hb_ hgr_
  have n_ := Aside0.mk (Hx.out.move (w1 := W9) (fun b hb hlt => HGR.out.block b hlt (fun e => by injection e with e; have h1 := (Hx.out.own b hb).1; have h2 := HGL.out; have h3 := s22.out; omega))); clear Hx; have Hx := n_; clear n_
  have n_ := Aside0.mk (Hy.out.move (w1 := W9) (fun b hb hlt => HGR.out.block b hlt (fun e => by injection e with e; have h1 := (Hy.out.own b hb).1; have h2 := HGL.out; have h3 := s23.out; omega))); clear Hy; have Hy := n_; clear n_
  have n_ := Aside0.mk (Hz.out.move (w1 := W9) (fun b hb hlt => HGR.out.block b hlt (fun e => by injection e with e; have h1 := (Hz.out.own b hb).1; have h2 := HGL.out; have h3 := s24.out; omega))); clear Hz; have Hz := n_; clear n_
  have n_ := Aside0.mk (Hu.out.move (w1 := W9) (fun b hb hlt => HGR.out.block b hlt (fun e => by injection e with e; have h1 := (Hu.out.own b hb).1; have h2 := HGL.out; have h3 := s25.out; omega))); clear Hu; have Hu := n_; clear n_
  have n_ := Aside0.mk (Hv.out.move (w1 := W9) (fun b hb hlt => HGR.out.block b hlt (fun e => by injection e with e; have h1 := (Hv.out.own b hb).1; have h2 := HGL.out; have h3 := s26.out; omega))); clear Hv; have Hv := n_; clear n_
  clear BK8 BK HC B2 B3 B4 B5 B6 B7 B8 HGR HT Ux Uy Uz Uu Uv
  have B9 : Aside0 (Below W9.heap.size W9 W9) := ⟨Below.refl _ _⟩
  go_wp2_with fail
  ((with_reducible refine (rN _ _ _ (Kd.C_below HR.out HB.out)).mono ?_); rintro e_ W10 ⟨v0, rfl, ho_, hb_⟩)
  have B10 := Aside0.mk (below_step B9.out hb_)
  have HBn := Aside0.mk (below_step HB.out hb_); clear HB; have HB := HBn; clear HBn
  have n_ := Aside0.mk (Hx.out.below hb_); clear Hx; have Hx := n_; clear n_
  have n_ := Aside0.mk (Hy.out.below hb_); clear Hy; have Hy := n_; clear n_
  have n_ := Aside0.mk (Hz.out.below hb_); clear Hz; have Hz := n_; clear n_
  have n_ := Aside0.mk (Hu.out.below hb_); clear Hu; have Hu := n_; clear n_
  have n_ := Aside0.mk (Hv.out.below hb_); clear Hv; have Hv := n_; clear n_
  obtain ⟨Aa, ca, ea⟩ := Kd.R_slice (RS.R ho_)
  subst ea
  have Ha := Aside0.mk ho_; have Ua := Aside0.mk (fun b hb => (RS.own ho_ b hb).2); clear ho_
  clear hb_
  go_wp2_with fail
  ((with_reducible refine (rS _ _ _ (Kd.C_below HR.out HB.out)).mono ?_); rintro e_ W11 ⟨v0, rfl, ho_, hb_⟩)
  have B11 := Aside0.mk (below_step B10.out hb_)
  have HBn := Aside0.mk (below_step HB.out hb_); clear HB; have HB := HBn; clear HBn
  have n_ := Aside0.mk (Hx.out.below hb_); clear Hx; have Hx := n_; clear n_
  have n_ := Aside0.mk (Hy.out.below hb_); clear Hy; have Hy := n_; clear n_
  have n_ := Aside0.mk (Hz.out.below hb_); clear Hz; have Hz := n_; clear n_
  have n_ := Aside0.mk (Hu.out.below hb_); clear Hu; have Hu := n_; clear n_
  have n_ := Aside0.mk (Hv.out.below hb_); clear Hv; have Hv := n_; clear n_
  have n_ := Aside0.mk (Ha.out.below hb_); clear Ha; have Ha := n_; clear n_
  obtain ⟨Ac, cc, ec⟩ := Kd.R_slice (RS.R ho_)
  subst ec
  have Hc := Aside0.mk ho_; have Uc := Aside0.mk (fun b hb => (RS.own ho_ b hb).2); clear ho_
  clear hb_
  go_wp2_with fail
  ((with_reducible refine (rO _ _ _ (Kd.C_below HR.out HB.out) hc0).mono ?_); rintro e_ W12 ⟨v0, rfl, ho_, hb_⟩)
  have B12 := Aside0.mk (below_step B11.out hb_)
  have HBn := Aside0.mk (below_step HB.out hb_); clear HB; have HB := HBn; clear HBn
  have n_ := Aside0.mk (Hx.out.below hb_); clear Hx; have Hx := n_; clear n_
  have n_ := Aside0.mk (Hy.out.below hb_); clear Hy; have Hy := n_; clear n_
  have n_ := Aside0.mk (Hz.out.below hb_); clear Hz; have Hz := n_; clear n_
  have n_ := Aside0.mk (Hu.out.below hb_); clear Hu; have Hu := n_; clear n_
  have n_ := Aside0.mk (Hv.out.below hb_); clear Hv; have Hv := n_; clear n_
  have n_ := Aside0.mk (Ha.out.below hb_); clear Ha; have Ha := n_; clear n_
  have n_ := Aside0.mk (Hc.out.below hb_); clear Hc; have Hc := n_; clear n_
  obtain ⟨Ao, co, eo⟩ := Kd.R_slice (RS.R ho_)
  subst eo
  have Ho := Aside0.mk ho_; have Uo := Aside0.mk (fun b hb => (RS.own ho_ b hb).2); clear ho_
  clear hb_
  clear rN rS rO
  go_wp2_with fail
  have qx : ∀ W', Below W12.heap.size W12 W' → (convert 23 9 (.slice Ax nf.1.length cx)).run Tryd.prog W' = .ok (.string (strOfNums nf.1)) W' := fun W' hb' => Kd.C_string (P := Tryd.prog) Tryd.underlying23 Tryd.underlying5 Tryd.underlying9 (Kd.C_below (Kd.R_reads' (RS.R Hx.out)).2.2 hb')
  have qy : ∀ W', Below W12.heap.size W12 W' → (convert 23 9 (.slice Ay iz.length cy)).run Tryd.prog W' = .ok (.string (strOfNums iz)) W' := fun W' hb' => Kd.C_string (P := Tryd.prog) Tryd.underlying23 Tryd.underlying5 Tryd.underlying9 (Kd.C_below (Kd.R_reads' (RS.R Hy.out)).2.2 hb')
  have qz : ∀ W', Below W12.heap.size W12 W' → (convert 23 9 (.slice Az tf.1.length cz)).run Tryd.prog W' = .ok (.string (strOfNums tf.1)) W' := fun W' hb' => Kd.C_string (P := Tryd.prog) Tryd.underlying23 Tryd.underlying5 Tryd.underlying9 (Kd.C_below (Kd.R_reads' (RS.R Hz.out)).2.2 hb')
  have qu : ∀ W', Below W12.heap.size W12 W' → (convert 23 9 (.slice Au fr.length cu)).run Tryd.prog W' = .ok (.string (strOfNums fr)) W' := fun W' hb' => Kd.C_string (P := Tryd.prog) Tryd.underlying23 Tryd.underlying5 Tryd.underlying9 (Kd.C_below (Kd.R_reads' (RS.R Hu.out)).2.2 hb')
  have qv : ∀ W', Below W12.heap.size W12 W' → (convert 23 9 (.slice Av op.1.length cv)).run Tryd.prog W' = .ok (.string (strOfNums op.1)) W' := fun W' hb' => Kd.C_string (P := Tryd.prog) Tryd.underlying23 Tryd.underlying5 Tryd.underlying9 (Kd.C_below (Kd.R_reads' (RS.R Hv.out)).2.2 hb')
  have qa : ∀ W', Below W12.heap.size W12 W' → (convert 23 9 (.slice Aa nf.1.length ca)).run Tryd.prog W' = .ok (.string (strOfNums nf.1)) W' := fun W' hb' => Kd.C_string (P := Tryd.prog) Tryd.underlying23 Tryd.underlying5 Tryd.underlying9 (Kd.C_below (Kd.R_reads' (RS.R Ha.out)).2.2 hb')
  have qc : ∀ W', Below W12.heap.size W12 W' → (convert 23 9 (.slice Ac tf.1.length cc)).run Tryd.prog W' = .ok (.string (strOfNums tf.1)) W' := fun W' hb' => Kd.C_string (P := Tryd.prog) Tryd.underlying23 Tryd.underlying5 Tryd.underlying9 (Kd.C_below (Kd.R_reads' (RS.R Hc.out)).2.2 hb')
  have qo : ∀ W', Below W12.heap.size W12 W' → (convert 23 9 (.slice Ao op.1.length co)).run Tryd.prog W' = .ok (.string (strOfNums op.1)) W' := fun W' hb' => Kd.C_string (P := Tryd.prog) Tryd.underlying23 Tryd.underlying5 Tryd.underlying9 (Kd.C_below (Kd.R_reads' (RS.R Ho.out)).2.2 hb')
  clear Hx Hy Hz Hu Hv Ha Hc Ho B9 B10 B11 B12 G1 G2 G3 G4 G5
  generalize strOfNums nf.1 = s1 at qx qa
  generalize hs2 : strOfNums iz = s2 at qy
  generalize strOfNums tf.1 = s3 at qz qc
  generalize hs4 : strOfNums fr = s4 at qu
  generalize strOfNums op.1 = s5 at qv qo
  have HS2 := Aside0.mk hs2; have HS4 := Aside0.mk hs4
  clear hs2 hs4
  have SB : Aside0 (Below W12.heap.size W12 W12.drew) := ⟨below_drew1 (Below.refl _ _)⟩
  have HBd := Aside0.mk (below_drew1 HB.out); clear HB; have HB := HBd; clear HBd
  refine wp_region_held_drew (S := fun w' => Below W12.heap.size W12 w') (by kernel_rfl) SB.out (fun hHeld => ?_)
  refine wpAnyH_take (i := 0) (oi := { dst := some 80, op := Op.move (Operand.tmp 7), type := 4, pos := "law.go:38", after := #[], guard := none }) (v := .bool true) rfl (by kernel_rfl) (by kernel_rfl) (by kernel_rfl) (fun _ _ _ h => h) (Or.inl ⟨by rfl, by intro w_ hSw; (try dsimp only at hSw); go_simp⟩) (by assumption) ?_
  try simp only [Act.put, List.setIfInBounds_toArray, List.set_cons_zero, List.set_cons_succ]
  refine wpAnyH_take (i := 1) (oi := { dst := some 81, op := Op.move (Operand.tmp 80), type := 4, pos := "law.go:38", after := #[{ on := 0, ground := Ground.data }], guard := none }) (v := .bool true) rfl (by kernel_rfl) (by kernel_rfl) (by kernel_rfl) (fun _ _ _ h => h) (Or.inl ⟨by rfl, by intro w_ hSw; (try dsimp only at hSw); go_simp⟩) (by assumption) ?_
  try simp only [Act.put, List.setIfInBounds_toArray, List.set_cons_zero, List.set_cons_succ]
  refine wpAnyH_take (i := 2) (oi := { dst := some 82, op := Op.move (Operand.tmp 18), type := 4, pos := "law.go:38", after := #[{ on := 1, ground := Ground.guard }], guard := some (1, true) }) (v := .bool true) rfl (by kernel_rfl) (by kernel_rfl) (by kernel_rfl) (fun _ _ _ h => h) (Or.inl ⟨by rfl, by intro w_ hSw; (try dsimp only at hSw); go_simp⟩) (by assumption) ?_
  try simp only [Act.put, List.setIfInBounds_toArray, List.set_cons_zero, List.set_cons_succ]
  refine wpAnyH_take (i := 3) (oi := { dst := some 83, op := Op.pick (Operand.tmp 81) (Operand.tmp 82) (Operand.const (Value.bool false)), type := 4, pos := "law.go:38", after := #[{ on := 1, ground := Ground.data }, { on := 2, ground := Ground.data }], guard := none }) (v := .bool true) rfl (by kernel_rfl) (by kernel_rfl) (by kernel_rfl) (fun _ _ _ h => h) (Or.inl ⟨by rfl, by intro w_ hSw; (try dsimp only at hSw); go_simp⟩) (by assumption) ?_
  try simp only [Act.put, List.setIfInBounds_toArray, List.set_cons_zero, List.set_cons_succ]
  refine wpAnyH_take (i := 4) (oi := { dst := some 84, op := Op.move (Operand.tmp 83), type := 4, pos := "law.go:38", after := #[{ on := 3, ground := Ground.data }, { on := 1, ground := Ground.chain }], guard := none }) (v := .bool true) rfl (by kernel_rfl) (by kernel_rfl) (by kernel_rfl) (fun _ _ _ h => h) (Or.inl ⟨by rfl, by intro w_ hSw; (try dsimp only at hSw); go_simp⟩) (by assumption) ?_
  try simp only [Act.put, List.setIfInBounds_toArray, List.set_cons_zero, List.set_cons_succ]
  refine wpAnyH_take (i := 5) (oi := { dst := some 85, op := Op.move (Operand.tmp 19), type := 4, pos := "law.go:38", after := #[{ on := 4, ground := Ground.guard }], guard := some (4, true) }) (v := .bool true) rfl (by kernel_rfl) (by kernel_rfl) (by kernel_rfl) (fun _ _ _ h => h) (Or.inl ⟨by rfl, by intro w_ hSw; (try dsimp only at hSw); go_simp⟩) (by assumption) ?_
  try simp only [Act.put, List.setIfInBounds_toArray, List.set_cons_zero, List.set_cons_succ]
  refine wpAnyH_take (i := 6) (oi := { dst := some 86, op := Op.pick (Operand.tmp 84) (Operand.tmp 85) (Operand.const (Value.bool false)), type := 4, pos := "law.go:38", after := #[{ on := 4, ground := Ground.data }, { on := 5, ground := Ground.data }], guard := none }) (v := .bool true) rfl (by kernel_rfl) (by kernel_rfl) (by kernel_rfl) (fun _ _ _ h => h) (Or.inl ⟨by rfl, by intro w_ hSw; (try dsimp only at hSw); go_simp⟩) (by assumption) ?_
  try simp only [Act.put, List.setIfInBounds_toArray, List.set_cons_zero, List.set_cons_succ]
  refine wpAnyH_take (i := 7) (oi := { dst := some 87, op := Op.move (Operand.tmp 86), type := 4, pos := "law.go:38", after := #[{ on := 6, ground := Ground.data }, { on := 4, ground := Ground.chain }], guard := none }) (v := .bool true) rfl (by kernel_rfl) (by kernel_rfl) (by kernel_rfl) (fun _ _ _ h => h) (Or.inl ⟨by rfl, by intro w_ hSw; (try dsimp only at hSw); go_simp⟩) (by assumption) ?_
  try simp only [Act.put, List.setIfInBounds_toArray, List.set_cons_zero, List.set_cons_succ]
  refine wpAnyH_take (i := 8) (oi := { dst := some 88, op := Op.move (Operand.tmp 9), type := 23, pos := "law.go:38", after := #[{ on := 7, ground := Ground.guard }], guard := some (7, true) }) (v := .slice Ax nf.1.length cx) rfl (by kernel_rfl) (by kernel_rfl) (by kernel_rfl) (fun _ _ _ h => h) (Or.inl ⟨by rfl, by intro w_ hSw; (try dsimp only at hSw); go_simp⟩) (by assumption) ?_
  try simp only [Act.put, List.setIfInBounds_toArray, List.set_cons_zero, List.set_cons_succ]
  refine wpAnyH_take (i := 9) (oi := { dst := some 89, op := Op.convert 23 9 (Operand.tmp 88), type := 9, pos := "law.go:38", after := #[{ on := 8, ground := Ground.data }, { on := 7, ground := Ground.guard }], guard := some (7, true) }) (v := .string s1) rfl (by kernel_rfl) (by kernel_rfl) (by kernel_rfl) (fun _ _ _ h => h) (Or.inl ⟨by rfl, by intro w_ hSw; (try dsimp only at hSw); have hq_ := qx w_ hSw; go_simp⟩) (by assumption) ?_
  try simp only [Act.put, List.setIfInBounds_toArray, List.set_cons_zero, List.set_cons_succ]
  refine wpAnyH_take (i := 10) (oi := { dst := some 90, op := Op.move (Operand.tmp 20), type := 23, pos := "law.go:38", after := #[{ on := 7, ground := Ground.guard }], guard := some (7, true) }) (v := .slice Aa nf.1.length ca) rfl (by kernel_rfl) (by kernel_rfl) (by kernel_rfl) (fun _ _ _ h => h) (Or.inl ⟨by rfl, by intro w_ hSw; (try dsimp only at hSw); go_simp⟩) (by assumption) ?_
  try simp only [Act.put, List.setIfInBounds_toArray, List.set_cons_zero, List.set_cons_succ]
  refine wpAnyH_take (i := 11) (oi := { dst := some 91, op := Op.convert 23 9 (Operand.tmp 90), type := 9, pos := "law.go:38", after := #[{ on := 10, ground := Ground.data }, { on := 7, ground := Ground.guard }], guard := some (7, true) }) (v := .string s1) rfl (by kernel_rfl) (by kernel_rfl) (by kernel_rfl) (fun _ _ _ h => h) (Or.inl ⟨by rfl, by intro w_ hSw; (try dsimp only at hSw); have hq_ := qa w_ hSw; go_simp⟩) (by assumption) ?_
  try simp only [Act.put, List.setIfInBounds_toArray, List.set_cons_zero, List.set_cons_succ]
  refine wpAnyH_take (i := 12) (oi := { dst := some 92, op := Op.binOp BinOp.eql 9 (Operand.tmp 89) (Operand.tmp 91) 9, type := 4, pos := "law.go:38", after := #[{ on := 9, ground := Ground.data }, { on := 11, ground := Ground.data }, { on := 7, ground := Ground.guard }], guard := some (7, true) }) (v := .bool true) rfl (by kernel_rfl) (by kernel_rfl) (by kernel_rfl) (fun _ _ _ h => h) (Or.inl ⟨by rfl, by intro w_ hSw; (try dsimp only at hSw); go_simp⟩) (by assumption) ?_
  try simp only [Act.put, List.setIfInBounds_toArray, List.set_cons_zero, List.set_cons_succ]
  refine wpAnyH_take (i := 13) (oi := { dst := some 93, op := Op.pick (Operand.tmp 87) (Operand.tmp 92) (Operand.const (Value.bool false)), type := 4, pos := "law.go:38", after := #[{ on := 7, ground := Ground.data }, { on := 12, ground := Ground.data }], guard := none }) (v := .bool true) rfl (by kernel_rfl) (by kernel_rfl) (by kernel_rfl) (fun _ _ _ h => h) (Or.inl ⟨by rfl, by intro w_ hSw; (try dsimp only at hSw); go_simp⟩) (by assumption) ?_
  try simp only [Act.put, List.setIfInBounds_toArray, List.set_cons_zero, List.set_cons_succ]
  refine wpAnyH_take (i := 14) (oi := { dst := some 94, op := Op.move (Operand.tmp 93), type := 4, pos := "law.go:38", after := #[{ on := 13, ground := Ground.data }, { on := 7, ground := Ground.chain }], guard := none }) (v := .bool true) rfl (by kernel_rfl) (by kernel_rfl) (by kernel_rfl) (fun _ _ _ h => h) (Or.inl ⟨by rfl, by intro w_ hSw; (try dsimp only at hSw); go_simp⟩) (by assumption) ?_
  try simp only [Act.put, List.setIfInBounds_toArray, List.set_cons_zero, List.set_cons_succ]
  refine wpAnyH_take (i := 15) (oi := { dst := some 95, op := Op.move (Operand.tmp 10), type := 24, pos := "law.go:38", after := #[{ on := 14, ground := Ground.guard }], guard := some (14, true) }) (v := .int .i64 nf.2) rfl (by kernel_rfl) (by kernel_rfl) (by kernel_rfl) (fun _ _ _ h => h) (Or.inl ⟨by rfl, by intro w_ hSw; (try dsimp only at hSw); go_simp⟩) (by assumption) ?_
  try simp only [Act.put, List.setIfInBounds_toArray, List.set_cons_zero, List.set_cons_succ]
  refine wpAnyH_take (i := 16) (oi := { dst := some 96, op := Op.move (Operand.tmp 21), type := 24, pos := "law.go:38", after := #[{ on := 14, ground := Ground.guard }], guard := some (14, true) }) (v := .int .i64 nf.2) rfl (by kernel_rfl) (by kernel_rfl) (by kernel_rfl) (fun _ _ _ h => h) (Or.inl ⟨by rfl, by intro w_ hSw; (try dsimp only at hSw); go_simp⟩) (by assumption) ?_
  try simp only [Act.put, List.setIfInBounds_toArray, List.set_cons_zero, List.set_cons_succ]
  refine wpAnyH_take (i := 17) (oi := { dst := some 97, op := Op.binOp BinOp.eql 24 (Operand.tmp 95) (Operand.tmp 96) 24, type := 4, pos := "law.go:38", after := #[{ on := 15, ground := Ground.data }, { on := 16, ground := Ground.data }, { on := 14, ground := Ground.guard }], guard := some (14, true) }) (v := .bool true) rfl (by kernel_rfl) (by kernel_rfl) (by kernel_rfl) (fun _ _ _ h => h) (Or.inl ⟨by rfl, by intro w_ hSw; (try dsimp only at hSw); go_simp⟩) (by assumption) ?_
  try simp only [Act.put, List.setIfInBounds_toArray, List.set_cons_zero, List.set_cons_succ]
  refine wpAnyH_take (i := 18) (oi := { dst := some 98, op := Op.pick (Operand.tmp 94) (Operand.tmp 97) (Operand.const (Value.bool false)), type := 4, pos := "law.go:38", after := #[{ on := 14, ground := Ground.data }, { on := 17, ground := Ground.data }], guard := none }) (v := .bool true) rfl (by kernel_rfl) (by kernel_rfl) (by kernel_rfl) (fun _ _ _ h => h) (Or.inl ⟨by rfl, by intro w_ hSw; (try dsimp only at hSw); go_simp⟩) (by assumption) ?_
  try simp only [Act.put, List.setIfInBounds_toArray, List.set_cons_zero, List.set_cons_succ]
  refine wpAnyH_take (i := 19) (oi := { dst := some 99, op := Op.move (Operand.tmp 98), type := 4, pos := "law.go:38", after := #[{ on := 18, ground := Ground.data }, { on := 14, ground := Ground.chain }], guard := none }) (v := .bool true) rfl (by kernel_rfl) (by kernel_rfl) (by kernel_rfl) (fun _ _ _ h => h) (Or.inl ⟨by rfl, by intro w_ hSw; (try dsimp only at hSw); go_simp⟩) (by assumption) ?_
  try simp only [Act.put, List.setIfInBounds_toArray, List.set_cons_zero, List.set_cons_succ]
  refine wpAnyH_take (i := 20) (oi := { dst := some 100, op := Op.move (Operand.tmp 11), type := 23, pos := "law.go:38", after := #[{ on := 19, ground := Ground.guard }], guard := some (19, true) }) (v := .slice Ay iz.length cy) rfl (by kernel_rfl) (by kernel_rfl) (by kernel_rfl) (fun _ _ _ h => h) (Or.inl ⟨by rfl, by intro w_ hSw; (try dsimp only at hSw); go_simp⟩) (by assumption) ?_
  try simp only [Act.put, List.setIfInBounds_toArray, List.set_cons_zero, List.set_cons_succ]
  refine wpAnyH_take (i := 21) (oi := { dst := some 101, op := Op.convert 23 9 (Operand.tmp 100), type := 9, pos := "law.go:38", after := #[{ on := 20, ground := Ground.data }, { on := 19, ground := Ground.guard }], guard := some (19, true) }) (v := .string s2) rfl (by kernel_rfl) (by kernel_rfl) (by kernel_rfl) (fun _ _ _ h => h) (Or.inl ⟨by rfl, by intro w_ hSw; (try dsimp only at hSw); have hq_ := qy w_ hSw; go_simp⟩) (by assumption) ?_
  try simp only [Act.put, List.setIfInBounds_toArray, List.set_cons_zero, List.set_cons_succ]
  refine wpAnyH_take (i := 22) (oi := { dst := some 102, op := Op.move (Operand.tmp 0), type := 23, pos := "law.go:38", after := #[{ on := 19, ground := Ground.guard }], guard := some (19, true) }) (v := .slice A0 l0.length c0) rfl (by kernel_rfl) (by kernel_rfl) (by kernel_rfl) (fun _ _ _ h => h) (Or.inl ⟨by rfl, by intro w_ hSw; (try dsimp only at hSw); go_simp⟩) (by assumption) ?_
  try simp only [Act.put, List.setIfInBounds_toArray, List.set_cons_zero, List.set_cons_succ]
  refine wpAnyH_take (i := 23) (oi := { dst := some 103, op := Op.move (Operand.tmp 1), type := 3, pos := "law.go:38", after := #[{ on := 19, ground := Ground.guard }], guard := some (19, true) }) (v := .int .i64 k) rfl (by kernel_rfl) (by kernel_rfl) (by kernel_rfl) (fun _ _ _ h => h) (Or.inl ⟨by rfl, by intro w_ hSw; (try dsimp only at hSw); go_simp⟩) (by assumption) ?_
  try simp only [Act.put, List.setIfInBounds_toArray, List.set_cons_zero, List.set_cons_succ]
  refine wpAnyH_ready (rs := [24]) (by kernel_rfl) (by simp) ?_
  refine AllReadyH.cons (o := { dst := some 104, op := Op.call { callee := Callee.value (Operand.func 29), args := #[Operand.tmp 102, Operand.tmp 103], argTypes := #[23, 3] }, type := 23, pos := "law.go:38", after := #[{ on := 22, ground := Ground.data }, { on := 23, ground := Ground.data }, { on := 19, ground := Ground.chain }, { on := 19, ground := Ground.guard }], guard := some (19, true) }) rfl (fun K hK => ?_) AllReadyH.nil
  go_simp
  ((with_reducible refine (rI _ _ _ (Kd.C_below HR.out HB.out)).mono ?_); rintro e_ W13 ⟨v_, rfl, ho_, hb_⟩)
  have n_ := Aside0.mk (below_step HB.out hb_); clear HB; have HB := n_; clear n_
  have n_ := Aside0.mk (below_step SB.out hb_); clear SB; have SB := n_; clear n_ hb_
  obtain ⟨A_, c_, e_⟩ := Kd.R_slice (RS.R ho_)
  subst e_
  have cv_ := Kd.C_string (P := Tryd.prog) (c := c_) Tryd.underlying23 Tryd.underlying5 Tryd.underlying9 (Kd.R_reads' (RS.R ho_)).2.2
  rw [HS2.out] at cv_
  clear ho_ hHeld rI
  go_wp2_with fail
  refine hK.out _ _ SB.out (fun hHeld => ?_)
  clear hK K
  try simp only [Act.put, List.setIfInBounds_toArray, List.set_cons_zero, List.set_cons_succ]
  refine wpAnyH_ready (rs := [25]) (by kernel_rfl) (by simp) ?_
  refine AllReadyH.cons (o := { dst := some 105, op := Op.convert 23 9 (Operand.tmp 104), type := 9, pos := "law.go:38", after := #[{ on := 24, ground := Ground.data }, { on := 19, ground := Ground.guard }], guard := some (19, true) }) rfl (fun K hK => ?_) AllReadyH.nil
  go_simp
  refine hK.out _ _ SB.out (fun hHeld => ?_)
  clear hK K
  try simp only [Act.put, List.setIfInBounds_toArray, List.set_cons_zero, List.set_cons_succ]
  clear cv_
  refine wpAnyH_take (i := 26) (oi := { dst := some 106, op := Op.binOp BinOp.eql 9 (Operand.tmp 101) (Operand.tmp 105) 9, type := 4, pos := "law.go:38", after := #[{ on := 21, ground := Ground.data }, { on := 25, ground := Ground.data }, { on := 19, ground := Ground.guard }], guard := some (19, true) }) (v := .bool true) rfl (by kernel_rfl) (by kernel_rfl) (by kernel_rfl) (fun _ _ _ h => h) (Or.inl ⟨by rfl, by intro w_ hSw; (try dsimp only at hSw); go_simp⟩) (by assumption) ?_
  try simp only [Act.put, List.setIfInBounds_toArray, List.set_cons_zero, List.set_cons_succ]
  refine wpAnyH_take (i := 27) (oi := { dst := some 107, op := Op.pick (Operand.tmp 99) (Operand.tmp 106) (Operand.const (Value.bool false)), type := 4, pos := "law.go:38", after := #[{ on := 19, ground := Ground.data }, { on := 26, ground := Ground.data }], guard := none }) (v := .bool true) rfl (by kernel_rfl) (by kernel_rfl) (by kernel_rfl) (fun _ _ _ h => h) (Or.inl ⟨by rfl, by intro w_ hSw; (try dsimp only at hSw); go_simp⟩) (by assumption) ?_
  try simp only [Act.put, List.setIfInBounds_toArray, List.set_cons_zero, List.set_cons_succ]
  refine wpAnyH_take (i := 28) (oi := { dst := some 108, op := Op.move (Operand.tmp 107), type := 4, pos := "law.go:38", after := #[{ on := 27, ground := Ground.data }, { on := 24, ground := Ground.chain }], guard := none }) (v := .bool true) rfl (by kernel_rfl) (by kernel_rfl) (by kernel_rfl) (fun _ _ _ h => h) (Or.inl ⟨by rfl, by intro w_ hSw; (try dsimp only at hSw); go_simp⟩) (by assumption) ?_
  try simp only [Act.put, List.setIfInBounds_toArray, List.set_cons_zero, List.set_cons_succ]
  refine wpAnyH_take (i := 29) (oi := { dst := some 109, op := Op.move (Operand.tmp 12), type := 23, pos := "law.go:38", after := #[{ on := 28, ground := Ground.guard }], guard := some (28, true) }) (v := .slice Az tf.1.length cz) rfl (by kernel_rfl) (by kernel_rfl) (by kernel_rfl) (fun _ _ _ h => h) (Or.inl ⟨by rfl, by intro w_ hSw; (try dsimp only at hSw); go_simp⟩) (by assumption) ?_
  try simp only [Act.put, List.setIfInBounds_toArray, List.set_cons_zero, List.set_cons_succ]
  refine wpAnyH_take (i := 30) (oi := { dst := some 110, op := Op.convert 23 9 (Operand.tmp 109), type := 9, pos := "law.go:38", after := #[{ on := 29, ground := Ground.data }, { on := 28, ground := Ground.guard }], guard := some (28, true) }) (v := .string s3) rfl (by kernel_rfl) (by kernel_rfl) (by kernel_rfl) (fun _ _ _ h => h) (Or.inl ⟨by rfl, by intro w_ hSw; (try dsimp only at hSw); have hq_ := qz w_ hSw; go_simp⟩) (by assumption) ?_
  try simp only [Act.put, List.setIfInBounds_toArray, List.set_cons_zero, List.set_cons_succ]
  refine wpAnyH_take (i := 31) (oi := { dst := some 111, op := Op.move (Operand.tmp 22), type := 23, pos := "law.go:38", after := #[{ on := 28, ground := Ground.guard }], guard := some (28, true) }) (v := .slice Ac tf.1.length cc) rfl (by kernel_rfl) (by kernel_rfl) (by kernel_rfl) (fun _ _ _ h => h) (Or.inl ⟨by rfl, by intro w_ hSw; (try dsimp only at hSw); go_simp⟩) (by assumption) ?_
  try simp only [Act.put, List.setIfInBounds_toArray, List.set_cons_zero, List.set_cons_succ]
  refine wpAnyH_take (i := 32) (oi := { dst := some 112, op := Op.convert 23 9 (Operand.tmp 111), type := 9, pos := "law.go:38", after := #[{ on := 31, ground := Ground.data }, { on := 28, ground := Ground.guard }], guard := some (28, true) }) (v := .string s3) rfl (by kernel_rfl) (by kernel_rfl) (by kernel_rfl) (fun _ _ _ h => h) (Or.inl ⟨by rfl, by intro w_ hSw; (try dsimp only at hSw); have hq_ := qc w_ hSw; go_simp⟩) (by assumption) ?_
  try simp only [Act.put, List.setIfInBounds_toArray, List.set_cons_zero, List.set_cons_succ]
  refine wpAnyH_take (i := 33) (oi := { dst := some 113, op := Op.binOp BinOp.eql 9 (Operand.tmp 110) (Operand.tmp 112) 9, type := 4, pos := "law.go:38", after := #[{ on := 30, ground := Ground.data }, { on := 32, ground := Ground.data }, { on := 28, ground := Ground.guard }], guard := some (28, true) }) (v := .bool true) rfl (by kernel_rfl) (by kernel_rfl) (by kernel_rfl) (fun _ _ _ h => h) (Or.inl ⟨by rfl, by intro w_ hSw; (try dsimp only at hSw); go_simp⟩) (by assumption) ?_
  try simp only [Act.put, List.setIfInBounds_toArray, List.set_cons_zero, List.set_cons_succ]
  refine wpAnyH_take (i := 34) (oi := { dst := some 114, op := Op.pick (Operand.tmp 108) (Operand.tmp 113) (Operand.const (Value.bool false)), type := 4, pos := "law.go:38", after := #[{ on := 28, ground := Ground.data }, { on := 33, ground := Ground.data }], guard := none }) (v := .bool true) rfl (by kernel_rfl) (by kernel_rfl) (by kernel_rfl) (fun _ _ _ h => h) (Or.inl ⟨by rfl, by intro w_ hSw; (try dsimp only at hSw); go_simp⟩) (by assumption) ?_
  try simp only [Act.put, List.setIfInBounds_toArray, List.set_cons_zero, List.set_cons_succ]
  refine wpAnyH_take (i := 35) (oi := { dst := some 115, op := Op.move (Operand.tmp 114), type := 4, pos := "law.go:38", after := #[{ on := 34, ground := Ground.data }, { on := 28, ground := Ground.chain }], guard := none }) (v := .bool true) rfl (by kernel_rfl) (by kernel_rfl) (by kernel_rfl) (fun _ _ _ h => h) (Or.inl ⟨by rfl, by intro w_ hSw; (try dsimp only at hSw); go_simp⟩) (by assumption) ?_
  try simp only [Act.put, List.setIfInBounds_toArray, List.set_cons_zero, List.set_cons_succ]
  refine wpAnyH_take (i := 36) (oi := { dst := some 116, op := Op.move (Operand.tmp 13), type := 24, pos := "law.go:38", after := #[{ on := 35, ground := Ground.guard }], guard := some (35, true) }) (v := .int .i64 tf.2) rfl (by kernel_rfl) (by kernel_rfl) (by kernel_rfl) (fun _ _ _ h => h) (Or.inl ⟨by rfl, by intro w_ hSw; (try dsimp only at hSw); go_simp⟩) (by assumption) ?_
  try simp only [Act.put, List.setIfInBounds_toArray, List.set_cons_zero, List.set_cons_succ]
  refine wpAnyH_take (i := 37) (oi := { dst := some 117, op := Op.move (Operand.tmp 23), type := 24, pos := "law.go:38", after := #[{ on := 35, ground := Ground.guard }], guard := some (35, true) }) (v := .int .i64 tf.2) rfl (by kernel_rfl) (by kernel_rfl) (by kernel_rfl) (fun _ _ _ h => h) (Or.inl ⟨by rfl, by intro w_ hSw; (try dsimp only at hSw); go_simp⟩) (by assumption) ?_
  try simp only [Act.put, List.setIfInBounds_toArray, List.set_cons_zero, List.set_cons_succ]
  refine wpAnyH_take (i := 38) (oi := { dst := some 118, op := Op.binOp BinOp.eql 24 (Operand.tmp 116) (Operand.tmp 117) 24, type := 4, pos := "law.go:38", after := #[{ on := 36, ground := Ground.data }, { on := 37, ground := Ground.data }, { on := 35, ground := Ground.guard }], guard := some (35, true) }) (v := .bool true) rfl (by kernel_rfl) (by kernel_rfl) (by kernel_rfl) (fun _ _ _ h => h) (Or.inl ⟨by rfl, by intro w_ hSw; (try dsimp only at hSw); go_simp⟩) (by assumption) ?_
  try simp only [Act.put, List.setIfInBounds_toArray, List.set_cons_zero, List.set_cons_succ]
  refine wpAnyH_take (i := 39) (oi := { dst := some 119, op := Op.pick (Operand.tmp 115) (Operand.tmp 118) (Operand.const (Value.bool false)), type := 4, pos := "law.go:38", after := #[{ on := 35, ground := Ground.data }, { on := 38, ground := Ground.data }], guard := none }) (v := .bool true) rfl (by kernel_rfl) (by kernel_rfl) (by kernel_rfl) (fun _ _ _ h => h) (Or.inl ⟨by rfl, by intro w_ hSw; (try dsimp only at hSw); go_simp⟩) (by assumption) ?_
  try simp only [Act.put, List.setIfInBounds_toArray, List.set_cons_zero, List.set_cons_succ]
  refine wpAnyH_take (i := 40) (oi := { dst := some 120, op := Op.move (Operand.tmp 119), type := 4, pos := "law.go:38", after := #[{ on := 39, ground := Ground.data }, { on := 35, ground := Ground.chain }], guard := none }) (v := .bool true) rfl (by kernel_rfl) (by kernel_rfl) (by kernel_rfl) (fun _ _ _ h => h) (Or.inl ⟨by rfl, by intro w_ hSw; (try dsimp only at hSw); go_simp⟩) (by assumption) ?_
  try simp only [Act.put, List.setIfInBounds_toArray, List.set_cons_zero, List.set_cons_succ]
  refine wpAnyH_take (i := 41) (oi := { dst := some 121, op := Op.move (Operand.tmp 14), type := 23, pos := "law.go:38", after := #[{ on := 40, ground := Ground.guard }], guard := some (40, true) }) (v := .slice Au fr.length cu) rfl (by kernel_rfl) (by kernel_rfl) (by kernel_rfl) (fun _ _ _ h => h) (Or.inl ⟨by rfl, by intro w_ hSw; (try dsimp only at hSw); go_simp⟩) (by assumption) ?_
  try simp only [Act.put, List.setIfInBounds_toArray, List.set_cons_zero, List.set_cons_succ]
  refine wpAnyH_take (i := 42) (oi := { dst := some 122, op := Op.convert 23 9 (Operand.tmp 121), type := 9, pos := "law.go:38", after := #[{ on := 41, ground := Ground.data }, { on := 40, ground := Ground.guard }], guard := some (40, true) }) (v := .string s4) rfl (by kernel_rfl) (by kernel_rfl) (by kernel_rfl) (fun _ _ _ h => h) (Or.inl ⟨by rfl, by intro w_ hSw; (try dsimp only at hSw); have hq_ := qu w_ hSw; go_simp⟩) (by assumption) ?_
  try simp only [Act.put, List.setIfInBounds_toArray, List.set_cons_zero, List.set_cons_succ]
  refine wpAnyH_take (i := 43) (oi := { dst := some 123, op := Op.move (Operand.tmp 0), type := 23, pos := "law.go:38", after := #[{ on := 40, ground := Ground.guard }], guard := some (40, true) }) (v := .slice A0 l0.length c0) rfl (by kernel_rfl) (by kernel_rfl) (by kernel_rfl) (fun _ _ _ h => h) (Or.inl ⟨by rfl, by intro w_ hSw; (try dsimp only at hSw); go_simp⟩) (by assumption) ?_
  try simp only [Act.put, List.setIfInBounds_toArray, List.set_cons_zero, List.set_cons_succ]
  refine wpAnyH_ready (rs := [44]) (by kernel_rfl) (by simp) ?_
  refine AllReadyH.cons (o := { dst := some 124, op := Op.call { callee := Callee.value (Operand.func 30), args := #[Operand.tmp 123], argTypes := #[23] }, type := 23, pos := "law.go:38", after := #[{ on := 43, ground := Ground.data }, { on := 40, ground := Ground.chain }, { on := 40, ground := Ground.guard }], guard := some (40, true) }) rfl (fun K hK => ?_) AllReadyH.nil
  go_simp
  ((with_reducible refine (rF _ _ _ (Kd.C_below HR.out HB.out)).mono ?_); rintro e_ W14 ⟨v_, rfl, ho_, hb_⟩)
  have n_ := Aside0.mk (below_step HB.out hb_); clear HB; have HB := n_; clear n_
  have n_ := Aside0.mk (below_step SB.out hb_); clear SB; have SB := n_; clear n_ hb_
  obtain ⟨A_, c_, e_⟩ := Kd.R_slice (RS.R ho_)
  subst e_
  have cv_ := Kd.C_string (P := Tryd.prog) (c := c_) Tryd.underlying23 Tryd.underlying5 Tryd.underlying9 (Kd.R_reads' (RS.R ho_)).2.2
  rw [HS4.out] at cv_
  clear ho_ hHeld rF
  go_wp2_with fail
  refine hK.out _ _ SB.out (fun hHeld => ?_)
  clear hK K
  try simp only [Act.put, List.setIfInBounds_toArray, List.set_cons_zero, List.set_cons_succ]
  refine wpAnyH_ready (rs := [45]) (by kernel_rfl) (by simp) ?_
  refine AllReadyH.cons (o := { dst := some 125, op := Op.convert 23 9 (Operand.tmp 124), type := 9, pos := "law.go:38", after := #[{ on := 44, ground := Ground.data }, { on := 40, ground := Ground.guard }], guard := some (40, true) }) rfl (fun K hK => ?_) AllReadyH.nil
  go_simp
  refine hK.out _ _ SB.out (fun hHeld => ?_)
  clear hK K
  try simp only [Act.put, List.setIfInBounds_toArray, List.set_cons_zero, List.set_cons_succ]
  clear cv_
  refine wpAnyH_take (i := 46) (oi := { dst := some 126, op := Op.binOp BinOp.eql 9 (Operand.tmp 122) (Operand.tmp 125) 9, type := 4, pos := "law.go:38", after := #[{ on := 42, ground := Ground.data }, { on := 45, ground := Ground.data }, { on := 40, ground := Ground.guard }], guard := some (40, true) }) (v := .bool true) rfl (by kernel_rfl) (by kernel_rfl) (by kernel_rfl) (fun _ _ _ h => h) (Or.inl ⟨by rfl, by intro w_ hSw; (try dsimp only at hSw); go_simp⟩) (by assumption) ?_
  try simp only [Act.put, List.setIfInBounds_toArray, List.set_cons_zero, List.set_cons_succ]
  refine wpAnyH_take (i := 47) (oi := { dst := some 127, op := Op.pick (Operand.tmp 120) (Operand.tmp 126) (Operand.const (Value.bool false)), type := 4, pos := "law.go:38", after := #[{ on := 40, ground := Ground.data }, { on := 46, ground := Ground.data }], guard := none }) (v := .bool true) rfl (by kernel_rfl) (by kernel_rfl) (by kernel_rfl) (fun _ _ _ h => h) (Or.inl ⟨by rfl, by intro w_ hSw; (try dsimp only at hSw); go_simp⟩) (by assumption) ?_
  try simp only [Act.put, List.setIfInBounds_toArray, List.set_cons_zero, List.set_cons_succ]
  refine wpAnyH_take (i := 48) (oi := { dst := some 128, op := Op.move (Operand.tmp 127), type := 4, pos := "law.go:38", after := #[{ on := 47, ground := Ground.data }, { on := 44, ground := Ground.chain }], guard := none }) (v := .bool true) rfl (by kernel_rfl) (by kernel_rfl) (by kernel_rfl) (fun _ _ _ h => h) (Or.inl ⟨by rfl, by intro w_ hSw; (try dsimp only at hSw); go_simp⟩) (by assumption) ?_
  try simp only [Act.put, List.setIfInBounds_toArray, List.set_cons_zero, List.set_cons_succ]
  refine wpAnyH_take (i := 49) (oi := { dst := some 129, op := Op.move (Operand.tmp 15), type := 23, pos := "law.go:38", after := #[{ on := 48, ground := Ground.guard }], guard := some (48, true) }) (v := .slice Av op.1.length cv) rfl (by kernel_rfl) (by kernel_rfl) (by kernel_rfl) (fun _ _ _ h => h) (Or.inl ⟨by rfl, by intro w_ hSw; (try dsimp only at hSw); go_simp⟩) (by assumption) ?_
  try simp only [Act.put, List.setIfInBounds_toArray, List.set_cons_zero, List.set_cons_succ]
  refine wpAnyH_take (i := 50) (oi := { dst := some 130, op := Op.convert 23 9 (Operand.tmp 129), type := 9, pos := "law.go:38", after := #[{ on := 49, ground := Ground.data }, { on := 48, ground := Ground.guard }], guard := some (48, true) }) (v := .string s5) rfl (by kernel_rfl) (by kernel_rfl) (by kernel_rfl) (fun _ _ _ h => h) (Or.inl ⟨by rfl, by intro w_ hSw; (try dsimp only at hSw); have hq_ := qv w_ hSw; go_simp⟩) (by assumption) ?_
  try simp only [Act.put, List.setIfInBounds_toArray, List.set_cons_zero, List.set_cons_succ]
  refine wpAnyH_take (i := 51) (oi := { dst := some 131, op := Op.move (Operand.tmp 24), type := 23, pos := "law.go:38", after := #[{ on := 48, ground := Ground.guard }], guard := some (48, true) }) (v := .slice Ao op.1.length co) rfl (by kernel_rfl) (by kernel_rfl) (by kernel_rfl) (fun _ _ _ h => h) (Or.inl ⟨by rfl, by intro w_ hSw; (try dsimp only at hSw); go_simp⟩) (by assumption) ?_
  try simp only [Act.put, List.setIfInBounds_toArray, List.set_cons_zero, List.set_cons_succ]
  refine wpAnyH_take (i := 52) (oi := { dst := some 132, op := Op.convert 23 9 (Operand.tmp 131), type := 9, pos := "law.go:38", after := #[{ on := 51, ground := Ground.data }, { on := 48, ground := Ground.guard }], guard := some (48, true) }) (v := .string s5) rfl (by kernel_rfl) (by kernel_rfl) (by kernel_rfl) (fun _ _ _ h => h) (Or.inl ⟨by rfl, by intro w_ hSw; (try dsimp only at hSw); have hq_ := qo w_ hSw; go_simp⟩) (by assumption) ?_
  try simp only [Act.put, List.setIfInBounds_toArray, List.set_cons_zero, List.set_cons_succ]
  refine wpAnyH_take (i := 53) (oi := { dst := some 133, op := Op.binOp BinOp.eql 9 (Operand.tmp 130) (Operand.tmp 132) 9, type := 4, pos := "law.go:38", after := #[{ on := 50, ground := Ground.data }, { on := 52, ground := Ground.data }, { on := 48, ground := Ground.guard }], guard := some (48, true) }) (v := .bool true) rfl (by kernel_rfl) (by kernel_rfl) (by kernel_rfl) (fun _ _ _ h => h) (Or.inl ⟨by rfl, by intro w_ hSw; (try dsimp only at hSw); go_simp⟩) (by assumption) ?_
  try simp only [Act.put, List.setIfInBounds_toArray, List.set_cons_zero, List.set_cons_succ]
  refine wpAnyH_take (i := 54) (oi := { dst := some 134, op := Op.pick (Operand.tmp 128) (Operand.tmp 133) (Operand.const (Value.bool false)), type := 4, pos := "law.go:38", after := #[{ on := 48, ground := Ground.data }, { on := 53, ground := Ground.data }], guard := none }) (v := .bool true) rfl (by kernel_rfl) (by kernel_rfl) (by kernel_rfl) (fun _ _ _ h => h) (Or.inl ⟨by rfl, by intro w_ hSw; (try dsimp only at hSw); go_simp⟩) (by assumption) ?_
  try simp only [Act.put, List.setIfInBounds_toArray, List.set_cons_zero, List.set_cons_succ]
  refine wpAnyH_take (i := 55) (oi := { dst := some 135, op := Op.move (Operand.tmp 134), type := 4, pos := "law.go:38", after := #[{ on := 54, ground := Ground.data }, { on := 48, ground := Ground.chain }], guard := none }) (v := .bool true) rfl (by kernel_rfl) (by kernel_rfl) (by kernel_rfl) (fun _ _ _ h => h) (Or.inl ⟨by rfl, by intro w_ hSw; (try dsimp only at hSw); go_simp⟩) (by assumption) ?_
  try simp only [Act.put, List.setIfInBounds_toArray, List.set_cons_zero, List.set_cons_succ]
  refine wpAnyH_take (i := 56) (oi := { dst := some 136, op := Op.move (Operand.tmp 16), type := 4, pos := "law.go:38", after := #[{ on := 55, ground := Ground.guard }], guard := some (55, true) }) (v := .bool op.2) rfl (by kernel_rfl) (by kernel_rfl) (by kernel_rfl) (fun _ _ _ h => h) (Or.inl ⟨by rfl, by intro w_ hSw; (try dsimp only at hSw); go_simp⟩) (by assumption) ?_
  try simp only [Act.put, List.setIfInBounds_toArray, List.set_cons_zero, List.set_cons_succ]
  refine wpAnyH_take (i := 57) (oi := { dst := some 137, op := Op.move (Operand.tmp 25), type := 4, pos := "law.go:38", after := #[{ on := 55, ground := Ground.guard }], guard := some (55, true) }) (v := .bool op.2) rfl (by kernel_rfl) (by kernel_rfl) (by kernel_rfl) (fun _ _ _ h => h) (Or.inl ⟨by rfl, by intro w_ hSw; (try dsimp only at hSw); go_simp⟩) (by assumption) ?_
  try simp only [Act.put, List.setIfInBounds_toArray, List.set_cons_zero, List.set_cons_succ]
  refine wpAnyH_take (i := 58) (oi := { dst := some 138, op := Op.binOp BinOp.eql 4 (Operand.tmp 136) (Operand.tmp 137) 4, type := 4, pos := "law.go:38", after := #[{ on := 56, ground := Ground.data }, { on := 57, ground := Ground.data }, { on := 55, ground := Ground.guard }], guard := some (55, true) }) (v := .bool true) rfl (by kernel_rfl) (by kernel_rfl) (by kernel_rfl) (fun _ _ _ h => h) (Or.inl ⟨by rfl, by intro w_ hSw; (try dsimp only at hSw); go_simp⟩) (by assumption) ?_
  try simp only [Act.put, List.setIfInBounds_toArray, List.set_cons_zero, List.set_cons_succ]
  refine wpAnyH_take (i := 59) (oi := { dst := some 139, op := Op.pick (Operand.tmp 135) (Operand.tmp 138) (Operand.const (Value.bool false)), type := 4, pos := "law.go:38", after := #[{ on := 55, ground := Ground.data }, { on := 58, ground := Ground.data }], guard := none }) (v := .bool true) rfl (by kernel_rfl) (by kernel_rfl) (by kernel_rfl) (fun _ _ _ h => h) (Or.inl ⟨by rfl, by intro w_ hSw; (try dsimp only at hSw); go_simp⟩) (by assumption) ?_
  try simp only [Act.put, List.setIfInBounds_toArray, List.set_cons_zero, List.set_cons_succ]
  refine wpAnyH_take (i := 60) (oi := { dst := some 140, op := Op.move (Operand.tmp 139), type := 4, pos := "law.go:38", after := #[{ on := 59, ground := Ground.data }, { on := 55, ground := Ground.chain }], guard := none }) (v := .bool true) rfl (by kernel_rfl) (by kernel_rfl) (by kernel_rfl) (fun _ _ _ h => h) (Or.inl ⟨by rfl, by intro w_ hSw; (try dsimp only at hSw); go_simp⟩) (by assumption) ?_
  try simp only [Act.put, List.setIfInBounds_toArray, List.set_cons_zero, List.set_cons_succ]
  refine wpAnyH_take (i := 61) (oi := { dst := some 141, op := Op.move (Operand.tmp 17), type := 3, pos := "law.go:38", after := #[{ on := 60, ground := Ground.guard }], guard := some (60, true) }) (v := .int .i64 sm) rfl (by kernel_rfl) (by kernel_rfl) (by kernel_rfl) (fun _ _ _ h => h) (Or.inl ⟨by rfl, by intro w_ hSw; (try dsimp only at hSw); go_simp⟩) (by assumption) ?_
  try simp only [Act.put, List.setIfInBounds_toArray, List.set_cons_zero, List.set_cons_succ]
  refine wpAnyH_take (i := 62) (oi := { dst := some 142, op := Op.move (Operand.tmp 0), type := 23, pos := "law.go:38", after := #[{ on := 60, ground := Ground.guard }], guard := some (60, true) }) (v := .slice A0 l0.length c0) rfl (by kernel_rfl) (by kernel_rfl) (by kernel_rfl) (fun _ _ _ h => h) (Or.inl ⟨by rfl, by intro w_ hSw; (try dsimp only at hSw); go_simp⟩) (by assumption) ?_
  try simp only [Act.put, List.setIfInBounds_toArray, List.set_cons_zero, List.set_cons_succ]
  refine wpAnyH_ready (rs := [63]) (by kernel_rfl) (by simp) ?_
  refine AllReadyH.cons (o := { dst := some 143, op := Op.call { callee := Callee.value (Operand.func 31), args := #[Operand.tmp 142], argTypes := #[23] }, type := 3, pos := "law.go:38", after := #[{ on := 62, ground := Ground.data }, { on := 60, ground := Ground.chain }, { on := 60, ground := Ground.guard }], guard := some (60, true) }) rfl (fun K hK => ?_) AllReadyH.nil
  go_simp
  ((with_reducible refine (rM _ _ _ (Kd.C_below HR.out HB.out)).mono ?_); rintro e_ W15 ⟨rfl, rfl⟩)
  clear rM hHeld
  go_wp2_with fail
  refine hK.out _ _ SB.out (fun hHeld => ?_)
  clear hK K
  try simp only [Act.put, List.setIfInBounds_toArray, List.set_cons_zero, List.set_cons_succ]
  refine wpAnyH_take (i := 64) (oi := { dst := some 144, op := Op.binOp BinOp.eql 3 (Operand.tmp 141) (Operand.tmp 143) 3, type := 4, pos := "law.go:38", after := #[{ on := 61, ground := Ground.data }, { on := 63, ground := Ground.data }, { on := 60, ground := Ground.guard }], guard := some (60, true) }) (v := .bool true) rfl (by kernel_rfl) (by kernel_rfl) (by kernel_rfl) (fun _ _ _ h => h) (Or.inl ⟨by rfl, by intro w_ hSw; (try dsimp only at hSw); go_simp⟩) (by assumption) ?_
  try simp only [Act.put, List.setIfInBounds_toArray, List.set_cons_zero, List.set_cons_succ]
  refine wpAnyH_take (i := 65) (oi := { dst := some 145, op := Op.pick (Operand.tmp 140) (Operand.tmp 144) (Operand.const (Value.bool false)), type := 4, pos := "law.go:38", after := #[{ on := 60, ground := Ground.data }, { on := 64, ground := Ground.data }], guard := none }) (v := .bool true) rfl (by kernel_rfl) (by kernel_rfl) (by kernel_rfl) (fun _ _ _ h => h) (Or.inl ⟨by rfl, by intro w_ hSw; (try dsimp only at hSw); go_simp⟩) (by assumption) ?_
  try simp only [Act.put, List.setIfInBounds_toArray, List.set_cons_zero, List.set_cons_succ]
  refine wpAnyH_take (i := 66) (oi := { dst := some 6, op := Op.assign (Operand.tmp 145), type := 4, pos := "law.go:38", after := ([{ on := 65, ground := Ground.data }, { on := 63, ground := Ground.chain }, { on := 0, ground := Ground.phase }, { on := 1, ground := Ground.phase }, { on := 2, ground := Ground.phase }, { on := 3, ground := Ground.phase }, { on := 4, ground := Ground.phase }, { on := 5, ground := Ground.phase }, { on := 6, ground := Ground.phase }, { on := 7, ground := Ground.phase }, { on := 8, ground := Ground.phase }, { on := 9, ground := Ground.phase }, { on := 10, ground := Ground.phase }, { on := 11, ground := Ground.phase }, { on := 12, ground := Ground.phase }, { on := 13, ground := Ground.phase }, { on := 14, ground := Ground.phase }, { on := 15, ground := Ground.phase }, { on := 16, ground := Ground.phase }, { on := 17, ground := Ground.phase }, { on := 18, ground := Ground.phase }, { on := 19, ground := Ground.phase }, { on := 20, ground := Ground.phase }, { on := 21, ground := Ground.phase }, { on := 22, ground := Ground.phase }, { on := 23, ground := Ground.phase }, { on := 24, ground := Ground.phase }, { on := 25, ground := Ground.phase }, { on := 26, ground := Ground.phase }, { on := 27, ground := Ground.phase }, { on := 28, ground := Ground.phase }, { on := 29, ground := Ground.phase }, { on := 30, ground := Ground.phase }, { on := 31, ground := Ground.phase }].append [{ on := 32, ground := Ground.phase }, { on := 33, ground := Ground.phase }, { on := 34, ground := Ground.phase }, { on := 35, ground := Ground.phase }, { on := 36, ground := Ground.phase }, { on := 37, ground := Ground.phase }, { on := 38, ground := Ground.phase }, { on := 39, ground := Ground.phase }, { on := 40, ground := Ground.phase }, { on := 41, ground := Ground.phase }, { on := 42, ground := Ground.phase }, { on := 43, ground := Ground.phase }, { on := 44, ground := Ground.phase }, { on := 45, ground := Ground.phase }, { on := 46, ground := Ground.phase }, { on := 47, ground := Ground.phase }, { on := 48, ground := Ground.phase }, { on := 49, ground := Ground.phase }, { on := 50, ground := Ground.phase }, { on := 51, ground := Ground.phase }, { on := 52, ground := Ground.phase }, { on := 53, ground := Ground.phase }, { on := 54, ground := Ground.phase }, { on := 55, ground := Ground.phase }, { on := 56, ground := Ground.phase }, { on := 57, ground := Ground.phase }, { on := 58, ground := Ground.phase }, { on := 59, ground := Ground.phase }, { on := 60, ground := Ground.phase }, { on := 61, ground := Ground.phase }, { on := 62, ground := Ground.phase }, { on := 63, ground := Ground.phase }, { on := 64, ground := Ground.phase }, { on := 65, ground := Ground.phase }]).toArray, guard := none }) (v := .bool true) rfl (by kernel_rfl) (by kernel_rfl) (by kernel_rfl) (fun _ _ _ h => h) (Or.inl ⟨by rfl, by intro w_ hSw; (try dsimp only at hSw); go_simp⟩) (by assumption) ?_
  try simp only [Act.put, List.setIfInBounds_toArray, List.set_cons_zero, List.set_cons_succ]
  refine wpAnyH_done (by kernel_rfl) ?_ _
  go_wp2
  go_ret
  exact ⟨rfl, HB.out⟩
end Go.Proofs.YtcgjaobbjeagoaaDoor
