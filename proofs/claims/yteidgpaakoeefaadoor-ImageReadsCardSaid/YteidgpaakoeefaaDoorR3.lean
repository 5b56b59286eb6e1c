/- Taken together by a program of mine: what the proof names, out of the texts of this seat (its words as the print wrote them), part 3. -/
import Derived.Test.YteidgpaakoeefaaDoorR2
import Derived.Recover
import Derived.Defers
import Derived.WalkLawsBesides
import Derived.Lib.Strings
namespace Go.Proofs.YteidgpaakoeefaaDoor
open Go.RowKit Go.Proofs.YteidgpaakoeefaaDoorW.PrintWords Go.Proofs.YteidgpaakoeefaaDoorW.PrintLast Go.Proofs.YteidgpaakoeefaaDoorW.PrintMore
set_option linter.unusedVariables false
set_option linter.unusedSimpArgs false
open PIm
theorem rdT_rng {l : List Int} {i j : Int} {x : ByteArray} (hb : ∀ x ∈ l, 0 ≤ x ∧ x < 256) (h : rdT l i = some (x, j)) : 0 ≤ j ∧ j ≤ (l.length : Int) := by
  have hr := tk_range l i 9 (by decide) (by decide) hb
  unfold rdT rtF at h
  generalize tk l i 9 = t at h hr
  obtain ⟨z, p, e⟩ := t
  simp only [] at h hr
  by_cases h1 : e ≠ 0
  · rw [if_pos h1, if_neg h1] at h; cases h
  rw [if_neg h1] at h
  by_cases h2 : 65536 < z
  · rw [if_pos h2, if_neg (by decide)] at h; cases h
  rw [if_neg h2] at h
  by_cases h3 : (l.length : Int) - p < z
  · rw [if_pos h3, if_neg (by decide)] at h; cases h
  rw [if_neg h3, if_pos rfl] at h
  injection h with h; injection h with _ h
  have h4 : p + z = j := h
  omega
theorem rdRow_len {α : Type} {one : Int → Option (α × Int)} : ∀ (n : Nat) (i : Int) (r : List α) (j : Int), rdRow one n i = some (r, j) → r.length = n
  | 0, i, r, j, h => by unfold rdRow at h; injection h with h; injection h with h _; rw [← h]; rfl
  | n + 1, i, r, j, h => by
    unfold rdRow at h
    rcases h1 : one i with _ | ⟨a, i1⟩
    · rw [h1] at h; cases h
    rw [h1, Option.bind_some] at h
    rcases h2 : rdRow one n i1 with _ | ⟨b, i2⟩
    · rw [h2] at h; cases h
    rw [h2, Option.bind_some] at h
    injection h with h; injection h with h _
    rw [← h, List.length_cons, rdRow_len n i1 b i2 h2]
theorem rdRows_len {α : Type} {one : Int → Option (α × Int)} {most : Int} {l : List Int} {i : Int} {r : List α} {j : Int} (hb : ∀ x ∈ l, 0 ≤ x ∧ x < 256) (h : rdRows one most l i = some (r, j)) : (r.length : Int) ≤ most := by
  unfold rdRows at h
  rcases h1 : rdN l i with _ | ⟨a, i1⟩
  · rw [h1] at h; cases h
  rw [h1, Option.bind_some] at h
  split at h
  · cases h
  · next hm =>
    have := rdRow_len _ _ _ _ h
    have := (rdN_val hb h1).1
    have hm2 : ¬ most < a := hm
    have e : r.length = a.toNat := by assumption
    omega
def rdF (l : List Int) (i : Int) : Option (S54 × Int) :=
  (rdT l i).bind fun a => (rdRows (rdN l) 8 l a.2).bind fun b => (rdN l b.2).bind fun n => (rdRows (rdN l) 32 l n.2).bind fun m => (rdRows (rdC l) 32768 l m.2).bind fun d => some (⟨a.1, b.1, n.1, b.1 ++ m.1, d.1⟩, d.2)
theorem rdF_rng {l : List Int} {i j : Int} {x : S54} (hb : ∀ x ∈ l, 0 ≤ x ∧ x < 256) (h : rdF l i = some (x, j)) : 0 ≤ j ∧ j ≤ (l.length : Int) := by
  unfold rdF at h
  rcases h1 : rdT l i with _ | ⟨a, i1⟩
  · rw [h1] at h; cases h
  rw [h1, Option.bind_some] at h
  rcases h2 : rdRows (rdN l) 8 l i1 with _ | ⟨b, i2⟩
  · rw [h2] at h; cases h
  rw [h2, Option.bind_some] at h
  rcases h3 : rdN l i2 with _ | ⟨n, i3⟩
  · rw [h3] at h; cases h
  rw [h3, Option.bind_some] at h
  rcases h4 : rdRows (rdN l) 32 l i3 with _ | ⟨m, i4⟩
  · rw [h4] at h; cases h
  rw [h4, Option.bind_some] at h
  rcases h5 : rdRows (rdC l) 32768 l i4 with _ | ⟨d, i5⟩
  · rw [h5] at h; cases h
  rw [h5, Option.bind_some] at h
  injection h with h; injection h with _ h
  rw [← h]; exact rdRows_rng hb (fun i x j _ h => rdC_rng hb h) h5
set_option maxHeartbeats 4000000 in
set_option maxRecDepth 100000 in
theorem rd_fn (B : Nat) (A : Option Addr) (c : Nat) (l : List Int) (i : Int) (w : World) (hb : RdB w B A l.length c i)
    (hr : ∀ W', Kept w W' (fun k => k = B) → Kd.C (Kd.int .u8) W' A l.length l) (hc : l.length ≤ c) (hbt : ∀ x ∈ l, 0 ≤ x ∧ x < 256) (hl : l.length ≤ 140737488355318) (h1 : 0 ≤ i) (h2 : i ≤ l.length) :
    Calls Tryd.prog 45 #[.pointer (some ⟨B, 0, none⟩)] w fun e w' => Rp w w' B A l.length c (rdF l i) (fun W y u => ∃ A1 c1 A3 c3 A4 c4, u = .agg #[.string y.f0, .slice A1 y.f1.length c1, .int .i64 y.f2, .slice A3 y.f3.length c3, .slice A4 y.f4.length c4] ∧ Kd.R (Kd.int .i64) 3 W w.heap.size (fun k => w.heap.size ≤ k) (.slice A1 y.f1.length c1) y.f1 ∧ Kd.R (Kd.int .i64) 3 W w.heap.size (fun k => w.heap.size ≤ k) (.slice A3 y.f3.length c3) y.f3 ∧ Kd.R k50 50 W w.heap.size (fun k => w.heap.size ≤ k) (.slice A4 y.f4.length c4) y.f4) e := by
  obtain ⟨R, hR⟩ : ∃ R, R = rdF l i := ⟨_, rfl⟩
  rw [← hR]
  have HRR := Aside0.mk hR; have RB := Aside0.mk hb; have HC := Aside0.mk hr; have HCC := Aside0.mk hc; have HBT := Aside0.mk hbt; have HL := Aside0.mk hl; have HI := Aside0.mk (And.intro h1 h2)
  have HBw : Aside0 (B < w.heap.size) := ⟨blk_lt RB.out⟩
  have HK : Aside0 (Kp w w (fun k => k = B)) := ⟨Kp.refl _ _⟩
  clear hR hb hr hc hbt hl h1 h2
  go_enter Tryd.func45, Tryd.ntmps45
  go_wp2_with (first | ((with_reducible refine gate_dst (N := 2) rfl ?_); refine box_event ?hg (N := 2) ?hd (cs := #[.string (⟨#[]⟩ : ByteArray), .slice none 0 0, .int .i64 0, .slice none 0 0, .slice none 0 0]) (t := 54) ?hr ?_; (case hd => rfl); (case hg => rfl); (case hr => first | (go_simp; done) | (go_simp; rfl)); intro g hg_ W1 hbox_ hb_; have GEg := Aside0.mk (by rw [hg_]; exact HK.out.1 : w.heap.size ≤ g); have NBg : Aside0 (g ≠ B) := ⟨(by rw [hg_]; exact Ne.symm (Nat.ne_of_lt (blk_lt RB.out)))⟩; clear hg_; have n_ := Aside0.mk (show RdB W1 B A l.length c i from blk_below RB.out hb_); clear RB; have RB := n_; clear n_; have n_ := Aside0.mk (Kp.below HK.out hb_); clear HK; have HK := n_; clear n_; have BKg := Aside0.mk hbox_; clear hbox_ hb_; have hcg_0 : W1.cell? ⟨g, 0, none⟩ = some (.string (⟨#[]⟩ : ByteArray)) := (blk_cell BKg.out 0).trans rfl; have hfg_0 := blk_frozen BKg.out 0; have hcg_1 : W1.cell? ⟨g, 1, none⟩ = some (.slice none 0 0) := (blk_cell BKg.out 1).trans rfl; have hfg_1 := blk_frozen BKg.out 1; have hcg_2 : W1.cell? ⟨g, 2, none⟩ = some (.int .i64 0) := (blk_cell BKg.out 2).trans rfl; have hfg_2 := blk_frozen BKg.out 2; have hcg_3 : W1.cell? ⟨g, 3, none⟩ = some (.slice none 0 0) := (blk_cell BKg.out 3).trans rfl; have hfg_3 := blk_frozen BKg.out 3; have hcg_4 : W1.cell? ⟨g, 4, none⟩ = some (.slice none 0 0) := (blk_cell BKg.out 4).trans rfl; have hfg_4 := blk_frozen BKg.out 4))
  refine (rd_text B A c l i _ RB.out (HC.out _ HK.out.kept) HCC.out HBT.out HL.out (by have := HI.out; omega) (by have := HI.out; have := HL.out; omega)).mono ?_
  rintro e_ W2 ⟨hk_, h_⟩
  rcases hR0 : rdT l i with _ | ⟨x0, i1⟩
  · rw [hR0] at h_
    obtain ⟨m_, rfl⟩ := h_
    have HK2 := Aside0.mk (HK.out.then_ hk_ (fun _ h => .inl h)); have HX := Aside0.mk hR0
    clear hk_ hR0
    go_wp2
    rw [show R = none from HRR.out.trans (by simp only [rdF, HX.out, Option.bind_some, Option.bind_none])]
    exact ⟨rfl, HK2.out, m_, rfl⟩
  rw [hR0] at h_
  obtain ⟨⟨v0, rfl, hv0⟩, hb2_⟩ := h_
  obtain rfl := hv0
  have HX0 := Aside0.mk hR0; have n_ := Aside0.mk (rdT_rng HBT.out hR0); clear HI; have HI := n_; clear n_ hR0
  have n_ := Aside0.mk (blk_kept BKg.out hk_.kept NBg.out); clear BKg; have BKg := n_; clear n_
  clear hcg_0 hfg_0
  clear hcg_1 hfg_1
  clear hcg_2 hfg_2
  clear hcg_3 hfg_3
  clear hcg_4 hfg_4
  have n_ := Aside0.mk (HK.out.then_ hk_ (fun _ h => .inl h)); clear HK RB; have HK := n_; have RB := Aside0.mk hb2_; clear n_ hk_ hb2_
  have hcg_0 : W2.cell? ⟨g, 0, none⟩ = some (.string (⟨#[]⟩ : ByteArray)) := (blk_cell BKg.out 0).trans rfl
  have hfg_0 := blk_frozen BKg.out 0
  have hcg_1 : W2.cell? ⟨g, 1, none⟩ = some (.slice none 0 0) := (blk_cell BKg.out 1).trans rfl
  have hfg_1 := blk_frozen BKg.out 1
  have hcg_2 : W2.cell? ⟨g, 2, none⟩ = some (.int .i64 0) := (blk_cell BKg.out 2).trans rfl
  have hfg_2 := blk_frozen BKg.out 2
  have hcg_3 : W2.cell? ⟨g, 3, none⟩ = some (.slice none 0 0) := (blk_cell BKg.out 3).trans rfl
  have hfg_3 := blk_frozen BKg.out 3
  have hcg_4 : W2.cell? ⟨g, 4, none⟩ = some (.slice none 0 0) := (blk_cell BKg.out 4).trans rfl
  have hfg_4 := blk_frozen BKg.out 4
  go_wp2_with fail
  have n_ : Aside0 ((W2.setCell ⟨g, 0, none⟩ (.string x0)).heap[g]? = some (.cells #[.string x0, .slice none 0 0, .int .i64 0, .slice none 0 0, .slice none 0 0] 54 (0, 0))) := ⟨by refine blk_put (cs := #[.string (⟨#[]⟩ : ByteArray), .slice none 0 0, .int .i64 0, .slice none 0 0, .slice none 0 0]) ?_ 0 _ rfl; exact BKg.out⟩
  have m_ : Aside0 (RdB (W2.setCell ⟨g, 0, none⟩ (.string x0)) B A l.length c i1) := ⟨(blk_far RB.out NBg.out.symm _)⟩; have o_ : Aside0 (Kp w (W2.setCell ⟨g, 0, none⟩ (.string x0)) (fun k => k = B)) := ⟨(Kp.setCell (p := ⟨g, 0, none⟩) HK.out (.inr GEg.out) _)⟩
  clear BKg RB HK; have BKg := n_; have RB := m_; have HK := o_; clear n_ m_ o_
  clear hcg_0 hfg_0
  clear hcg_1 hfg_1
  clear hcg_2 hfg_2
  clear hcg_3 hfg_3
  clear hcg_4 hfg_4
  generalize (W2.setCell ⟨g, 0, none⟩ (.string x0)) = W3 at *
  have hcg_0 : W3.cell? ⟨g, 0, none⟩ = some (.string x0) := (blk_cell BKg.out 0).trans rfl
  have hfg_0 := blk_frozen BKg.out 0
  have hcg_1 : W3.cell? ⟨g, 1, none⟩ = some (.slice none 0 0) := (blk_cell BKg.out 1).trans rfl
  have hfg_1 := blk_frozen BKg.out 1
  have hcg_2 : W3.cell? ⟨g, 2, none⟩ = some (.int .i64 0) := (blk_cell BKg.out 2).trans rfl
  have hfg_2 := blk_frozen BKg.out 2
  have hcg_3 : W3.cell? ⟨g, 3, none⟩ = some (.slice none 0 0) := (blk_cell BKg.out 3).trans rfl
  have hfg_3 := blk_frozen BKg.out 3
  have hcg_4 : W3.cell? ⟨g, 4, none⟩ = some (.slice none 0 0) := (blk_cell BKg.out 4).trans rfl
  have hfg_4 := blk_frozen BKg.out 4
  go_wp2_with fail
  refine (rd_rows_int B A c l i1 8 _ ⟨by decide, by decide⟩ RB.out (fun W' hk_ => HC.out W' (Kept.then_ HK.out.kept hk_ (fun _ h => .inl h))) HCC.out HBT.out HL.out HI.out.1 HI.out.2).mono ?_
  rintro e_ W4 ⟨hk_, h_⟩
  rcases hR1 : rdRows (rdN l) 8 l i1 with _ | ⟨x1, i2⟩
  · rw [hR1] at h_
    obtain ⟨m_, rfl⟩ := h_
    have HK2 := Aside0.mk (HK.out.then_ hk_ (fun _ h => .inl h)); have HX := Aside0.mk hR1
    clear hk_ hR1
    go_wp2
    rw [show R = none from HRR.out.trans (by simp only [rdF, HX0.out, HX.out, Option.bind_some, Option.bind_none])]
    exact ⟨rfl, HK2.out, m_, rfl⟩
  rw [hR1] at h_
  obtain ⟨⟨v1, rfl, hv1⟩, hb2_⟩ := h_
  obtain ⟨A1_, c1_, rfl⟩ := Kd.R_slice hv1
  have HO1_ := Aside0.mk (Kd.R_mono (Kd.R_lower hv1 HK.out.1) (fun k_ h_ => (Nat.le_trans HK.out.1 h_ : w.heap.size ≤ k_))); clear hv1
  have HX1 := Aside0.mk hR1; have n_ := Aside0.mk (rdRows_rng HBT.out (fun i x j _ h => rdN_rng HBT.out h) hR1); clear HI; have HI := n_; clear n_ hR1
  have n_ := Aside0.mk (blk_kept BKg.out hk_.kept NBg.out); clear BKg; have BKg := n_; clear n_
  clear hcg_0 hfg_0
  clear hcg_1 hfg_1
  clear hcg_2 hfg_2
  clear hcg_3 hfg_3
  clear hcg_4 hfg_4
  have HO1 := HO1_; clear HO1_
  have n_ := Aside0.mk (HK.out.then_ hk_ (fun _ h => .inl h)); clear HK RB; have HK := n_; have RB := Aside0.mk hb2_; clear n_ hk_ hb2_
  have hcg_0 : W4.cell? ⟨g, 0, none⟩ = some (.string x0) := (blk_cell BKg.out 0).trans rfl
  have hfg_0 := blk_frozen BKg.out 0
  have hcg_1 : W4.cell? ⟨g, 1, none⟩ = some (.slice none 0 0) := (blk_cell BKg.out 1).trans rfl
  have hfg_1 := blk_frozen BKg.out 1
  have hcg_2 : W4.cell? ⟨g, 2, none⟩ = some (.int .i64 0) := (blk_cell BKg.out 2).trans rfl
  have hfg_2 := blk_frozen BKg.out 2
  have hcg_3 : W4.cell? ⟨g, 3, none⟩ = some (.slice none 0 0) := (blk_cell BKg.out 3).trans rfl
  have hfg_3 := blk_frozen BKg.out 3
  have hcg_4 : W4.cell? ⟨g, 4, none⟩ = some (.slice none 0 0) := (blk_cell BKg.out 4).trans rfl
  have hfg_4 := blk_frozen BKg.out 4
  go_wp2_with fail
  have n_ : Aside0 ((W4.setCell ⟨g, 1, none⟩ (.slice A1_ x1.length c1_)).heap[g]? = some (.cells #[.string x0, .slice A1_ x1.length c1_, .int .i64 0, .slice none 0 0, .slice none 0 0] 54 (0, 0))) := ⟨by refine blk_put (cs := #[.string x0, .slice none 0 0, .int .i64 0, .slice none 0 0, .slice none 0 0]) ?_ 1 _ rfl; exact BKg.out⟩
  have m_ : Aside0 (RdB (W4.setCell ⟨g, 1, none⟩ (.slice A1_ x1.length c1_)) B A l.length c i2) := ⟨(blk_far RB.out NBg.out.symm _)⟩; have o_ : Aside0 (Kp w (W4.setCell ⟨g, 1, none⟩ (.slice A1_ x1.length c1_)) (fun k => k = B)) := ⟨(Kp.setCell (p := ⟨g, 1, none⟩) HK.out (.inr GEg.out) _)⟩
  have q_ : Aside0 (Kd.R (Kd.int .i64) 3 (W4.setCell ⟨g, 1, none⟩ (.slice A1_ x1.length c1_)) w.heap.size (fun k => w.heap.size ≤ k) (.slice A1_ x1.length c1_) x1) := ⟨(Kd.R_set HO1.out BKg.out (by decide) 1 _)⟩; clear HO1; have HO1 := q_; clear q_
  clear BKg RB HK; have BKg := n_; have RB := m_; have HK := o_; clear n_ m_ o_
  clear hcg_0 hfg_0
  clear hcg_1 hfg_1
  clear hcg_2 hfg_2
  clear hcg_3 hfg_3
  clear hcg_4 hfg_4
  generalize (W4.setCell ⟨g, 1, none⟩ (.slice A1_ x1.length c1_)) = W5 at *
  have hcg_0 : W5.cell? ⟨g, 0, none⟩ = some (.string x0) := (blk_cell BKg.out 0).trans rfl
  have hfg_0 := blk_frozen BKg.out 0
  have hcg_1 : W5.cell? ⟨g, 1, none⟩ = some (.slice A1_ x1.length c1_) := (blk_cell BKg.out 1).trans rfl
  have hfg_1 := blk_frozen BKg.out 1
  have hcg_2 : W5.cell? ⟨g, 2, none⟩ = some (.int .i64 0) := (blk_cell BKg.out 2).trans rfl
  have hfg_2 := blk_frozen BKg.out 2
  have hcg_3 : W5.cell? ⟨g, 3, none⟩ = some (.slice none 0 0) := (blk_cell BKg.out 3).trans rfl
  have hfg_3 := blk_frozen BKg.out 3
  have hcg_4 : W5.cell? ⟨g, 4, none⟩ = some (.slice none 0 0) := (blk_cell BKg.out 4).trans rfl
  have hfg_4 := blk_frozen BKg.out 4
  go_wp2_with fail
  refine (rd_nat B A c l i2 _ RB.out (HC.out _ HK.out.kept) HCC.out HBT.out HL.out (by have := HI.out; omega) (by have := HI.out; have := HL.out; omega)).mono ?_
  rintro e_ W6 ⟨hk_, h_⟩
  rcases hR2 : rdN l i2 with _ | ⟨x2, i3⟩
  · rw [hR2] at h_
    obtain ⟨m_, rfl⟩ := h_
    have HK2 := Aside0.mk (HK.out.then_ hk_ (fun _ h => .inl h)); have HX := Aside0.mk hR2
    clear hk_ hR2
    go_wp2
    rw [show R = none from HRR.out.trans (by simp only [rdF, HX0.out, HX1.out, HX.out, Option.bind_some, Option.bind_none])]
    exact ⟨rfl, HK2.out, m_, rfl⟩
  rw [hR2] at h_
  obtain ⟨⟨v2, rfl, hv2⟩, hb2_⟩ := h_
  obtain rfl := hv2
  have HX2 := Aside0.mk hR2; have n_ := Aside0.mk (rdN_rng HBT.out hR2); clear HI; have HI := n_; clear n_ hR2
  have n_ := Aside0.mk (blk_kept BKg.out hk_.kept NBg.out); clear BKg; have BKg := n_; clear n_
  clear hcg_0 hfg_0
  clear hcg_1 hfg_1
  clear hcg_2 hfg_2
  clear hcg_3 hfg_3
  clear hcg_4 hfg_4
  have n_ := Aside0.mk (Kd.R_kept HO1.out hk_.kept (fun k_ h_ e_ => by have := HBw.out; omega)); clear HO1; have HO1 := n_; clear n_
  have n_ := Aside0.mk (HK.out.then_ hk_ (fun _ h => .inl h)); clear HK RB; have HK := n_; have RB := Aside0.mk hb2_; clear n_ hk_ hb2_
  have hcg_0 : W6.cell? ⟨g, 0, none⟩ = some (.string x0) := (blk_cell BKg.out 0).trans rfl
  have hfg_0 := blk_frozen BKg.out 0
  have hcg_1 : W6.cell? ⟨g, 1, none⟩ = some (.slice A1_ x1.length c1_) := (blk_cell BKg.out 1).trans rfl
  have hfg_1 := blk_frozen BKg.out 1
  have hcg_2 : W6.cell? ⟨g, 2, none⟩ = some (.int .i64 0) := (blk_cell BKg.out 2).trans rfl
  have hfg_2 := blk_frozen BKg.out 2
  have hcg_3 : W6.cell? ⟨g, 3, none⟩ = some (.slice none 0 0) := (blk_cell BKg.out 3).trans rfl
  have hfg_3 := blk_frozen BKg.out 3
  have hcg_4 : W6.cell? ⟨g, 4, none⟩ = some (.slice none 0 0) := (blk_cell BKg.out 4).trans rfl
  have hfg_4 := blk_frozen BKg.out 4
  go_wp2_with fail
  have n_ : Aside0 ((W6.setCell ⟨g, 2, none⟩ (.int .i64 x2)).heap[g]? = some (.cells #[.string x0, .slice A1_ x1.length c1_, .int .i64 x2, .slice none 0 0, .slice none 0 0] 54 (0, 0))) := ⟨by refine blk_put (cs := #[.string x0, .slice A1_ x1.length c1_, .int .i64 0, .slice none 0 0, .slice none 0 0]) ?_ 2 _ rfl; exact BKg.out⟩
  have m_ : Aside0 (RdB (W6.setCell ⟨g, 2, none⟩ (.int .i64 x2)) B A l.length c i3) := ⟨(blk_far RB.out NBg.out.symm _)⟩; have o_ : Aside0 (Kp w (W6.setCell ⟨g, 2, none⟩ (.int .i64 x2)) (fun k => k = B)) := ⟨(Kp.setCell (p := ⟨g, 2, none⟩) HK.out (.inr GEg.out) _)⟩
  have q_ : Aside0 (Kd.R (Kd.int .i64) 3 (W6.setCell ⟨g, 2, none⟩ (.int .i64 x2)) w.heap.size (fun k => w.heap.size ≤ k) (.slice A1_ x1.length c1_) x1) := ⟨(Kd.R_set HO1.out BKg.out (by decide) 2 _)⟩; clear HO1; have HO1 := q_; clear q_
  clear BKg RB HK; have BKg := n_; have RB := m_; have HK := o_; clear n_ m_ o_
  clear hcg_0 hfg_0
  clear hcg_1 hfg_1
  clear hcg_2 hfg_2
  clear hcg_3 hfg_3
  clear hcg_4 hfg_4
  generalize (W6.setCell ⟨g, 2, none⟩ (.int .i64 x2)) = W7 at *
  have hcg_0 : W7.cell? ⟨g, 0, none⟩ = some (.string x0) := (blk_cell BKg.out 0).trans rfl
  have hfg_0 := blk_frozen BKg.out 0
  have hcg_1 : W7.cell? ⟨g, 1, none⟩ = some (.slice A1_ x1.length c1_) := (blk_cell BKg.out 1).trans rfl
  have hfg_1 := blk_frozen BKg.out 1
  have hcg_2 : W7.cell? ⟨g, 2, none⟩ = some (.int .i64 x2) := (blk_cell BKg.out 2).trans rfl
  have hfg_2 := blk_frozen BKg.out 2
  have hcg_3 : W7.cell? ⟨g, 3, none⟩ = some (.slice none 0 0) := (blk_cell BKg.out 3).trans rfl
  have hfg_3 := blk_frozen BKg.out 3
  have hcg_4 : W7.cell? ⟨g, 4, none⟩ = some (.slice none 0 0) := (blk_cell BKg.out 4).trans rfl
  have hfg_4 := blk_frozen BKg.out 4
  go_wp2_with fail
  obtain ⟨hm1_, HMx⟩ : Aside0 ((x1.length : Int) ≤ 8) ∧ True := ⟨⟨rdRows_len HBT.out HX1.out⟩, trivial⟩; clear HMx
  go_region_with (first | (go_at_call 71; refine (rd_rows_int B A c l i3 32 _ ⟨by decide, by decide⟩ ?rb_ ?hc_ HCC.out HBT.out HL.out HI.out.1 HI.out.2).mono ?_; (case rb_ => exact RB.out); (case hc_ => exact fun W' hk_ => HC.out W' (Kept.then_ HK.out.kept hk_ (fun _ h => .inl h))); rintro e_ W8 ⟨hk_, h_⟩; rcases hR3 : rdRows (rdN l) 32 l i3 with _ | ⟨x3, i4⟩; (focus (rw [hR3] at h_; obtain ⟨m_, rfl⟩ := h_; have HX := Aside0.mk hR3; have HK2 := Aside0.mk (Kp.then_ HK.out hk_ (fun _ h => .inl h)); clear hk_ hR3; go_wp2; rw [show R = none from HRR.out.trans (by simp only [rdF, HX0.out, HX1.out, HX2.out, HX.out, Option.bind_some, Option.bind_none])]; exact ⟨rfl, HK2.out, m_, rfl⟩)); rw [hR3] at h_; obtain ⟨⟨v3, rfl, hv3⟩, hb2_⟩ := h_; obtain ⟨A3_, c3_, rfl⟩ := Kd.R_slice hv3; have HO3 := Aside0.mk (Kd.R_mono (Kd.R_lower hv3 HK.out.1) (fun k_ h_ => (Nat.le_trans HK.out.1 h_ : w.heap.size ≤ k_))); clear hv3; have HX3 := Aside0.mk hR3; have HI4 := Aside0.mk (rdRows_rng HBT.out (fun i x j _ h => rdN_rng HBT.out h) hR3); have hm3_ := Aside0.mk (rdRows_len HBT.out hR3); clear hR3; have n_ := Aside0.mk (blk_kept (show _ from by first | exact BKg.out | exact blk_drew BKg.out) hk_.kept NBg.out); clear BKg; have BKg := n_; clear n_; (try clear hcg_0); (try clear hfg_0); (try clear hcg_1); (try clear hfg_1); (try clear hcg_2); (try clear hfg_2); (try clear hcg_3); (try clear hfg_3); (try clear hcg_4); (try clear hfg_4); have n_ := Aside0.mk (Kd.R_kept HO1.out hk_.kept (fun k_ h_ e_ => by have := HBw.out; omega)); clear HO1; have HO1 := n_; clear n_; have n_ := Aside0.mk (Kp.then_ HK.out hk_ (fun _ h => .inl h)); clear HK RB; have HK := n_; have RB := Aside0.mk hb2_; clear n_ hb2_ hk_; have hcg_0 : W8.cell? ⟨g, 0, none⟩ = some (.string x0) := (blk_cell BKg.out 0).trans rfl; have hcg_1 : W8.cell? ⟨g, 1, none⟩ = some (.slice A1_ x1.length c1_) := (blk_cell BKg.out 1).trans rfl; have hcg_2 : W8.cell? ⟨g, 2, none⟩ = some (.int .i64 x2) := (blk_cell BKg.out 2).trans rfl; have hcg_3 : W8.cell? ⟨g, 3, none⟩ = some (.slice none 0 0) := (blk_cell BKg.out 3).trans rfl; have hcg_4 : W8.cell? ⟨g, 4, none⟩ = some (.slice none 0 0) := (blk_cell BKg.out 4).trans rfl; have hfg_0 := blk_frozen BKg.out 0; have hfg_1 := blk_frozen BKg.out 1; have hfg_2 := blk_frozen BKg.out 2; have hfg_3 := blk_frozen BKg.out 3; have hfg_4 := blk_frozen BKg.out 4) | (go_at_call 72; (with_reducible show Calls _ _ _ (World.alloc W8 (.cells #[.slice A1_ x1.length c1_, .slice A3_ x3.length c3_] 52 (0, 0))) _); refine (concatI_two W8.heap.size A1_ A3_ c1_ c3_ x1 x3 _ ((blk_cell (blk_new W8 _) 0).trans rfl) ((blk_cell (blk_new W8 _) 1).trans rfl) (Kd.C_kept_own (S := fun _ => False) HO1.out (fun _ _ h => h) _ (Kept.alloc (Kept.refl _ _) _)) (Kd.C_kept_own (S := fun _ => False) HO3.out (fun _ _ h => h) _ (Kept.alloc (Kept.refl _ _) _)) (by have := hm1_.out; have := hm3_.out; omega)).mono ?_; rintro e_ W9 ⟨v4, rfl, hv4, hb_⟩; obtain ⟨y5, hy5⟩ : ∃ y, y = x1 ++ x3 := ⟨_, rfl⟩; rw [← hy5] at hv4; have HY5 := Aside0.mk hy5; clear hy5; obtain ⟨A5_, c5_, rfl⟩ := Kd.R_slice hv4; have HO5 := Aside0.mk (Kd.R_mono (ok' := fun k_ => w.heap.size ≤ k_) (Kd.R_lower (base' := w.heap.size) (Kd.R_bound hv4) (Nat.le_trans HK.out.1 (below_alloc (Below.refl W8.heap.size W8) _).size)) (fun k_ h_ => Nat.le_trans (Nat.le_trans HK.out.1 (below_alloc (Below.refl W8.heap.size W8) _).size) h_.2.1)); clear hv4; have n_ := Aside0.mk (blk_below (g := g) (blk_alloc (show _ from by first | exact BKg.out | exact blk_drew BKg.out) _) hb_); clear BKg; have BKg := n_; clear n_; (try clear hcg_0); (try clear hfg_0); (try clear hcg_1); (try clear hfg_1); (try clear hcg_2); (try clear hfg_2); (try clear hcg_3); (try clear hfg_3); (try clear hcg_4); (try clear hfg_4); have n_ := Aside0.mk (Kd.R_below (Kd.R_below HO1.out (below_alloc (Below.refl _ _) _)) hb_); clear HO1; have HO1 := n_; clear n_; have n_ := Aside0.mk (Kd.R_below (Kd.R_below HO3.out (below_alloc (Below.refl _ _) _)) hb_); clear HO3; have HO3 := n_; clear n_; have n_ := Aside0.mk (Kp.below (Kp.alloc HK.out _) hb_); have m_ := Aside0.mk (show RdB W9 B A l.length c i4 from blk_below (blk_alloc RB.out _) hb_); clear HK RB; have HK := n_; have RB := m_; clear n_ m_ hb_; have hcg_0 : W9.cell? ⟨g, 0, none⟩ = some (.string x0) := (blk_cell BKg.out 0).trans rfl; have hcg_1 : W9.cell? ⟨g, 1, none⟩ = some (.slice A1_ x1.length c1_) := (blk_cell BKg.out 1).trans rfl; have hcg_2 : W9.cell? ⟨g, 2, none⟩ = some (.int .i64 x2) := (blk_cell BKg.out 2).trans rfl; have hcg_3 : W9.cell? ⟨g, 3, none⟩ = some (.slice none 0 0) := (blk_cell BKg.out 3).trans rfl; have hcg_4 : W9.cell? ⟨g, 4, none⟩ = some (.slice none 0 0) := (blk_cell BKg.out 4).trans rfl; have hfg_0 := blk_frozen BKg.out 0; have hfg_1 := blk_frozen BKg.out 1; have hfg_2 := blk_frozen BKg.out 2; have hfg_3 := blk_frozen BKg.out 3; have hfg_4 := blk_frozen BKg.out 4))
  all_goals
    clear HI; have HI := HI4; clear HI4
    have n_ : Aside0 ((W9.setCell ⟨g, 3, none⟩ (.slice A5_ y5.length c5_)).heap[g]? = some (.cells #[.string x0, .slice A1_ x1.length c1_, .int .i64 x2, .slice A5_ y5.length c5_, .slice none 0 0] 54 (0, 0))) := ⟨by refine blk_put (cs := #[.string x0, .slice A1_ x1.length c1_, .int .i64 x2, .slice none 0 0, .slice none 0 0]) ?_ 3 _ rfl; exact BKg.out⟩
    have m_ : Aside0 (RdB (W9.setCell ⟨g, 3, none⟩ (.slice A5_ y5.length c5_)) B A l.length c i4) := ⟨(blk_far RB.out NBg.out.symm _)⟩; have o_ : Aside0 (Kp w (W9.setCell ⟨g, 3, none⟩ (.slice A5_ y5.length c5_)) (fun k => k = B)) := ⟨(Kp.setCell (p := ⟨g, 3, none⟩) HK.out (.inr GEg.out) _)⟩
    have q_ : Aside0 (Kd.R (Kd.int .i64) 3 (W9.setCell ⟨g, 3, none⟩ (.slice A5_ y5.length c5_)) w.heap.size (fun k => w.heap.size ≤ k) (.slice A1_ x1.length c1_) x1) := ⟨(Kd.R_set HO1.out BKg.out (by decide) 3 _)⟩; clear HO1; have HO1 := q_; clear q_
    have q_ : Aside0 (Kd.R (Kd.int .i64) 3 (W9.setCell ⟨g, 3, none⟩ (.slice A5_ y5.length c5_)) w.heap.size (fun k => w.heap.size ≤ k) (.slice A5_ y5.length c5_) y5) := ⟨(Kd.R_set HO5.out BKg.out (by decide) 3 _)⟩; clear HO5; have HO5 := q_; clear q_
    clear BKg RB HK; have BKg := n_; have RB := m_; have HK := o_; clear n_ m_ o_
    clear hcg_0 hfg_0
    clear hcg_1 hfg_1
    clear hcg_2 hfg_2
    clear hcg_3 hfg_3
    clear hcg_4 hfg_4
    generalize (W9.setCell ⟨g, 3, none⟩ (.slice A5_ y5.length c5_)) = W10 at *
    have hcg_0 : W10.cell? ⟨g, 0, none⟩ = some (.string x0) := (blk_cell BKg.out 0).trans rfl
    have hfg_0 := blk_frozen BKg.out 0
    have hcg_1 : W10.cell? ⟨g, 1, none⟩ = some (.slice A1_ x1.length c1_) := (blk_cell BKg.out 1).trans rfl
    have hfg_1 := blk_frozen BKg.out 1
    have hcg_2 : W10.cell? ⟨g, 2, none⟩ = some (.int .i64 x2) := (blk_cell BKg.out 2).trans rfl
    have hfg_2 := blk_frozen BKg.out 2
    have hcg_3 : W10.cell? ⟨g, 3, none⟩ = some (.slice A5_ y5.length c5_) := (blk_cell BKg.out 3).trans rfl
    have hfg_3 := blk_frozen BKg.out 3
    have hcg_4 : W10.cell? ⟨g, 4, none⟩ = some (.slice none 0 0) := (blk_cell BKg.out 4).trans rfl
    have hfg_4 := blk_frozen BKg.out 4
    go_wp2_with fail
    refine (rd_rows_ins B A c l i4 32768 _ ⟨by decide, by decide⟩ RB.out (fun W' hk_ => HC.out W' (Kept.then_ HK.out.kept hk_ (fun _ h => .inl h))) HCC.out HBT.out HL.out HI.out.1 HI.out.2).mono ?_
    rintro e_ W11 ⟨hk_, h_⟩
    rcases hR4 : rdRows (rdC l) 32768 l i4 with _ | ⟨x4, i5⟩
    · rw [hR4] at h_
      obtain ⟨m_, rfl⟩ := h_
      have HK2 := Aside0.mk (HK.out.then_ hk_ (fun _ h => .inl h)); have HX := Aside0.mk hR4
      clear hk_ hR4
      go_wp2
      rw [show R = none from HRR.out.trans (by simp only [rdF, HX0.out, HX1.out, HX2.out, HX3.out, HX.out, Option.bind_some, Option.bind_none])]
      exact ⟨rfl, HK2.out, m_, rfl⟩
    rw [hR4] at h_
    obtain ⟨⟨v4, rfl, hv4⟩, hb2_⟩ := h_
    obtain ⟨A4_, c4_, rfl⟩ := Kd.R_slice hv4
    have HO4_ := Aside0.mk (Kd.R_mono (Kd.R_lower hv4 HK.out.1) (fun k_ h_ => (Nat.le_trans HK.out.1 h_ : w.heap.size ≤ k_))); clear hv4
    have HX4 := Aside0.mk hR4; have n_ := Aside0.mk (rdRows_rng HBT.out (fun i x j _ h => rdC_rng HBT.out h) hR4); clear HI; have HI := n_; clear n_ hR4
    have n_ := Aside0.mk (blk_kept BKg.out hk_.kept NBg.out); clear BKg; have BKg := n_; clear n_
    clear hcg_0 hfg_0
    clear hcg_1 hfg_1
    clear hcg_2 hfg_2
    clear hcg_3 hfg_3
    clear hcg_4 hfg_4
    have n_ := Aside0.mk (Kd.R_kept HO1.out hk_.kept (fun k_ h_ e_ => by have := HBw.out; omega)); clear HO1; have HO1 := n_; clear n_
    have n_ := Aside0.mk (Kd.R_kept HO5.out hk_.kept (fun k_ h_ e_ => by have := HBw.out; omega)); clear HO5; have HO5 := n_; clear n_
    have HO4 := HO4_; clear HO4_
    have n_ := Aside0.mk (HK.out.then_ hk_ (fun _ h => .inl h)); clear HK RB; have HK := n_; have RB := Aside0.mk hb2_; clear n_ hk_ hb2_
    have hcg_0 : W11.cell? ⟨g, 0, none⟩ = some (.string x0) := (blk_cell BKg.out 0).trans rfl
    have hfg_0 := blk_frozen BKg.out 0
    have hcg_1 : W11.cell? ⟨g, 1, none⟩ = some (.slice A1_ x1.length c1_) := (blk_cell BKg.out 1).trans rfl
    have hfg_1 := blk_frozen BKg.out 1
    have hcg_2 : W11.cell? ⟨g, 2, none⟩ = some (.int .i64 x2) := (blk_cell BKg.out 2).trans rfl
    have hfg_2 := blk_frozen BKg.out 2
    have hcg_3 : W11.cell? ⟨g, 3, none⟩ = some (.slice A5_ y5.length c5_) := (blk_cell BKg.out 3).trans rfl
    have hfg_3 := blk_frozen BKg.out 3
    have hcg_4 : W11.cell? ⟨g, 4, none⟩ = some (.slice none 0 0) := (blk_cell BKg.out 4).trans rfl
    have hfg_4 := blk_frozen BKg.out 4
    go_wp2_with fail
    have n_ : Aside0 ((W11.setCell ⟨g, 4, none⟩ (.slice A4_ x4.length c4_)).heap[g]? = some (.cells #[.string x0, .slice A1_ x1.length c1_, .int .i64 x2, .slice A5_ y5.length c5_, .slice A4_ x4.length c4_] 54 (0, 0))) := ⟨by refine blk_put (cs := #[.string x0, .slice A1_ x1.length c1_, .int .i64 x2, .slice A5_ y5.length c5_, .slice none 0 0]) ?_ 4 _ rfl; exact BKg.out⟩
    have m_ : Aside0 (RdB (W11.setCell ⟨g, 4, none⟩ (.slice A4_ x4.length c4_)) B A l.length c i5) := ⟨(blk_far RB.out NBg.out.symm _)⟩; have o_ : Aside0 (Kp w (W11.setCell ⟨g, 4, none⟩ (.slice A4_ x4.length c4_)) (fun k => k = B)) := ⟨(Kp.setCell (p := ⟨g, 4, none⟩) HK.out (.inr GEg.out) _)⟩
    have q_ : Aside0 (Kd.R (Kd.int .i64) 3 (W11.setCell ⟨g, 4, none⟩ (.slice A4_ x4.length c4_)) w.heap.size (fun k => w.heap.size ≤ k) (.slice A1_ x1.length c1_) x1) := ⟨(Kd.R_set HO1.out BKg.out (by decide) 4 _)⟩; clear HO1; have HO1 := q_; clear q_
    have q_ : Aside0 (Kd.R (Kd.int .i64) 3 (W11.setCell ⟨g, 4, none⟩ (.slice A4_ x4.length c4_)) w.heap.size (fun k => w.heap.size ≤ k) (.slice A5_ y5.length c5_) y5) := ⟨(Kd.R_set HO5.out BKg.out (by decide) 4 _)⟩; clear HO5; have HO5 := q_; clear q_
    have q_ : Aside0 (Kd.R k50 50 (W11.setCell ⟨g, 4, none⟩ (.slice A4_ x4.length c4_)) w.heap.size (fun k => w.heap.size ≤ k) (.slice A4_ x4.length c4_) x4) := ⟨(Kd.R_set HO4.out BKg.out (by decide) 4 _)⟩; clear HO4; have HO4 := q_; clear q_
    clear BKg RB HK; have BKg := n_; have RB := m_; have HK := o_; clear n_ m_ o_
    clear hcg_0 hfg_0
    clear hcg_1 hfg_1
    clear hcg_2 hfg_2
    clear hcg_3 hfg_3
    clear hcg_4 hfg_4
    generalize (W11.setCell ⟨g, 4, none⟩ (.slice A4_ x4.length c4_)) = W12 at *
    have hcg_0 : W12.cell? ⟨g, 0, none⟩ = some (.string x0) := (blk_cell BKg.out 0).trans rfl
    have hfg_0 := blk_frozen BKg.out 0
    have hcg_1 : W12.cell? ⟨g, 1, none⟩ = some (.slice A1_ x1.length c1_) := (blk_cell BKg.out 1).trans rfl
    have hfg_1 := blk_frozen BKg.out 1
    have hcg_2 : W12.cell? ⟨g, 2, none⟩ = some (.int .i64 x2) := (blk_cell BKg.out 2).trans rfl
    have hfg_2 := blk_frozen BKg.out 2
    have hcg_3 : W12.cell? ⟨g, 3, none⟩ = some (.slice A5_ y5.length c5_) := (blk_cell BKg.out 3).trans rfl
    have hfg_3 := blk_frozen BKg.out 3
    have hcg_4 : W12.cell? ⟨g, 4, none⟩ = some (.slice A4_ x4.length c4_) := (blk_cell BKg.out 4).trans rfl
    have hfg_4 := blk_frozen BKg.out 4
    go_wp2_with fail
    have n_ : Aside0 ((((((W12.setCell ⟨g, 0, none⟩ (.string x0)).setCell ⟨g, 1, none⟩ (.slice A1_ x1.length c1_)).setCell ⟨g, 2, none⟩ (.int .i64 x2)).setCell ⟨g, 3, none⟩ (.slice A5_ y5.length c5_)).setCell ⟨g, 4, none⟩ (.slice A4_ x4.length c4_)).heap[g]? = some (.cells #[.string x0, .slice A1_ x1.length c1_, .int .i64 x2, .slice A5_ y5.length c5_, .slice A4_ x4.length c4_] 54 (0, 0))) := ⟨by refine blk_put (cs := #[.string x0, .slice A1_ x1.length c1_, .int .i64 x2, .slice A5_ y5.length c5_, .slice A4_ x4.length c4_]) ?_ 4 _ rfl; refine blk_put (cs := #[.string x0, .slice A1_ x1.length c1_, .int .i64 x2, .slice A5_ y5.length c5_, .slice A4_ x4.length c4_]) ?_ 3 _ rfl; refine blk_put (cs := #[.string x0, .slice A1_ x1.length c1_, .int .i64 x2, .slice A5_ y5.length c5_, .slice A4_ x4.length c4_]) ?_ 2 _ rfl; refine blk_put (cs := #[.string x0, .slice A1_ x1.length c1_, .int .i64 x2, .slice A5_ y5.length c5_, .slice A4_ x4.length c4_]) ?_ 1 _ rfl; refine blk_put (cs := #[.string x0, .slice A1_ x1.length c1_, .int .i64 x2, .slice A5_ y5.length c5_, .slice A4_ x4.length c4_]) ?_ 0 _ rfl; exact BKg.out⟩
    have m_ : Aside0 (RdB (((((W12.setCell ⟨g, 0, none⟩ (.string x0)).setCell ⟨g, 1, none⟩ (.slice A1_ x1.length c1_)).setCell ⟨g, 2, none⟩ (.int .i64 x2)).setCell ⟨g, 3, none⟩ (.slice A5_ y5.length c5_)).setCell ⟨g, 4, none⟩ (.slice A4_ x4.length c4_)) B A l.length c i5) := ⟨(blk_far (blk_far (blk_far (blk_far (blk_far RB.out NBg.out.symm _) NBg.out.symm _) NBg.out.symm _) NBg.out.symm _) NBg.out.symm _)⟩; have o_ : Aside0 (Kp w (((((W12.setCell ⟨g, 0, none⟩ (.string x0)).setCell ⟨g, 1, none⟩ (.slice A1_ x1.length c1_)).setCell ⟨g, 2, none⟩ (.int .i64 x2)).setCell ⟨g, 3, none⟩ (.slice A5_ y5.length c5_)).setCell ⟨g, 4, none⟩ (.slice A4_ x4.length c4_)) (fun k => k = B)) := ⟨(Kp.setCell (p := ⟨g, 4, none⟩) (Kp.setCell (p := ⟨g, 3, none⟩) (Kp.setCell (p := ⟨g, 2, none⟩) (Kp.setCell (p := ⟨g, 1, none⟩) (Kp.setCell (p := ⟨g, 0, none⟩) HK.out (.inr GEg.out) _) (.inr GEg.out) _) (.inr GEg.out) _) (.inr GEg.out) _) (.inr GEg.out) _)⟩
    have q_ : Aside0 (Kd.R (Kd.int .i64) 3 (((((W12.setCell ⟨g, 0, none⟩ (.string x0)).setCell ⟨g, 1, none⟩ (.slice A1_ x1.length c1_)).setCell ⟨g, 2, none⟩ (.int .i64 x2)).setCell ⟨g, 3, none⟩ (.slice A5_ y5.length c5_)).setCell ⟨g, 4, none⟩ (.slice A4_ x4.length c4_)) w.heap.size (fun k => w.heap.size ≤ k) (.slice A1_ x1.length c1_) x1) := ⟨(Kd.R_set (Kd.R_set (Kd.R_set (Kd.R_set (Kd.R_set HO1.out BKg.out (by decide) 0 _) (blk_put (cs := #[.string x0, .slice A1_ x1.length c1_, .int .i64 x2, .slice A5_ y5.length c5_, .slice A4_ x4.length c4_]) BKg.out 0 _ rfl) (by decide) 1 _) (blk_put (cs := #[.string x0, .slice A1_ x1.length c1_, .int .i64 x2, .slice A5_ y5.length c5_, .slice A4_ x4.length c4_]) (blk_put (cs := #[.string x0, .slice A1_ x1.length c1_, .int .i64 x2, .slice A5_ y5.length c5_, .slice A4_ x4.length c4_]) BKg.out 0 _ rfl) 1 _ rfl) (by decide) 2 _) (blk_put (cs := #[.string x0, .slice A1_ x1.length c1_, .int .i64 x2, .slice A5_ y5.length c5_, .slice A4_ x4.length c4_]) (blk_put (cs := #[.string x0, .slice A1_ x1.length c1_, .int .i64 x2, .slice A5_ y5.length c5_, .slice A4_ x4.length c4_]) (blk_put (cs := #[.string x0, .slice A1_ x1.length c1_, .int .i64 x2, .slice A5_ y5.length c5_, .slice A4_ x4.length c4_]) BKg.out 0 _ rfl) 1 _ rfl) 2 _ rfl) (by decide) 3 _) (blk_put (cs := #[.string x0, .slice A1_ x1.length c1_, .int .i64 x2, .slice A5_ y5.length c5_, .slice A4_ x4.length c4_]) (blk_put (cs := #[.string x0, .slice A1_ x1.length c1_, .int .i64 x2, .slice A5_ y5.length c5_, .slice A4_ x4.length c4_]) (blk_put (cs := #[.string x0, .slice A1_ x1.length c1_, .int .i64 x2, .slice A5_ y5.length c5_, .slice A4_ x4.length c4_]) (blk_put (cs := #[.string x0, .slice A1_ x1.length c1_, .int .i64 x2, .slice A5_ y5.length c5_, .slice A4_ x4.length c4_]) BKg.out 0 _ rfl) 1 _ rfl) 2 _ rfl) 3 _ rfl) (by decide) 4 _)⟩; clear HO1; have HO1 := q_; clear q_
    have q_ : Aside0 (Kd.R (Kd.int .i64) 3 (((((W12.setCell ⟨g, 0, none⟩ (.string x0)).setCell ⟨g, 1, none⟩ (.slice A1_ x1.length c1_)).setCell ⟨g, 2, none⟩ (.int .i64 x2)).setCell ⟨g, 3, none⟩ (.slice A5_ y5.length c5_)).setCell ⟨g, 4, none⟩ (.slice A4_ x4.length c4_)) w.heap.size (fun k => w.heap.size ≤ k) (.slice A5_ y5.length c5_) y5) := ⟨(Kd.R_set (Kd.R_set (Kd.R_set (Kd.R_set (Kd.R_set HO5.out BKg.out (by decide) 0 _) (blk_put (cs := #[.string x0, .slice A1_ x1.length c1_, .int .i64 x2, .slice A5_ y5.length c5_, .slice A4_ x4.length c4_]) BKg.out 0 _ rfl) (by decide) 1 _) (blk_put (cs := #[.string x0, .slice A1_ x1.length c1_, .int .i64 x2, .slice A5_ y5.length c5_, .slice A4_ x4.length c4_]) (blk_put (cs := #[.string x0, .slice A1_ x1.length c1_, .int .i64 x2, .slice A5_ y5.length c5_, .slice A4_ x4.length c4_]) BKg.out 0 _ rfl) 1 _ rfl) (by decide) 2 _) (blk_put (cs := #[.string x0, .slice A1_ x1.length c1_, .int .i64 x2, .slice A5_ y5.length c5_, .slice A4_ x4.length c4_]) (blk_put (cs := #[.string x0, .slice A1_ x1.length c1_, .int .i64 x2, .slice A5_ y5.length c5_, .slice A4_ x4.length c4_]) (blk_put (cs := #[.string x0, .slice A1_ x1.length c1_, .int .i64 x2, .slice A5_ y5.length c5_, .slice A4_ x4.length c4_]) BKg.out 0 _ rfl) 1 _ rfl) 2 _ rfl) (by decide) 3 _) (blk_put (cs := #[.string x0, .slice A1_ x1.length c1_, .int .i64 x2, .slice A5_ y5.length c5_, .slice A4_ x4.length c4_]) (blk_put (cs := #[.string x0, .slice A1_ x1.length c1_, .int .i64 x2, .slice A5_ y5.length c5_, .slice A4_ x4.length c4_]) (blk_put (cs := #[.string x0, .slice A1_ x1.length c1_, .int .i64 x2, .slice A5_ y5.length c5_, .slice A4_ x4.length c4_]) (blk_put (cs := #[.string x0, .slice A1_ x1.length c1_, .int .i64 x2, .slice A5_ y5.length c5_, .slice A4_ x4.length c4_]) BKg.out 0 _ rfl) 1 _ rfl) 2 _ rfl) 3 _ rfl) (by decide) 4 _)⟩; clear HO5; have HO5 := q_; clear q_
    have q_ : Aside0 (Kd.R k50 50 (((((W12.setCell ⟨g, 0, none⟩ (.string x0)).setCell ⟨g, 1, none⟩ (.slice A1_ x1.length c1_)).setCell ⟨g, 2, none⟩ (.int .i64 x2)).setCell ⟨g, 3, none⟩ (.slice A5_ y5.length c5_)).setCell ⟨g, 4, none⟩ (.slice A4_ x4.length c4_)) w.heap.size (fun k => w.heap.size ≤ k) (.slice A4_ x4.length c4_) x4) := ⟨(Kd.R_set (Kd.R_set (Kd.R_set (Kd.R_set (Kd.R_set HO4.out BKg.out (by decide) 0 _) (blk_put (cs := #[.string x0, .slice A1_ x1.length c1_, .int .i64 x2, .slice A5_ y5.length c5_, .slice A4_ x4.length c4_]) BKg.out 0 _ rfl) (by decide) 1 _) (blk_put (cs := #[.string x0, .slice A1_ x1.length c1_, .int .i64 x2, .slice A5_ y5.length c5_, .slice A4_ x4.length c4_]) (blk_put (cs := #[.string x0, .slice A1_ x1.length c1_, .int .i64 x2, .slice A5_ y5.length c5_, .slice A4_ x4.length c4_]) BKg.out 0 _ rfl) 1 _ rfl) (by decide) 2 _) (blk_put (cs := #[.string x0, .slice A1_ x1.length c1_, .int .i64 x2, .slice A5_ y5.length c5_, .slice A4_ x4.length c4_]) (blk_put (cs := #[.string x0, .slice A1_ x1.length c1_, .int .i64 x2, .slice A5_ y5.length c5_, .slice A4_ x4.length c4_]) (blk_put (cs := #[.string x0, .slice A1_ x1.length c1_, .int .i64 x2, .slice A5_ y5.length c5_, .slice A4_ x4.length c4_]) BKg.out 0 _ rfl) 1 _ rfl) 2 _ rfl) (by decide) 3 _) (blk_put (cs := #[.string x0, .slice A1_ x1.length c1_, .int .i64 x2, .slice A5_ y5.length c5_, .slice A4_ x4.length c4_]) (blk_put (cs := #[.string x0, .slice A1_ x1.length c1_, .int .i64 x2, .slice A5_ y5.length c5_, .slice A4_ x4.length c4_]) (blk_put (cs := #[.string x0, .slice A1_ x1.length c1_, .int .i64 x2, .slice A5_ y5.length c5_, .slice A4_ x4.length c4_]) (blk_put (cs := #[.string x0, .slice A1_ x1.length c1_, .int .i64 x2, .slice A5_ y5.length c5_, .slice A4_ x4.length c4_]) BKg.out 0 _ rfl) 1 _ rfl) 2 _ rfl) 3 _ rfl) (by decide) 4 _)⟩; clear HO4; have HO4 := q_; clear q_
    clear BKg RB HK; have BKg := n_; have RB := m_; have HK := o_; clear n_ m_ o_
    clear hcg_0 hfg_0
    clear hcg_1 hfg_1
    clear hcg_2 hfg_2
    clear hcg_3 hfg_3
    clear hcg_4 hfg_4
    generalize (((((W12.setCell ⟨g, 0, none⟩ (.string x0)).setCell ⟨g, 1, none⟩ (.slice A1_ x1.length c1_)).setCell ⟨g, 2, none⟩ (.int .i64 x2)).setCell ⟨g, 3, none⟩ (.slice A5_ y5.length c5_)).setCell ⟨g, 4, none⟩ (.slice A4_ x4.length c4_)) = W13 at *
    have hcg_0 : W13.cell? ⟨g, 0, none⟩ = some (.string x0) := (blk_cell BKg.out 0).trans rfl
    have hfg_0 := blk_frozen BKg.out 0
    have hcg_1 : W13.cell? ⟨g, 1, none⟩ = some (.slice A1_ x1.length c1_) := (blk_cell BKg.out 1).trans rfl
    have hfg_1 := blk_frozen BKg.out 1
    have hcg_2 : W13.cell? ⟨g, 2, none⟩ = some (.int .i64 x2) := (blk_cell BKg.out 2).trans rfl
    have hfg_2 := blk_frozen BKg.out 2
    have hcg_3 : W13.cell? ⟨g, 3, none⟩ = some (.slice A5_ y5.length c5_) := (blk_cell BKg.out 3).trans rfl
    have hfg_3 := blk_frozen BKg.out 3
    have hcg_4 : W13.cell? ⟨g, 4, none⟩ = some (.slice A4_ x4.length c4_) := (blk_cell BKg.out 4).trans rfl
    have hfg_4 := blk_frozen BKg.out 4
    refine bodyPost_ret (results_cell_row rfl _ _ g 54 #[.string x0, .slice A1_ x1.length c1_, .int .i64 x2, .slice A5_ y5.length c5_, .slice A4_ x4.length c4_] (0, 0) _ rfl BKg.out Tryd.underlying54 rfl (by kernel_rfl)) rfl ?_
    rw [show R = some (⟨x0, x1, x2, y5, x4⟩, i5) from HRR.out.trans (by simp only [HY5.out, rdF, Option.bind_some, HX0.out, HX1.out, HX2.out, HX3.out, HX4.out])]
    exact ⟨HK.out, ⟨_, rfl, A1_, c1_, A5_, c5_, A4_, c4_, rfl, HO1.out, HO5.out, HO4.out⟩, RB.out⟩
end Go.Proofs.YteidgpaakoeefaaDoor
namespace Go.Proofs.YteidgpaakoeefaaDoor
open Go.RowKit Go.Proofs.YteidgpaakoeefaaDoorW.PrintWords Go.Proofs.YteidgpaakoeefaaDoorW.PrintLast Go.Proofs.YteidgpaakoeefaaDoorW.PrintMore
set_option linter.unusedVariables false
set_option linter.unusedSimpArgs false
open PIm
set_option maxHeartbeats 4000000 in
set_option maxRecDepth 100000 in
theorem rd_rows_fn (B : Nat) (A : Option Addr) (c : Nat) (l : List Int) (i most : Int) (w : World) (hm : 0 ≤ most ∧ most ≤ 32768) (hb : RdB w B A l.length c i)
    (hr : ∀ W', Kept w W' (fun k => k = B) → Kd.C (Kd.int .u8) W' A l.length l) (hc : l.length ≤ c) (hbt : ∀ x ∈ l, 0 ≤ x ∧ x < 256) (hl : l.length ≤ 140737488355318) (h1 : 0 ≤ i) (h2 : i ≤ l.length) :
    Calls Tryd.prog 44 #[.pointer (some ⟨B, 0, none⟩), .int .i64 most, .func (.func 45) #[.pointer (some ⟨B, 0, none⟩)] #[]] w fun e w' => Rp w w' B A l.length c (rdRows (rdF l) most l i) (fun W y u => Kd.S k54 54 W w.heap.size (fun k => w.heap.size ≤ k) u y) e := by
  obtain ⟨R, hR⟩ : ∃ R, R = rdRows (rdF l) most l i := ⟨_, rfl⟩
  rw [← hR]
  have HRR := Aside0.mk hR; have RB := Aside0.mk hb; have HC := Aside0.mk hr; have HCC := Aside0.mk hc; have HBT := Aside0.mk hbt; have HL := Aside0.mk hl; have HI := Aside0.mk (And.intro h1 h2); have HM := Aside0.mk hm
  have HBw : Aside0 (B < w.heap.size) := ⟨blk_lt hb⟩
  have hcall := rd_nat B A c l i w hb (hr w (Kept.refl _ _)) hc hbt hl (by omega) (by omega)
  clear hR hb hr hc hbt hl h1 h2 hm
  go_enter Tryd.func44, Tryd.ntmps44
  go_wp2_with fail
  refine hcall.mono ?_
  clear hcall
  rintro e_ W1 ⟨hk_, h_⟩
  rcases hR0 : rdN l i with _ | ⟨n, i0⟩
  · rw [hR0] at h_
    obtain ⟨m_, rfl⟩ := h_
    have HK2 := Aside0.mk hk_; have HX := Aside0.mk hR0
    clear hk_ hR0
    go_wp2
    rw [show R = none from HRR.out.trans (by simp only [rdRows, Option.bind_none, HX.out])]
    exact ⟨rfl, HK2.out, m_, rfl⟩
  rw [hR0] at h_
  obtain ⟨⟨v0, rfl, hv0⟩, hb2_⟩ := h_
  obtain rfl := hv0
  have HX0 := Aside0.mk hR0; have HI0 := Aside0.mk (rdN_rng HBT.out hR0); have HN := Aside0.mk (rdN_val HBT.out hR0); have RB1 := Aside0.mk hb2_; have HK1 := Aside0.mk hk_
  clear hR0 hb2_ hk_ HI RB
  by_cases hlt : most < n
  · have d1 : decide (most < n) = true := decide_eq_true hlt
    have HLT := Aside0.mk hlt
    clear hlt
    go_wp2
    rw [show R = none from HRR.out.trans (by simp only [rdRows, Option.bind_some, HX0.out]; rw [if_pos HLT.out])]
    exact ⟨rfl, HK1.out, _, rfl⟩
  have d1 : decide (most < n) = false := decide_eq_false hlt
  have HR2 : Aside0 (R = rdRow (rdF l) n.toNat i0) := ⟨HRR.out.trans (by simp only [rdRows, Option.bind_some, HX0.out]; rw [if_neg hlt])⟩
  have HLT := Aside0.mk hlt
  clear hlt HRR HX0
  go_wp2_with fail
  go_loopw [8, 16] (fun vb vi wr => ∃ (k : Nat) (done : List S54) (ik : Int), vi = .int .i64 k ∧ Aside0 (k ≤ n.toNat ∧ done.length = k) ∧ Aside0 (R = (rdRow (rdF l) (n.toNat - k) ik).map fun b => (done ++ b.1, b.2)) ∧ Aside0 (0 ≤ ik ∧ ik ≤ (l.length : Int)) ∧ Aside0 (Kd.S k54 54 wr w.heap.size (fun k_ => w.heap.size ≤ k_) vb done) ∧ Aside0 (RdB wr B A l.length c ik) ∧ Aside0 (Kp w wr (fun k_ => k_ = B))) (fun _ v _ => n.toNat - (intOf v).toNat)
  case atStart => exact ⟨0, [], i0, rfl, ⟨Nat.zero_le _, rfl⟩, ⟨HR2.out.trans (by simp)⟩, HI0, ⟨Kd.S_nil _ _ _ _ _⟩, RB1, HK1⟩
  case round =>
    obtain ⟨k, done, ik, rfl, HKN, HRk, HIr, HO, RBr, HKr⟩ := hrel
    have hk := HKN.out
    have hnn := HN.out
    by_cases hlt : k < n.toNat
    · have z1 : decide ((k : Int) < n) = true := decide_eq_true (by omega)
      have HLT := Aside0.mk hlt
      have hcall := (rd_fn B A c l ik wr RBr.out (fun W' hk_ => HC.out W' (Kept.then_ HKr.out.kept hk_ (fun _ h => .inl h))) HCC.out HBT.out HL.out HIr.out.1 HIr.out.2)
      have HLT2 := Aside0.mk (fun k_ => own_lt (Kd.S_own HO.out).choose_spec k_)
      obtain ⟨Ao_, co_, hvo_⟩ := Kd.S_slice HO.out
      subst hvo_
      clear hlt hk hnn
      go_wp2_with fail
      refine hcall.mono ?_
      clear hcall
      rintro e_ W2 ⟨hk_, h_⟩
      rcases hR1 : rdF l ik with _ | ⟨x, i2⟩
      · rw [hR1] at h_
        obtain ⟨m_, rfl⟩ := h_
        have HK2 := Aside0.mk (HKr.out.then_ hk_ (fun _ h => .inl h)); have HX := Aside0.mk hR1
        clear hk_ hR1
        go_wp2
        rw [show R = none from (by
          have e1 := HRk.out
          rw [show n.toNat - k = (n.toNat - (k + 1)) + 1 by have := HLT.out; omega, rdRow, HX.out] at e1
          exact e1)]
        exact ⟨rfl, HK2.out, m_, rfl⟩
      rw [hR1] at h_
      obtain ⟨⟨v0, rfl, hv0⟩, hb2_⟩ := h_
      obtain ⟨A1_, c1_, A3_, c3_, A4_, c4_, rfl, hm1_, hm3_, hm4_⟩ := hv0
      have HM1_ := Aside0.mk hm1_; have HM3_ := Aside0.mk hm3_; have HM4_ := Aside0.mk hm4_; clear hm1_ hm3_ hm4_
      have HX1 := Aside0.mk hR1; have HI2 := Aside0.mk (rdF_rng HBT.out hR1); have RB2 := Aside0.mk hb2_; have HK2 := Aside0.mk (HKr.out.then_ hk_ (fun _ h => .inl h))
      have HO2 := Aside0.mk (Kd.S_kept (Kd.S_mono (ok' := fun k_ => w.heap.size ≤ k_ ∧ ¬ wr.heap.size ≤ k_) (Kd.S_bound HO.out) (fun k_ h_ => ⟨h_.1, by have := h_.2.2.1; omega⟩)) hk_.kept (fun k_ h_ e_ => by have := HBw.out; have := h_.1; omega))
      have HB2 := Aside0.mk hk_.1
      clear hR1 hb2_ hk_
      go_wp2_with (((with_reducible refine gate_builtin (b := .append) (xs := #[.tmp 18, .tmp 21]) rfl ?_); at_builtin; refine Kd.S_append k54 (w0 := W2) w.heap.size rfl (.tmp 18) (.tmp 21) 23 54 (.agg #[(.string ⟨#[]⟩), (.slice none 0 0), (.int .i64 0), (.slice none 0 0), (.slice none 0 0)]) 96 rfl Tryd.underlying23 info54 rfl (by decide) (by omega) (.slice Ao_ done.length co_) done x [.string x.f0, .slice A1_ x.f1.length c1_, .int .i64 x.f2, .slice A3_ x.f3.length c3_, .slice A4_ x.f4.length c4_] (fun k_ => w.heap.size ≤ k_) (fun k => wr.heap.size ≤ k) rfl rfl ?aP ?aK ?aF ?aO ?aB ?aS ?aL ?_; (case aP => exact k54_mkM _ _ _ x (Kd.R_lower HM1_.out HKr.out.1) (Kd.R_lower HM3_.out HKr.out.1) (Kd.R_lower HM4_.out HKr.out.1)); (case aK => exact fun k_ h_ => ⟨Nat.le_trans HKr.out.1 h_, fun e_ => by have := HLT2.out k_ e_.symm; omega⟩); (case aF => exact fun k_ h_ => Nat.le_trans HK2.out.1 h_); (case aO => exact HO2.out); (case aB => exact Below.refl _ _); (case aS => exact HK2.out.1); (case aL => have h1_ := HKN.out; have h2_ := HLT.out; have h3_ := HM.out; have h4_ := HN.out; have h5_ : ¬ most < n := of_decide_eq_false d1; omega); intro v1 w1 hR1 hb1 hg1 hat1))
      have HO3 := Aside0.mk hR1
      have hlt_ : B < W2.heap.size := Nat.lt_of_lt_of_le HBw.out HK2.out.1
      have hne_ : ∀ k_, (Value.slice Ao_ done.length co_).ownBlock = some k_ → w.heap.size ≤ k_ := fun k_ h_ => Kd.S_base HO2.out k_ h_
      have HK3 : Aside0 (Kp w w1 (fun k_ => k_ = B)) := ⟨Kp.of_grown hg1 HK2.out (fun k_ h_ => .inr (hne_ k_ h_))⟩
      have RB3 : Aside0 (RdB w1 B A l.length c i2) := ⟨(hg1.block B hlt_ (fun e_ => by have := hne_ B e_.symm; have := HBw.out; omega)).trans RB2.out⟩
      clear hR1 hb1 hg1 hat1 hlt_ hne_
      have hkn_ : (k : Int) + 1 ≤ 9223372036854775807 := by have := HLT.out; have := HN.out; omega
      have HKNX := Aside0.mk hkn_
      clear hkn_
      go_wp2
      rw [w64_succ k HKNX.out]
      exact ⟨⟨k + 1, done ++ [x], i2, rfl, ⟨HLT.out, by rw [List.length_append, HKN.out.2]; rfl⟩, ⟨by
          have e1 := HRk.out
          rw [show n.toNat - k = (n.toNat - (k + 1)) + 1 by have := HLT.out; omega, rdRow, HX1.out, Option.bind_some] at e1
          rw [e1]
          cases rdRow (rdF l) (n.toNat - (k + 1)) i2 with
          | none => rfl
          | some b => simp [List.append_assoc]⟩, HI2, HO3, RB3, HK3⟩, by have := HLT.out; simp only [intOf, Int.toNat_natCast]; omega⟩
    · have z1 : decide ((k : Int) < n) = false := decide_eq_false (by omega)
      have HLT := Aside0.mk hlt
      clear hlt hk hnn
      go_wp2
      go_ret
      rw [show R = some (done, ik) from by
        have e1 := HRk.out
        rw [show n.toNat - k = 0 by have := HLT.out; omega, rdRow] at e1
        rw [e1]; simp]
      exact ⟨HKr.out, ⟨_, rfl, HO.out⟩, RBr.out⟩
end Go.Proofs.YteidgpaakoeefaaDoor
namespace Go.Proofs.YteidgpaakoeefaaDoor
open Go.RowKit Go.Proofs.YteidgpaakoeefaaDoorW.PrintWords Go.Proofs.YteidgpaakoeefaaDoorW.PrintLast Go.Proofs.YteidgpaakoeefaaDoorW.PrintMore
set_option linter.unusedVariables false
set_option linter.unusedSimpArgs false
open PIm
theorem assert28 (m : Int) (W : World) : (Instr.typeAssert (.iface 28 (.int .i64 m)) 20 28 true).run Tryd.prog W = .ok (.tuple #[.int .i64 m, .bool true]) W := by kernel_rfl
set_option maxHeartbeats 2000000 in
set_option maxRecDepth 100000 in
theorem catch_idle (px pe : Nat) (w : World) :
    CallsD Tryd.prog 41 #[.pointer (some ⟨px, 0, none⟩), .pointer (some ⟨pe, 0, none⟩)] .returning w fun e u' w' => e = .returned (.tuple #[]) ∧ u' = .returning ∧ w' = w := by
  refine callsD_of_wpS Tryd.func41 rfl fun c₀ cs hu => ?_
  apply wpS_seq
  apply wpS_region
  simp [wpOpsS, go_sem, recoverD, hu, Tryd.ntmps41, Exit.thenS]
  refine wpS_of_wp ?_
  go_wp2
  cases c₀
  simp_all [bodyPostS, results, Tryd.results41]
set_option maxHeartbeats 2000000 in
set_option maxRecDepth 100000 in
theorem catch_panic (px pe : Nat) (m y : Int) (a b : Value) (older : List PanicEntry) (w : World) (hx : w.heap[px]? = some (.cells #[a, b] 25 (0, 0))) (he : w.heap[pe]? = some (.cells #[.int .i64 y] 28 (0, 0))) (hne : px ≠ pe) :
    CallsD Tryd.prog 41 #[.pointer (some ⟨px, 0, none⟩), .pointer (some ⟨pe, 0, none⟩)] (.panicking ({ v := .iface 28 (.int .i64 m), recovered := false } :: older)) w
      fun e u' w' => e = .returned (.tuple #[]) ∧ u' = .panicking ({ v := .iface 28 (.int .i64 m), recovered := true } :: older) ∧ w' = ((w.setCell ⟨px, 0, none⟩ (.slice none 0 0)).setCell ⟨px, 1, none⟩ (.slice none 0 0)).setCell ⟨pe, 0, none⟩ (.int .i64 150) := by
  have hc0 : w.cell? ⟨px, 0, none⟩ = some a := (blk_cell hx 0).trans rfl
  have hc1 : w.cell? ⟨px, 1, none⟩ = some b := (blk_cell hx 1).trans rfl
  have hc2 : w.cell? ⟨pe, 0, none⟩ = some (.int .i64 y) := (blk_cell he 0).trans rfl
  have hf0 := blk_frozen hx 0
  have hf1 := blk_frozen hx 1
  have hf2 := blk_frozen he 0
  have hta := assert28
  refine callsD_of_wpS Tryd.func41 rfl fun c₀ cs hu => ?_
  apply wpS_seq
  apply wpS_region
  simp [wpOpsS, go_sem, recoverD, hu, Tryd.ntmps41, Exit.thenS]
  refine wpS_of_wp ?_
  clear hx he hu
  go_wp2
  simp [bodyPostS, results, Tryd.results41]
end Go.Proofs.YteidgpaakoeefaaDoor
namespace Go.Proofs.YteidgpaakoeefaaDoor.PIm
open Go.RowKit Go.Proofs.YteidgpaakoeefaaDoorW.PrintWords Go.Proofs.YteidgpaakoeefaaDoorW.PrintLast Go.Proofs.YteidgpaakoeefaaDoorW.PrintMore
attribute [local go_sem] max2_int min2_int max_two min_two max_three min_three max_four min_four   -- for this text's walks alone
set_option linter.unusedVariables false
set_option linter.unusedSimpArgs false
def image_whole.f (l0 : List Int) (a1 : Int) : Option (List Int) := (wire_Int.f ([] : List Int) a1).bind fun t102 => (if l0.length + t102.length < 140737488355328 then (some (l0 ++ t102)) else (none))
set_option maxHeartbeats 8000000 in
set_option maxRecDepth 100000 in
theorem image_whole.calls (P0_ : Nat → Prop) (u9000_ : Value) (l0 : List Int) (a1 : Int) (r : List Int) (w0 w : World) (hB : Below w0.heap.size w0 w) (ho0 : Kd.R (Kd.int .u8) 5 w w0.heap.size P0_ u9000_ l0) (h : image_whole.f l0 a1 = some r) :
    Calls Tryd.prog 25 #[u9000_, .int .i64 a1] w fun e w' => ∃ v0_ : Value, e = .returned (v0_) ∧ Kd.R (Kd.int .u8) 5 w' w0.heap.size (fun k_ => (P0_ k_ ∨ w.heap.size ≤ k_)) v0_ r ∧ Below w0.heap.size w0 w' ∧ Kept w w' (fun k_ => P0_ k_) := by
  have HO0 := Aside0.mk (show Kd.R (Kd.int .u8) 5 w w0.heap.size (fun k_ => (P0_ k_ ∨ w.heap.size ≤ k_)) u9000_ l0 from Kd.R_mono ho0 (fun k_ hk => (.inl hk)))
  have HK := Aside0.mk (Kept.refl w (fun k_ => P0_ k_))
  have HW0 := Aside0.mk hB.size
  have HB := Aside0.mk hB
  clear hB
  have H : ((wire_Int.f ([] : List Int) a1).bind fun t102 => (if l0.length + t102.length < 140737488355328 then (some (l0 ++ t102)) else (none))) = some r := h
  clear h
  replace H := Option.bind_eq_some_iff.mp H
  obtain ⟨t102, A30, H⟩ := H
  replace H : (if l0.length + t102.length < 140737488355328 then (some (l0 ++ t102)) else (none)) = some r := H
  have A3 := Aside0.mk A30
  clear A30
  by_cases c4 : l0.length + t102.length < 140737488355328
  · rw [if_pos c4] at H
    have LMc4 := Aside0.mk c4
    clear c4
    obtain ⟨y105, hy105⟩ : ∃ y_ : List Int, y_ = (l0 ++ t102) := ⟨_, rfl⟩
    replace H : (some y105) = some r := by first | (rw [hy105]; with_reducible exact H) | (have H2_ := (Option.bind_some _ _).symm.trans H; rw [hy105]; with_reducible exact H2_) | (have H2_ := (Option.bind_some _ _).symm.trans H; with_reducible exact H2_) | with_reducible exact H | (rw [hy105]; exact H) | exact H
    have Ny105 := Aside0.mk hy105
    clear hy105
    obtain rfl := Option.some.inj H
    go_enter Tryd.func25, Tryd.ntmps25
    go_wp2_with (first | ((with_reducible refine gate_callee (f := 58) rfl ?_); refine goesL_ (some 7) rfl rfl Tryd.func58 (by kernel_rfl) rfl #[.slice none 0 0, .int .i64 a1] rfl (by (try simp only [List.map_toArray, List.map_cons, List.map_nil]); first | done | rfl | (simp only [List.length_drop, List.length_take]; rfl)) ?_; (refine (wire_Int.calls _ _ ([] : List Int) a1 t102 _ ?side1 ?side2 A3.out).mono ?_); (case side1 => exact Kd.C_nil _ _); (case side2 => exact Nat.le_refl _); rintro e w5 ⟨v103, rfl, ho0, hb⟩; refine ⟨_, rfl, ?_⟩; have n0_ := Aside0.mk (Kd.R_elder' (by (with_reducible repeat (first | apply Kd.R_alloc | apply Kd.R_drewN | apply Kd.R_drew)); exact HO0.out) (Kd.R_base ho0) hb); have n1_ := Aside0.mk (Kd.R_lower (Kd.R_new' (Kd.R_newM (M := fun k_ => (P0_ k_ ∨ w.heap.size ≤ k_)) ho0 (by first | exact HK.out.1 | exact (show Kept w _ (fun k_ => P0_ k_) from by repeat (first | (with_reducible first | exact HK.out | apply Kept.alloc | apply Kept.drewN | apply Kept.drew) | exact HK.out)).1) (fun k_ h_ => .inr h_)) (Kd.R_lt (by (with_reducible repeat (first | apply Kd.R_alloc | apply Kd.R_drewN | apply Kd.R_drew)); exact HO0.out))) (below_size (by repeat (first | (with_reducible first | exact HB.out | apply below_alloc | apply pw_below_drewN | apply below_drew1) | exact HB.out)))); have n2_ := Aside0.mk (Kept.below (S := (fun k_ => P0_ k_)) (by repeat (first | (with_reducible first | exact HK.out | apply Kept.alloc | apply Kept.drewN | apply Kept.drew) | exact HK.out)) hb); have n3_ := Aside0.mk (below_step (by repeat (first | (with_reducible first | exact HB.out | apply below_alloc | apply pw_below_drewN | apply below_drew1) | exact HB.out)) hb); clear HO0; clear HK; clear HB; have HO0 := n0_; have HO104 := n1_; have HK := n2_; have HB := n3_; clear n0_ n1_ n2_ n3_; (try clear hb); (try clear hb2); (try clear hk); (try clear hi); (try clear ho0); obtain ⟨Ao7, co7, eo7⟩ := Kd.R_slice HO104.out; subst eo7) | ((with_reducible refine gate_builtin (b := .append) (xs := #[.tmp 5, .tmp 7]) rfl ?_); at_builtin; refine Kd.R_append_rows (Kd.int .u8) (w0 := w0) w0.heap.size rfl (.tmp 5) (.tmp 7) 30 5 (.int .u8 0) 1 rfl Tryd.underlying30 info5 rfl (by decide) (by omega) u9000_ l0 t102 _ _ _ (fun k_ => (P0_ k_ ∨ w.heap.size ≤ k_) ∧ some k_ ≠ (.slice Ao7 t102.length co7 : Value).ownBlock) (fun _ => False) rfl rfl ?aO ?aR (fun _ _ h => h) (fun _ h => h.elim) ?aF ?aB ?aS ?aL ?_; (case aR => repeat (first | exact (Kd.R_reads' HO104.out).2.2 | (with_reducible refine Kd.C_alloc ?_ _) | (with_reducible refine Kd.C_drewN ?_ _) | (with_reducible refine Kd.C_drew ?_))); (case aB => exact (by repeat (first | (with_reducible first | exact HB.out | apply below_alloc | apply pw_below_drewN | apply below_drew1) | exact HB.out))); (case aF => exact (fun k_ hk => ⟨(.inr (Nat.le_trans (by first | exact HK.out.1 | exact (show Kept w _ (fun k_ => P0_ k_) from by repeat (first | (with_reducible first | exact HK.out | apply Kept.alloc | apply Kept.drewN | apply Kept.drew) | exact HK.out)).1) hk)), Kd.fresh' (Kd.R_lt (by (with_reducible repeat (first | apply Kd.R_alloc | apply Kd.R_drewN | apply Kd.R_drew)); exact HO104.out)) k_ hk⟩)); (case aO => exact (by (with_reducible repeat (first | apply Kd.R_alloc | apply Kd.R_drewN | apply Kd.R_drew)); exact HO0.out)); (case aS => exact (below_size (by repeat (first | (with_reducible first | exact HB.out | apply below_alloc | apply pw_below_drewN | apply below_drew1) | exact HB.out)))); (case aL => have := LMc4.out; omega); intro v106 w6 ho hb hg hat; rw [← Ny105.out] at ho; have n0_ := Aside0.mk (Kd.R_after (ok := (fun k_ => (P0_ k_ ∨ w.heap.size ≤ k_))) (by (with_reducible repeat (first | apply Kd.R_alloc | apply Kd.R_drewN | apply Kd.R_drew)); exact Kd.R_mono HO104.out (fun _ hk => ⟨hk.1.1, hk.2⟩)) hg hat); have n1_ := Aside0.mk (hb); have n2_ := Aside0.mk (Kept.of_grown (S := (fun k_ => P0_ k_)) hg (by repeat (first | (with_reducible first | exact HK.out | apply Kept.alloc | apply Kept.drewN | apply Kept.drew) | exact HK.out)) (fun k_ e_ => (HO0.out.1 k_ e_).1)); have n3_ := Aside0.mk (ho); clear HO104; clear HB; clear HK; clear HO0; have HO104 := n0_; have HB := n1_; have HK := n2_; have HO107 := n3_; clear n0_ n1_ n2_ n3_; clear ho hb hg hat))
    go_ret
    exact ⟨_, by first | rfl | (simp [errW_none, errW_some] <;> rfl) | (simp [*, errW_none, errW_some] <;> rfl), by (with_reducible repeat (first | apply Kd.R_alloc | apply Kd.R_drewN | apply Kd.R_drew)); exact Kd.R_mono HO107.out (fun _ hk => hk.1), by repeat (first | (with_reducible first | exact HB.out | apply below_alloc | apply pw_below_drewN | apply below_drew1) | exact HB.out), by repeat (first | (with_reducible first | exact HK.out | apply Kept.alloc | apply Kept.drewN | apply Kept.drew) | exact HK.out)⟩
  · rw [if_neg c4] at H
    exact absurd H (by simp)
def image_nat.f (l0 : List Int) (a1 : Int) : Option (List Int) := (wire_Num.f ([] : List Int) a1).bind fun bt108 => (if l0.length + bt108.1.length < 140737488355328 then (some (l0 ++ bt108.1)) else (none))
set_option maxHeartbeats 8000000 in
set_option maxRecDepth 100000 in
theorem image_nat.calls (P0_ : Nat → Prop) (u9000_ : Value) (l0 : List Int) (a1 : Int) (r : List Int) (w0 w : World) (hB : Below w0.heap.size w0 w) (ho0 : Kd.R (Kd.int .u8) 5 w w0.heap.size P0_ u9000_ l0) (h : image_nat.f l0 a1 = some r) :
    Calls Tryd.prog 26 #[u9000_, .int .i64 a1] w fun e w' => ∃ v0_ : Value, e = .returned (v0_) ∧ Kd.R (Kd.int .u8) 5 w' w0.heap.size (fun k_ => (P0_ k_ ∨ w.heap.size ≤ k_)) v0_ r ∧ Below w0.heap.size w0 w' ∧ Kept w w' (fun k_ => P0_ k_) := by
  have HO0 := Aside0.mk (show Kd.R (Kd.int .u8) 5 w w0.heap.size (fun k_ => (P0_ k_ ∨ w.heap.size ≤ k_)) u9000_ l0 from Kd.R_mono ho0 (fun k_ hk => (.inl hk)))
  have HK := Aside0.mk (Kept.refl w (fun k_ => P0_ k_))
  have HW0 := Aside0.mk hB.size
  have HB := Aside0.mk hB
  clear hB
  have H : ((wire_Num.f ([] : List Int) a1).bind fun bt108 => (if l0.length + bt108.1.length < 140737488355328 then (some (l0 ++ bt108.1)) else (none))) = some r := h
  clear h
  replace H := Option.bind_eq_some_iff.mp H
  obtain ⟨⟨t108, t109⟩, A30, H⟩ := H
  replace H : (if l0.length + t108.length < 140737488355328 then (some (l0 ++ t108)) else (none)) = some r := H
  have A3 := Aside0.mk A30
  clear A30
  by_cases c4 : l0.length + t108.length < 140737488355328
  · rw [if_pos c4] at H
    have LMc4 := Aside0.mk c4
    clear c4
    obtain ⟨y112, hy112⟩ : ∃ y_ : List Int, y_ = (l0 ++ t108) := ⟨_, rfl⟩
    replace H : (some y112) = some r := by first | (rw [hy112]; with_reducible exact H) | (have H2_ := (Option.bind_some _ _).symm.trans H; rw [hy112]; with_reducible exact H2_) | (have H2_ := (Option.bind_some _ _).symm.trans H; with_reducible exact H2_) | with_reducible exact H | (rw [hy112]; exact H) | exact H
    have Ny112 := Aside0.mk hy112
    clear hy112
    obtain rfl := Option.some.inj H
    go_enter Tryd.func26, Tryd.ntmps26
    go_wp2_with (first | ((with_reducible refine gate_callee (f := 59) rfl ?_); refine goesL_ (some 9) rfl rfl Tryd.func59 (by kernel_rfl) rfl #[.slice none 0 0, .int .i64 a1] rfl (by (try simp only [List.map_toArray, List.map_cons, List.map_nil]); first | done | rfl | (simp only [List.length_drop, List.length_take]; rfl)) ?_; (refine (wire_Num.calls _ _ ([] : List Int) a1 t108 t109 _ ?side1 ?side2 A3.out).mono ?_); (case side1 => exact Kd.C_nil _ _); (case side2 => exact Nat.le_refl _); rintro e w5 ⟨v110, rfl, ho0, hb⟩; refine ⟨_, rfl, ?_⟩; have n0_ := Aside0.mk (Kd.R_elder' (by (with_reducible repeat (first | apply Kd.R_alloc | apply Kd.R_drewN | apply Kd.R_drew)); exact HO0.out) (Kd.R_base ho0) hb); have n1_ := Aside0.mk (Kd.R_lower (Kd.R_new' (Kd.R_newM (M := fun k_ => (P0_ k_ ∨ w.heap.size ≤ k_)) ho0 (by first | exact HK.out.1 | exact (show Kept w _ (fun k_ => P0_ k_) from by repeat (first | (with_reducible first | exact HK.out | apply Kept.alloc | apply Kept.drewN | apply Kept.drew) | exact HK.out)).1) (fun k_ h_ => .inr h_)) (Kd.R_lt (by (with_reducible repeat (first | apply Kd.R_alloc | apply Kd.R_drewN | apply Kd.R_drew)); exact HO0.out))) (below_size (by repeat (first | (with_reducible first | exact HB.out | apply below_alloc | apply pw_below_drewN | apply below_drew1) | exact HB.out)))); have n2_ := Aside0.mk (Kept.below (S := (fun k_ => P0_ k_)) (by repeat (first | (with_reducible first | exact HK.out | apply Kept.alloc | apply Kept.drewN | apply Kept.drew) | exact HK.out)) hb); have n3_ := Aside0.mk (below_step (by repeat (first | (with_reducible first | exact HB.out | apply below_alloc | apply pw_below_drewN | apply below_drew1) | exact HB.out)) hb); clear HO0; clear HK; clear HB; have HO0 := n0_; have HO111 := n1_; have HK := n2_; have HB := n3_; clear n0_ n1_ n2_ n3_; (try clear hb); (try clear hb2); (try clear hk); (try clear hi); (try clear ho0); obtain ⟨Ao7, co7, eo7⟩ := Kd.R_slice HO111.out; subst eo7) | ((with_reducible refine gate_builtin (b := .append) (xs := #[.tmp 12, .tmp 13]) rfl ?_); at_builtin; refine Kd.R_append_rows (Kd.int .u8) (w0 := w0) w0.heap.size rfl (.tmp 12) (.tmp 13) 30 5 (.int .u8 0) 1 rfl Tryd.underlying30 info5 rfl (by decide) (by omega) u9000_ l0 t108 _ _ _ (fun k_ => (P0_ k_ ∨ w.heap.size ≤ k_) ∧ some k_ ≠ (.slice Ao7 t108.length co7 : Value).ownBlock) (fun _ => False) rfl rfl ?aO ?aR (fun _ _ h => h) (fun _ h => h.elim) ?aF ?aB ?aS ?aL ?_; (case aR => repeat (first | exact (Kd.R_reads' HO111.out).2.2 | (with_reducible refine Kd.C_alloc ?_ _) | (with_reducible refine Kd.C_drewN ?_ _) | (with_reducible refine Kd.C_drew ?_))); (case aB => exact (by repeat (first | (with_reducible first | exact HB.out | apply below_alloc | apply pw_below_drewN | apply below_drew1) | exact HB.out))); (case aF => exact (fun k_ hk => ⟨(.inr (Nat.le_trans (by first | exact HK.out.1 | exact (show Kept w _ (fun k_ => P0_ k_) from by repeat (first | (with_reducible first | exact HK.out | apply Kept.alloc | apply Kept.drewN | apply Kept.drew) | exact HK.out)).1) hk)), Kd.fresh' (Kd.R_lt (by (with_reducible repeat (first | apply Kd.R_alloc | apply Kd.R_drewN | apply Kd.R_drew)); exact HO111.out)) k_ hk⟩)); (case aO => exact (by (with_reducible repeat (first | apply Kd.R_alloc | apply Kd.R_drewN | apply Kd.R_drew)); exact HO0.out)); (case aS => exact (below_size (by repeat (first | (with_reducible first | exact HB.out | apply below_alloc | apply pw_below_drewN | apply below_drew1) | exact HB.out)))); (case aL => have := LMc4.out; omega); intro v113 w6 ho hb hg hat; rw [← Ny112.out] at ho; have n0_ := Aside0.mk (Kd.R_after (ok := (fun k_ => (P0_ k_ ∨ w.heap.size ≤ k_))) (by (with_reducible repeat (first | apply Kd.R_alloc | apply Kd.R_drewN | apply Kd.R_drew)); exact Kd.R_mono HO111.out (fun _ hk => ⟨hk.1.1, hk.2⟩)) hg hat); have n1_ := Aside0.mk (hb); have n2_ := Aside0.mk (Kept.of_grown (S := (fun k_ => P0_ k_)) hg (by repeat (first | (with_reducible first | exact HK.out | apply Kept.alloc | apply Kept.drewN | apply Kept.drew) | exact HK.out)) (fun k_ e_ => (HO0.out.1 k_ e_).1)); have n3_ := Aside0.mk (ho); clear HO111; clear HB; clear HK; clear HO0; have HO111 := n0_; have HB := n1_; have HK := n2_; have HO114 := n3_; clear n0_ n1_ n2_ n3_; clear ho hb hg hat))
    go_ret
    exact ⟨_, by first | rfl | (simp [errW_none, errW_some] <;> rfl) | (simp [*, errW_none, errW_some] <;> rfl), by (with_reducible repeat (first | apply Kd.R_alloc | apply Kd.R_drewN | apply Kd.R_drew)); exact Kd.R_mono HO114.out (fun _ hk => hk.1), by repeat (first | (with_reducible first | exact HB.out | apply below_alloc | apply pw_below_drewN | apply below_drew1) | exact HB.out), by repeat (first | (with_reducible first | exact HK.out | apply Kept.alloc | apply Kept.drewN | apply Kept.drew) | exact HK.out)⟩
  · rw [if_neg c4] at H
    exact absurd H (by simp)
def image_Encode_1.f (l0 : List Int) (a1_0 : Int) (a1_1 : Int) (a1_2 : Int) : Option (List Int) := (image_nat.f l0 a1_0).bind fun t116 => ((image_nat.f t116 a1_1).bind fun t119 => ((image_whole.f t119 a1_2).bind fun t122 => (some t122)))
def image_Encode_1.T1 : Bool × List (List Nat × List Nat) := (true, [([], []), ([], []), ([1], [1]), ([0, 2], [0, 2]), ([], []), ([4], [4]), ([3, 5, 3], [3, 5]), ([], []), ([7], [7]), ([6, 8, 6], [6, 8]), ([9, 9, 0, 1, 2, 3, 4, 5, 6, 7, 8, 9], [9])])
def image_Encode_1.B1 : List Nat := [0, 0, 2, 7, 0, 16, 63, 0, 128, 511, 1023]
theorem image_Encode_1.tab1 : rtab .any (opsOf Tryd.f24 1) = image_Encode_1.T1 := by kernel_rfl
theorem image_Encode_1.bits1 : waitsOk image_Encode_1.T1.2 image_Encode_1.B1 = true := by kernel_rfl
set_option maxHeartbeats 8000000 in
set_option maxRecDepth 100000 in
theorem image_Encode_1.calls (P0_ : Nat → Prop) (u9000_ : Value) (l0 : List Int) (a1_0 : Int) (a1_1 : Int) (a1_2 : Int) (r : List Int) (w0 w : World) (hB : Below w0.heap.size w0 w) (ho0 : Kd.R (Kd.int .u8) 5 w w0.heap.size P0_ u9000_ l0) (h : image_Encode_1.f l0 a1_0 a1_1 a1_2 = some r) :
    Calls Tryd.prog 24 #[u9000_, .agg #[.int .i64 a1_0, .int .i64 a1_1, .int .i64 a1_2]] w fun e w' => ∃ v0_ : Value, e = .returned (v0_) ∧ Kd.R (Kd.int .u8) 5 w' w0.heap.size (fun k_ => (P0_ k_ ∨ w.heap.size ≤ k_)) v0_ r ∧ Below w0.heap.size w0 w' ∧ Kept w w' (fun k_ => P0_ k_) := by
  have hu48 := Tryd.underlying48
  have HO0 := Aside0.mk (show Kd.R (Kd.int .u8) 5 w w0.heap.size (fun k_ => (P0_ k_ ∨ w.heap.size ≤ k_)) u9000_ l0 from Kd.R_mono ho0 (fun k_ hk => (.inl hk)))
  have HK := Aside0.mk (Kept.refl w (fun k_ => P0_ k_))
  have HW0 := Aside0.mk hB.size
  have HB := Aside0.mk hB
  clear hB
  have H : ((image_nat.f l0 a1_0).bind fun t116 => ((image_nat.f t116 a1_1).bind fun t119 => ((image_whole.f t119 a1_2).bind fun t122 => (some t122)))) = some r := h
  clear h
  replace H := Option.bind_eq_some_iff.mp H
  obtain ⟨t116, A30, H⟩ := H
  replace H : ((image_nat.f t116 a1_1).bind fun t119 => ((image_whole.f t119 a1_2).bind fun t122 => (some t122))) = some r := H
  have A3 := Aside0.mk A30
  clear A30
  replace H := Option.bind_eq_some_iff.mp H
  obtain ⟨t119, A40, H⟩ := H
  replace H : ((image_whole.f t119 a1_2).bind fun t122 => (some t122)) = some r := H
  have A4 := Aside0.mk A40
  clear A40
  replace H := Option.bind_eq_some_iff.mp H
  obtain ⟨t122, A50, H⟩ := H
  replace H : (some t122) = some r := H
  have A5 := Aside0.mk A50
  clear A50
  obtain rfl := Option.some.inj H
  go_enter Tryd.func24, Tryd.ntmps24
  try go_wp2_with (first | ((with_reducible refine gate_dst (N := 3) rfl ?_); refine box_event ?hg (N := 3) ?hd (cs := #[.int .i64 a1_0, .int .i64 a1_1, .int .i64 a1_2]) (t := 48) ?hr ?_; (case hd => rfl); (case hg => rfl); (case hr => first | (go_simp; done) | (go_simp; rfl)); intro gb115 hg w6 hbox hb; have n0_ := Aside0.mk (Kd.R_below (by (with_reducible repeat (first | apply Kd.R_alloc | apply Kd.R_drewN | apply Kd.R_drew)); exact HO0.out) hb); have n1_ := Aside0.mk (Kept.below (S := (fun k_ => P0_ k_)) (by repeat (first | (with_reducible first | exact HK.out | apply Kept.alloc | apply Kept.drewN | apply Kept.drew) | exact HK.out)) hb); have n2_ := Aside0.mk (below_step (by repeat (first | (with_reducible first | exact HB.out | apply below_alloc | apply pw_below_drewN | apply below_drew1) | exact HB.out)) hb); have n3_ := Aside0.mk (hbox); have n4_ := Aside0.mk ((by rw [hg]; exact (by first | exact HK.out.1 | exact (show Kept w _ (fun k_ => P0_ k_) from by repeat (first | (with_reducible first | exact HK.out | apply Kept.alloc | apply Kept.drewN | apply Kept.drew) | exact HK.out)).1) : w.heap.size ≤ gb115)); have n5_ := Aside0.mk ((by rw [hg]; exact (below_size (by repeat (first | (with_reducible first | exact HB.out | apply below_alloc | apply pw_below_drewN | apply below_drew1) | exact HB.out))) : w0.heap.size ≤ gb115)); clear HO0; clear HK; clear HB; have HO0 := n0_; have HK := n1_; have HB := n2_; have BK115 := n3_; have GW115 := n4_; have GE115 := n5_; clear n0_ n1_ n2_ n3_ n4_ n5_; clear hb hbox hg))
  have n0_ := Aside0.mk (Kd.R_drew HO0.out)
  have n1_ := Aside0.mk (blk_drew BK115.out)
  have n2_ := Aside0.mk (Kept.drew HK.out)
  have n3_ := Aside0.mk (below_drew1 HB.out)
  clear HO0
  clear BK115
  clear HK
  clear HB
  have HO0 := n0_
  have BK115 := n1_
  have HK := n2_
  have HB := n3_
  clear n0_ n1_ n2_ n3_
  obtain ⟨Ao8, co8, eo8⟩ := Kd.R_slice HO0.out
  (first | subst eo8 | (injection eo8 with f1_ f2_ f3_; have f4_ := f1_.symm; have f5_ := f3_.symm; clear f1_ f2_ f3_; subst f4_; subst f5_))
  refine start_ (n := 11) (S := fun w' => w'.cell? ⟨gb115, 0, none⟩ = some (.int .i64 a1_0) ∧ w'.cell? ⟨gb115, 1, none⟩ = some (.int .i64 a1_1) ∧ w'.cell? ⟨gb115, 2, none⟩ = some (.int .i64 a1_2)) (ds := []) #[false, false, false, false, false, false, false, false, false, false, false] (by kernel_rfl) rfl rfl ⟨(blk_cell BK115.out 0).trans rfl, (blk_cell BK115.out 1).trans rfl, (blk_cell BK115.out 2).trans rfl⟩ (fun hHeld => ?_); refine with_tabW image_Encode_1.tab1 image_Encode_1.bits1 (fun HT_ HW_ => ?_)
  generalize w6.drew = w7 at HO0 BK115 HK HB hHeld ⊢
  refine pure_ (i := 0) (N := some 5) (v := ?_) (a' := ?_) #[true, false, false, false, false, false, false, false, false, false, false] rfl rfl (any_of HT_.out (by kernel_rfl)) (fun _ _ _ h => h) (Or.inl ⟨by rfl, ?_⟩) ?_ ?_
  rotate_left
  · intro w'
    go_simp
    with_reducible rfl
  rotate_left
  · simp only [Act.put, List.setIfInBounds_toArray, List.set_cons_zero, List.set_cons_succ, i64_w, i32_w]
    rfl
  refine pure_ (i := 1) (N := some 6) (v := ?_) (a' := ?_) #[true, true, false, false, false, false, false, false, false, false, false] rfl rfl (any_of HT_.out (by kernel_rfl)) (fun _ _ _ h => h) (Or.inl ⟨by rfl, ?_⟩) ?_ ?_
  rotate_left
  · intro w'
    go_simp
    with_reducible rfl
  rotate_left
  · simp only [Act.put, List.setIfInBounds_toArray, List.set_cons_zero, List.set_cons_succ, i64_w, i32_w]
    rfl
  refine pure_ (i := 4) (N := some 9) (v := ?_) (a' := ?_) #[true, true, false, false, true, false, false, false, false, false, false] rfl rfl (any_of HT_.out (by kernel_rfl)) (fun _ _ _ h => h) (Or.inl ⟨by rfl, ?_⟩) ?_ ?_
  rotate_left
  · intro w'
    go_simp
    with_reducible rfl
  rotate_left
  · simp only [Act.put, List.setIfInBounds_toArray, List.set_cons_zero, List.set_cons_succ, i64_w, i32_w]
    rfl
  refine pure_ (i := 7) (N := some 12) (v := ?_) (a' := ?_) #[true, true, false, false, true, false, false, true, false, false, false] rfl rfl (any_of HT_.out (by kernel_rfl)) (fun _ _ _ h => h) (Or.inl ⟨by rfl, ?_⟩) ?_ ?_
  rotate_left
  · intro w'
    go_simp
    with_reducible rfl
  rotate_left
  · simp only [Act.put, List.setIfInBounds_toArray, List.set_cons_zero, List.set_cons_succ, i64_w, i32_w]
    rfl
  refine take_ (i := 2) (N := some 7) (v := ?_) (a' := ?_) #[true, true, true, false, true, false, false, true, false, false, false] rfl rfl (take_ofW HT_.out HW_.out (by kernel_rfl)) (fun _ _ _ h => h) (Or.inl ⟨by rfl, ?_⟩) hHeld ?_ ?_
  rotate_left
  · rintro w' ⟨s0, s1, s2⟩
    go_simp
    with_reducible rfl
  rotate_left
  · simp only [Act.put, List.setIfInBounds_toArray, List.set_cons_zero, List.set_cons_succ, i64_w, i32_w]
    rfl
  refine take_ (i := 5) (N := some 10) (v := ?_) (a' := ?_) #[true, true, true, false, true, true, false, true, false, false, false] rfl rfl (take_ofW HT_.out HW_.out (by kernel_rfl)) (fun _ _ _ h => h) (Or.inl ⟨by rfl, ?_⟩) hHeld ?_ ?_
  rotate_left
  · rintro w' ⟨s0, s1, s2⟩
    go_simp
    with_reducible rfl
  rotate_left
  · simp only [Act.put, List.setIfInBounds_toArray, List.set_cons_zero, List.set_cons_succ, i64_w, i32_w]
    rfl
  refine take_ (i := 8) (N := some 13) (v := ?_) (a' := ?_) #[true, true, true, false, true, true, false, true, true, false, false] rfl rfl (take_ofW HT_.out HW_.out (by kernel_rfl)) (fun _ _ _ h => h) (Or.inl ⟨by rfl, ?_⟩) hHeld ?_ ?_
  rotate_left
  · rintro w' ⟨s0, s1, s2⟩
    go_simp
    with_reducible rfl
  rotate_left
  · simp only [Act.put, List.setIfInBounds_toArray, List.set_cons_zero, List.set_cons_succ, i64_w, i32_w]
    rfl
  refine one_ (i := 3) (N := some 8) #[true, true, true, true, true, true, false, true, true, false, false] rfl rfl (one_of HT_.out (by kernel_rfl)) (by decide) (fun K hK => ?_)
  refine goes_ Tryd.func26 (by kernel_rfl) rfl #[.slice Ao8 l0.length co8, .int .i64 a1_0] (by rfl) rfl rfl (by (try simp only [List.map_toArray, List.map_cons, List.map_nil]); first | done | rfl | (simp only [List.length_drop, List.length_take]; rfl)) ?_
  with_reducible refine (image_nat.calls (fun k_ => some k_ = (.slice Ao8 l0.length co8 : Value).ownBlock) (.slice Ao8 l0.length co8) l0 a1_0 t116 w0 _ ?side1 ?side2 A3.out).mono ?_
  (case side1 => repeat (first | (with_reducible first | exact HB.out | apply below_alloc | apply pw_below_drewN | apply below_drew1 | refine below_set ?_ GE115.out) | exact HB.out))
  (case side2 => exact Kd.R_tight rfl HO0.out)
  rintro e w9 ⟨v117, rfl, ho0, hb, hkp⟩
  refine ⟨_, rfl, ?_⟩
  have n0_ := Aside0.mk (blk_kept (by (with_reducible repeat (first | refine blk_drewN ?_ _ | refine blk_drew ?_ | refine blk_alloc ?_ _)); exact BK115.out) hkp (fun hs_ => (fun e_ => (Kd.R_ne HO0.out BK115.out (by decide)) e_) hs_))
  have n1_ := Aside0.mk (Kd.R_mono (ok' := fun k_ => (P0_ k_ ∨ w.heap.size ≤ k_)) ho0 (fun k_ hk_ => Or.elim hk_ (fun hs_ => (HO0.out.1 k_ (hs_).symm)) (fun hn_ => (.inr (Nat.le_trans (by first | exact HK.out.1 | exact (show Kept w _ (fun k_ => P0_ k_) from by repeat (first | (with_reducible first | exact HK.out | apply Kept.alloc | apply Kept.drewN | apply Kept.drew | refine Kept.setCell ?_ (.inr GW115.out) _) | exact HK.out)).1) hn_)))))
  have n2_ := Aside0.mk (Kept.then_ (S := (fun k_ => P0_ k_)) (by repeat (first | (with_reducible first | exact HK.out | apply Kept.alloc | apply Kept.drewN | apply Kept.drew | refine Kept.setCell ?_ (.inr GW115.out) _) | exact HK.out)) hkp (fun k_ hs_ => (fun e_ => (HO0.out.1 k_ e_.symm)) hs_))
  have n3_ := Aside0.mk (hb)
  clear BK115
  clear HK
  clear HB
  clear HO0
  have BK115 := n0_
  have HO118 := n1_
  have HK := n2_
  have HB := n3_
  clear n0_ n1_ n2_ n3_
  (try clear hb)
  (try clear hkp)
  (try clear ho0)
  obtain ⟨Ao10, co10, eo10⟩ := Kd.R_slice HO118.out
  (first | subst eo10 | (injection eo10 with f1_ f2_ f3_; have f4_ := f1_.symm; have f5_ := f3_.symm; clear f1_ f2_ f3_; subst f4_; subst f5_))
  refine hK.out _ _ ⟨(blk_cell BK115.out 0).trans rfl, (blk_cell BK115.out 1).trans rfl, (blk_cell BK115.out 2).trans rfl⟩ (fun hHeld => ?_)
  clear hK K
  refine norm_ (a' := ?_) ?_ ?_
  rotate_left
  · show Act.put _ (some 8) _ = _
    simp only [Act.put, List.setIfInBounds_toArray, List.set_cons_zero, List.set_cons_succ, i64_w, i32_w]
    rfl
  refine one_ (i := 6) (N := some 11) #[true, true, true, true, true, true, true, true, true, false, false] rfl rfl (one_of HT_.out (by kernel_rfl)) (by decide) (fun K hK => ?_)
  refine goes_ Tryd.func26 (by kernel_rfl) rfl #[.slice Ao10 t116.length co10, .int .i64 a1_1] (by rfl) rfl rfl (by (try simp only [List.map_toArray, List.map_cons, List.map_nil]); first | done | rfl | (simp only [List.length_drop, List.length_take]; rfl)) ?_
  with_reducible refine (image_nat.calls (fun k_ => some k_ = (.slice Ao10 t116.length co10 : Value).ownBlock) (.slice Ao10 t116.length co10) t116 a1_1 t119 w0 _ ?side1 ?side2 A4.out).mono ?_
  (case side1 => repeat (first | (with_reducible first | exact HB.out | apply below_alloc | apply pw_below_drewN | apply below_drew1 | refine below_set ?_ GE115.out) | exact HB.out))
  (case side2 => exact Kd.R_tight rfl HO118.out)
  rintro e w11 ⟨v120, rfl, ho0, hb, hkp⟩
  refine ⟨_, rfl, ?_⟩
  have n0_ := Aside0.mk (blk_kept (by (with_reducible repeat (first | refine blk_drewN ?_ _ | refine blk_drew ?_ | refine blk_alloc ?_ _)); exact BK115.out) hkp (fun hs_ => (fun e_ => (Kd.R_ne HO118.out BK115.out (by decide)) e_) hs_))
  have n1_ := Aside0.mk (Kd.R_mono (ok' := fun k_ => (P0_ k_ ∨ w.heap.size ≤ k_)) ho0 (fun k_ hk_ => Or.elim hk_ (fun hs_ => (HO118.out.1 k_ (hs_).symm)) (fun hn_ => (.inr (Nat.le_trans (by first | exact HK.out.1 | exact (show Kept w _ (fun k_ => P0_ k_) from by repeat (first | (with_reducible first | exact HK.out | apply Kept.alloc | apply Kept.drewN | apply Kept.drew | refine Kept.setCell ?_ (.inr GW115.out) _) | exact HK.out)).1) hn_)))))
  have n2_ := Aside0.mk (Kept.then_ (S := (fun k_ => P0_ k_)) (by repeat (first | (with_reducible first | exact HK.out | apply Kept.alloc | apply Kept.drewN | apply Kept.drew | refine Kept.setCell ?_ (.inr GW115.out) _) | exact HK.out)) hkp (fun k_ hs_ => (fun e_ => (HO118.out.1 k_ e_.symm)) hs_))
  have n3_ := Aside0.mk (hb)
  clear BK115
  clear HK
  clear HB
  clear HO118
  have BK115 := n0_
  have HO121 := n1_
  have HK := n2_
  have HB := n3_
  clear n0_ n1_ n2_ n3_
  (try clear hb)
  (try clear hkp)
  (try clear ho0)
  obtain ⟨Ao12, co12, eo12⟩ := Kd.R_slice HO121.out
  (first | subst eo12 | (injection eo12 with f1_ f2_ f3_; have f4_ := f1_.symm; have f5_ := f3_.symm; clear f1_ f2_ f3_; subst f4_; subst f5_))
  refine hK.out _ _ ⟨(blk_cell BK115.out 0).trans rfl, (blk_cell BK115.out 1).trans rfl, (blk_cell BK115.out 2).trans rfl⟩ (fun hHeld => ?_)
  clear hK K
  refine norm_ (a' := ?_) ?_ ?_
  rotate_left
  · show Act.put _ (some 11) _ = _
    simp only [Act.put, List.setIfInBounds_toArray, List.set_cons_zero, List.set_cons_succ, i64_w, i32_w]
    rfl
  refine one_ (i := 9) (N := some 14) #[true, true, true, true, true, true, true, true, true, true, false] rfl rfl (one_of HT_.out (by kernel_rfl)) (by decide) (fun K hK => ?_)
  refine goes_ Tryd.func25 (by kernel_rfl) rfl #[.slice Ao12 t119.length co12, .int .i64 a1_2] (by rfl) rfl rfl (by (try simp only [List.map_toArray, List.map_cons, List.map_nil]); first | done | rfl | (simp only [List.length_drop, List.length_take]; rfl)) ?_
  with_reducible refine (image_whole.calls (fun k_ => some k_ = (.slice Ao12 t119.length co12 : Value).ownBlock) (.slice Ao12 t119.length co12) t119 a1_2 t122 w0 _ ?side1 ?side2 A5.out).mono ?_
  (case side1 => repeat (first | (with_reducible first | exact HB.out | apply below_alloc | apply pw_below_drewN | apply below_drew1 | refine below_set ?_ GE115.out) | exact HB.out))
  (case side2 => exact Kd.R_tight rfl HO121.out)
  rintro e w13 ⟨v123, rfl, ho0, hb, hkp⟩
  refine ⟨_, rfl, ?_⟩
  have n0_ := Aside0.mk (blk_kept (by (with_reducible repeat (first | refine blk_drewN ?_ _ | refine blk_drew ?_ | refine blk_alloc ?_ _)); exact BK115.out) hkp (fun hs_ => (fun e_ => (Kd.R_ne HO121.out BK115.out (by decide)) e_) hs_))
  have n1_ := Aside0.mk (Kd.R_mono (ok' := fun k_ => (P0_ k_ ∨ w.heap.size ≤ k_)) ho0 (fun k_ hk_ => Or.elim hk_ (fun hs_ => (HO121.out.1 k_ (hs_).symm)) (fun hn_ => (.inr (Nat.le_trans (by first | exact HK.out.1 | exact (show Kept w _ (fun k_ => P0_ k_) from by repeat (first | (with_reducible first | exact HK.out | apply Kept.alloc | apply Kept.drewN | apply Kept.drew | refine Kept.setCell ?_ (.inr GW115.out) _) | exact HK.out)).1) hn_)))))
  have n2_ := Aside0.mk (Kept.then_ (S := (fun k_ => P0_ k_)) (by repeat (first | (with_reducible first | exact HK.out | apply Kept.alloc | apply Kept.drewN | apply Kept.drew | refine Kept.setCell ?_ (.inr GW115.out) _) | exact HK.out)) hkp (fun k_ hs_ => (fun e_ => (HO121.out.1 k_ e_.symm)) hs_))
  have n3_ := Aside0.mk (hb)
  clear BK115
  clear HK
  clear HB
  clear HO121
  have BK115 := n0_
  have HO124 := n1_
  have HK := n2_
  have HB := n3_
  clear n0_ n1_ n2_ n3_
  (try clear hb)
  (try clear hkp)
  (try clear ho0)
  refine hK.out _ _ ⟨(blk_cell BK115.out 0).trans rfl, (blk_cell BK115.out 1).trans rfl, (blk_cell BK115.out 2).trans rfl⟩ (fun hHeld => ?_)
  clear hK K
  refine norm_ (a' := ?_) ?_ ?_
  rotate_left
  · show Act.put _ (some 14) _ = _
    simp only [Act.put, List.setIfInBounds_toArray, List.set_cons_zero, List.set_cons_succ, i64_w, i32_w]
    rfl
  refine pure_ (i := 10) (N := some 4) (v := ?_) (a' := ?_) #[true, true, true, true, true, true, true, true, true, true, true] rfl rfl (any_of HT_.out (by kernel_rfl)) (fun _ _ _ h => h) (Or.inl ⟨by rfl, ?_⟩) ?_ ?_
  rotate_left
  · intro w'
    go_simp
    with_reducible rfl
  rotate_left
  · simp only [Act.put, List.setIfInBounds_toArray, List.set_cons_zero, List.set_cons_succ, i64_w, i32_w]
    rfl
  refine done_ (done_of HT_.out (by kernel_rfl)) ?_
  try go_wp2
  go_ret
  exact ⟨_, by first | rfl | (simp [errW_none, errW_some] <;> rfl) | (simp [*, errW_none, errW_some] <;> rfl), by (with_reducible repeat (first | apply Kd.R_alloc | apply Kd.R_drewN | apply Kd.R_drew)); exact HO124.out, by repeat (first | (with_reducible first | exact HB.out | apply below_alloc | apply pw_below_drewN | apply below_drew1 | refine below_set ?_ GE115.out) | exact HB.out), by repeat (first | (with_reducible first | exact HK.out | apply Kept.alloc | apply Kept.drewN | apply Kept.drew | refine Kept.setCell ?_ (.inr GW115.out) _) | exact HK.out)⟩
def image_Encode_2_1.f (l0 : List Int) (a1_0 : Int) (a1_1 : Int) (a1_2 : Int) : Option (List Int) := (image_nat.f l0 a1_0).bind fun t126 => ((image_whole.f t126 a1_1).bind fun t129 => ((image_nat.f t129 a1_2).bind fun t132 => (some t132)))
def image_Encode_2_1.T1 : Bool × List (List Nat × List Nat) := (true, [([], []), ([], []), ([1], [1]), ([0, 2], [0, 2]), ([], []), ([4], [4]), ([3, 5, 3], [3, 5]), ([], []), ([7], [7]), ([6, 8, 6], [6, 8]), ([9, 9, 0, 1, 2, 3, 4, 5, 6, 7, 8, 9], [9])])
def image_Encode_2_1.B1 : List Nat := [0, 0, 2, 7, 0, 16, 63, 0, 128, 511, 1023]
theorem image_Encode_2_1.tab1 : rtab .any (opsOf Tryd.f32 1) = image_Encode_2_1.T1 := by kernel_rfl
theorem image_Encode_2_1.bits1 : waitsOk image_Encode_2_1.T1.2 image_Encode_2_1.B1 = true := by kernel_rfl
set_option maxHeartbeats 8000000 in
set_option maxRecDepth 100000 in
theorem image_Encode_2_1.calls (P0_ : Nat → Prop) (u9000_ : Value) (l0 : List Int) (a1_0 : Int) (a1_1 : Int) (a1_2 : Int) (r : List Int) (w0 w : World) (hB : Below w0.heap.size w0 w) (ho0 : Kd.R (Kd.int .u8) 5 w w0.heap.size P0_ u9000_ l0) (h : image_Encode_2_1.f l0 a1_0 a1_1 a1_2 = some r) :
    Calls Tryd.prog 32 #[u9000_, .agg #[.int .i64 a1_0, .int .i64 a1_1, .int .i64 a1_2]] w fun e w' => ∃ v0_ : Value, e = .returned (v0_) ∧ Kd.R (Kd.int .u8) 5 w' w0.heap.size (fun k_ => (P0_ k_ ∨ w.heap.size ≤ k_)) v0_ r ∧ Below w0.heap.size w0 w' ∧ Kept w w' (fun k_ => P0_ k_) := by
  have hu50 := Tryd.underlying50
  have HO0 := Aside0.mk (show Kd.R (Kd.int .u8) 5 w w0.heap.size (fun k_ => (P0_ k_ ∨ w.heap.size ≤ k_)) u9000_ l0 from Kd.R_mono ho0 (fun k_ hk => (.inl hk)))
  have HK := Aside0.mk (Kept.refl w (fun k_ => P0_ k_))
  have HW0 := Aside0.mk hB.size
  have HB := Aside0.mk hB
  clear hB
  have H : ((image_nat.f l0 a1_0).bind fun t126 => ((image_whole.f t126 a1_1).bind fun t129 => ((image_nat.f t129 a1_2).bind fun t132 => (some t132)))) = some r := h
  clear h
  replace H := Option.bind_eq_some_iff.mp H
  obtain ⟨t126, A30, H⟩ := H
  replace H : ((image_whole.f t126 a1_1).bind fun t129 => ((image_nat.f t129 a1_2).bind fun t132 => (some t132))) = some r := H
  have A3 := Aside0.mk A30
  clear A30
  replace H := Option.bind_eq_some_iff.mp H
  obtain ⟨t129, A40, H⟩ := H
  replace H : ((image_nat.f t129 a1_2).bind fun t132 => (some t132)) = some r := H
  have A4 := Aside0.mk A40
  clear A40
  replace H := Option.bind_eq_some_iff.mp H
  obtain ⟨t132, A50, H⟩ := H
  replace H : (some t132) = some r := H
  have A5 := Aside0.mk A50
  clear A50
  obtain rfl := Option.some.inj H
  go_enter Tryd.func32, Tryd.ntmps32
  try go_wp2_with (first | ((with_reducible refine gate_dst (N := 3) rfl ?_); refine box_event ?hg (N := 3) ?hd (cs := #[.int .i64 a1_0, .int .i64 a1_1, .int .i64 a1_2]) (t := 50) ?hr ?_; (case hd => rfl); (case hg => rfl); (case hr => first | (go_simp; done) | (go_simp; rfl)); intro gb125 hg w6 hbox hb; have n0_ := Aside0.mk (Kd.R_below (by (with_reducible repeat (first | apply Kd.R_alloc | apply Kd.R_drewN | apply Kd.R_drew)); exact HO0.out) hb); have n1_ := Aside0.mk (Kept.below (S := (fun k_ => P0_ k_)) (by repeat (first | (with_reducible first | exact HK.out | apply Kept.alloc | apply Kept.drewN | apply Kept.drew) | exact HK.out)) hb); have n2_ := Aside0.mk (below_step (by repeat (first | (with_reducible first | exact HB.out | apply below_alloc | apply pw_below_drewN | apply below_drew1) | exact HB.out)) hb); have n3_ := Aside0.mk (hbox); have n4_ := Aside0.mk ((by rw [hg]; exact (by first | exact HK.out.1 | exact (show Kept w _ (fun k_ => P0_ k_) from by repeat (first | (with_reducible first | exact HK.out | apply Kept.alloc | apply Kept.drewN | apply Kept.drew) | exact HK.out)).1) : w.heap.size ≤ gb125)); have n5_ := Aside0.mk ((by rw [hg]; exact (below_size (by repeat (first | (with_reducible first | exact HB.out | apply below_alloc | apply pw_below_drewN | apply below_drew1) | exact HB.out))) : w0.heap.size ≤ gb125)); clear HO0; clear HK; clear HB; have HO0 := n0_; have HK := n1_; have HB := n2_; have BK125 := n3_; have GW125 := n4_; have GE125 := n5_; clear n0_ n1_ n2_ n3_ n4_ n5_; clear hb hbox hg))
  have n0_ := Aside0.mk (Kd.R_drew HO0.out)
  have n1_ := Aside0.mk (blk_drew BK125.out)
  have n2_ := Aside0.mk (Kept.drew HK.out)
  have n3_ := Aside0.mk (below_drew1 HB.out)
  clear HO0
  clear BK125
  clear HK
  clear HB
  have HO0 := n0_
  have BK125 := n1_
  have HK := n2_
  have HB := n3_
  clear n0_ n1_ n2_ n3_
  obtain ⟨Ao8, co8, eo8⟩ := Kd.R_slice HO0.out
  (first | subst eo8 | (injection eo8 with f1_ f2_ f3_; have f4_ := f1_.symm; have f5_ := f3_.symm; clear f1_ f2_ f3_; subst f4_; subst f5_))
  refine start_ (n := 11) (S := fun w' => w'.cell? ⟨gb125, 0, none⟩ = some (.int .i64 a1_0) ∧ w'.cell? ⟨gb125, 1, none⟩ = some (.int .i64 a1_1) ∧ w'.cell? ⟨gb125, 2, none⟩ = some (.int .i64 a1_2)) (ds := []) #[false, false, false, false, false, false, false, false, false, false, false] (by kernel_rfl) rfl rfl ⟨(blk_cell BK125.out 0).trans rfl, (blk_cell BK125.out 1).trans rfl, (blk_cell BK125.out 2).trans rfl⟩ (fun hHeld => ?_); refine with_tabW image_Encode_2_1.tab1 image_Encode_2_1.bits1 (fun HT_ HW_ => ?_)
  generalize w6.drew = w7 at HO0 BK125 HK HB hHeld ⊢
  refine pure_ (i := 0) (N := some 5) (v := ?_) (a' := ?_) #[true, false, false, false, false, false, false, false, false, false, false] rfl rfl (any_of HT_.out (by kernel_rfl)) (fun _ _ _ h => h) (Or.inl ⟨by rfl, ?_⟩) ?_ ?_
  rotate_left
  · intro w'
    go_simp
    with_reducible rfl
  rotate_left
  · simp only [Act.put, List.setIfInBounds_toArray, List.set_cons_zero, List.set_cons_succ, i64_w, i32_w]
    rfl
  refine pure_ (i := 1) (N := some 6) (v := ?_) (a' := ?_) #[true, true, false, false, false, false, false, false, false, false, false] rfl rfl (any_of HT_.out (by kernel_rfl)) (fun _ _ _ h => h) (Or.inl ⟨by rfl, ?_⟩) ?_ ?_
  rotate_left
  · intro w'
    go_simp
    with_reducible rfl
  rotate_left
  · simp only [Act.put, List.setIfInBounds_toArray, List.set_cons_zero, List.set_cons_succ, i64_w, i32_w]
    rfl
  refine pure_ (i := 4) (N := some 9) (v := ?_) (a' := ?_) #[true, true, false, false, true, false, false, false, false, false, false] rfl rfl (any_of HT_.out (by kernel_rfl)) (fun _ _ _ h => h) (Or.inl ⟨by rfl, ?_⟩) ?_ ?_
  rotate_left
  · intro w'
    go_simp
    with_reducible rfl
  rotate_left
  · simp only [Act.put, List.setIfInBounds_toArray, List.set_cons_zero, List.set_cons_succ, i64_w, i32_w]
    rfl
  refine pure_ (i := 7) (N := some 12) (v := ?_) (a' := ?_) #[true, true, false, false, true, false, false, true, false, false, false] rfl rfl (any_of HT_.out (by kernel_rfl)) (fun _ _ _ h => h) (Or.inl ⟨by rfl, ?_⟩) ?_ ?_
  rotate_left
  · intro w'
    go_simp
    with_reducible rfl
  rotate_left
  · simp only [Act.put, List.setIfInBounds_toArray, List.set_cons_zero, List.set_cons_succ, i64_w, i32_w]
    rfl
  refine take_ (i := 2) (N := some 7) (v := ?_) (a' := ?_) #[true, true, true, false, true, false, false, true, false, false, false] rfl rfl (take_ofW HT_.out HW_.out (by kernel_rfl)) (fun _ _ _ h => h) (Or.inl ⟨by rfl, ?_⟩) hHeld ?_ ?_
  rotate_left
  · rintro w' ⟨s0, s1, s2⟩
    go_simp
    with_reducible rfl
  rotate_left
  · simp only [Act.put, List.setIfInBounds_toArray, List.set_cons_zero, List.set_cons_succ, i64_w, i32_w]
    rfl
  refine take_ (i := 5) (N := some 10) (v := ?_) (a' := ?_) #[true, true, true, false, true, true, false, true, false, false, false] rfl rfl (take_ofW HT_.out HW_.out (by kernel_rfl)) (fun _ _ _ h => h) (Or.inl ⟨by rfl, ?_⟩) hHeld ?_ ?_
  rotate_left
  · rintro w' ⟨s0, s1, s2⟩
    go_simp
    with_reducible rfl
  rotate_left
  · simp only [Act.put, List.setIfInBounds_toArray, List.set_cons_zero, List.set_cons_succ, i64_w, i32_w]
    rfl
  refine take_ (i := 8) (N := some 13) (v := ?_) (a' := ?_) #[true, true, true, false, true, true, false, true, true, false, false] rfl rfl (take_ofW HT_.out HW_.out (by kernel_rfl)) (fun _ _ _ h => h) (Or.inl ⟨by rfl, ?_⟩) hHeld ?_ ?_
  rotate_left
  · rintro w' ⟨s0, s1, s2⟩
    go_simp
    with_reducible rfl
  rotate_left
  · simp only [Act.put, List.setIfInBounds_toArray, List.set_cons_zero, List.set_cons_succ, i64_w, i32_w]
    rfl
  refine one_ (i := 3) (N := some 8) #[true, true, true, true, true, true, false, true, true, false, false] rfl rfl (one_of HT_.out (by kernel_rfl)) (by decide) (fun K hK => ?_)
  refine goes_ Tryd.func26 (by kernel_rfl) rfl #[.slice Ao8 l0.length co8, .int .i64 a1_0] (by rfl) rfl rfl (by (try simp only [List.map_toArray, List.map_cons, List.map_nil]); first | done | rfl | (simp only [List.length_drop, List.length_take]; rfl)) ?_
  with_reducible refine (image_nat.calls (fun k_ => some k_ = (.slice Ao8 l0.length co8 : Value).ownBlock) (.slice Ao8 l0.length co8) l0 a1_0 t126 w0 _ ?side1 ?side2 A3.out).mono ?_
  (case side1 => repeat (first | (with_reducible first | exact HB.out | apply below_alloc | apply pw_below_drewN | apply below_drew1 | refine below_set ?_ GE125.out) | exact HB.out))
  (case side2 => exact Kd.R_tight rfl HO0.out)
  rintro e w9 ⟨v127, rfl, ho0, hb, hkp⟩
  refine ⟨_, rfl, ?_⟩
  have n0_ := Aside0.mk (blk_kept (by (with_reducible repeat (first | refine blk_drewN ?_ _ | refine blk_drew ?_ | refine blk_alloc ?_ _)); exact BK125.out) hkp (fun hs_ => (fun e_ => (Kd.R_ne HO0.out BK125.out (by decide)) e_) hs_))
  have n1_ := Aside0.mk (Kd.R_mono (ok' := fun k_ => (P0_ k_ ∨ w.heap.size ≤ k_)) ho0 (fun k_ hk_ => Or.elim hk_ (fun hs_ => (HO0.out.1 k_ (hs_).symm)) (fun hn_ => (.inr (Nat.le_trans (by first | exact HK.out.1 | exact (show Kept w _ (fun k_ => P0_ k_) from by repeat (first | (with_reducible first | exact HK.out | apply Kept.alloc | apply Kept.drewN | apply Kept.drew | refine Kept.setCell ?_ (.inr GW125.out) _) | exact HK.out)).1) hn_)))))
  have n2_ := Aside0.mk (Kept.then_ (S := (fun k_ => P0_ k_)) (by repeat (first | (with_reducible first | exact HK.out | apply Kept.alloc | apply Kept.drewN | apply Kept.drew | refine Kept.setCell ?_ (.inr GW125.out) _) | exact HK.out)) hkp (fun k_ hs_ => (fun e_ => (HO0.out.1 k_ e_.symm)) hs_))
  have n3_ := Aside0.mk (hb)
  clear BK125
  clear HK
  clear HB
  clear HO0
  have BK125 := n0_
  have HO128 := n1_
  have HK := n2_
  have HB := n3_
  clear n0_ n1_ n2_ n3_
  (try clear hb)
  (try clear hkp)
  (try clear ho0)
  obtain ⟨Ao10, co10, eo10⟩ := Kd.R_slice HO128.out
  (first | subst eo10 | (injection eo10 with f1_ f2_ f3_; have f4_ := f1_.symm; have f5_ := f3_.symm; clear f1_ f2_ f3_; subst f4_; subst f5_))
  refine hK.out _ _ ⟨(blk_cell BK125.out 0).trans rfl, (blk_cell BK125.out 1).trans rfl, (blk_cell BK125.out 2).trans rfl⟩ (fun hHeld => ?_)
  clear hK K
  refine norm_ (a' := ?_) ?_ ?_
  rotate_left
  · show Act.put _ (some 8) _ = _
    simp only [Act.put, List.setIfInBounds_toArray, List.set_cons_zero, List.set_cons_succ, i64_w, i32_w]
    rfl
  refine one_ (i := 6) (N := some 11) #[true, true, true, true, true, true, true, true, true, false, false] rfl rfl (one_of HT_.out (by kernel_rfl)) (by decide) (fun K hK => ?_)
  refine goes_ Tryd.func25 (by kernel_rfl) rfl #[.slice Ao10 t126.length co10, .int .i64 a1_1] (by rfl) rfl rfl (by (try simp only [List.map_toArray, List.map_cons, List.map_nil]); first | done | rfl | (simp only [List.length_drop, List.length_take]; rfl)) ?_
  with_reducible refine (image_whole.calls (fun k_ => some k_ = (.slice Ao10 t126.length co10 : Value).ownBlock) (.slice Ao10 t126.length co10) t126 a1_1 t129 w0 _ ?side1 ?side2 A4.out).mono ?_
  (case side1 => repeat (first | (with_reducible first | exact HB.out | apply below_alloc | apply pw_below_drewN | apply below_drew1 | refine below_set ?_ GE125.out) | exact HB.out))
  (case side2 => exact Kd.R_tight rfl HO128.out)
  rintro e w11 ⟨v130, rfl, ho0, hb, hkp⟩
  refine ⟨_, rfl, ?_⟩
  have n0_ := Aside0.mk (blk_kept (by (with_reducible repeat (first | refine blk_drewN ?_ _ | refine blk_drew ?_ | refine blk_alloc ?_ _)); exact BK125.out) hkp (fun hs_ => (fun e_ => (Kd.R_ne HO128.out BK125.out (by decide)) e_) hs_))
  have n1_ := Aside0.mk (Kd.R_mono (ok' := fun k_ => (P0_ k_ ∨ w.heap.size ≤ k_)) ho0 (fun k_ hk_ => Or.elim hk_ (fun hs_ => (HO128.out.1 k_ (hs_).symm)) (fun hn_ => (.inr (Nat.le_trans (by first | exact HK.out.1 | exact (show Kept w _ (fun k_ => P0_ k_) from by repeat (first | (with_reducible first | exact HK.out | apply Kept.alloc | apply Kept.drewN | apply Kept.drew | refine Kept.setCell ?_ (.inr GW125.out) _) | exact HK.out)).1) hn_)))))
  have n2_ := Aside0.mk (Kept.then_ (S := (fun k_ => P0_ k_)) (by repeat (first | (with_reducible first | exact HK.out | apply Kept.alloc | apply Kept.drewN | apply Kept.drew | refine Kept.setCell ?_ (.inr GW125.out) _) | exact HK.out)) hkp (fun k_ hs_ => (fun e_ => (HO128.out.1 k_ e_.symm)) hs_))
  have n3_ := Aside0.mk (hb)
  clear BK125
  clear HK
  clear HB
  clear HO128
  have BK125 := n0_
  have HO131 := n1_
  have HK := n2_
  have HB := n3_
  clear n0_ n1_ n2_ n3_
  (try clear hb)
  (try clear hkp)
  (try clear ho0)
  obtain ⟨Ao12, co12, eo12⟩ := Kd.R_slice HO131.out
  (first | subst eo12 | (injection eo12 with f1_ f2_ f3_; have f4_ := f1_.symm; have f5_ := f3_.symm; clear f1_ f2_ f3_; subst f4_; subst f5_))
  refine hK.out _ _ ⟨(blk_cell BK125.out 0).trans rfl, (blk_cell BK125.out 1).trans rfl, (blk_cell BK125.out 2).trans rfl⟩ (fun hHeld => ?_)
  clear hK K
  refine norm_ (a' := ?_) ?_ ?_
  rotate_left
  · show Act.put _ (some 11) _ = _
    simp only [Act.put, List.setIfInBounds_toArray, List.set_cons_zero, List.set_cons_succ, i64_w, i32_w]
    rfl
  refine one_ (i := 9) (N := some 14) #[true, true, true, true, true, true, true, true, true, true, false] rfl rfl (one_of HT_.out (by kernel_rfl)) (by decide) (fun K hK => ?_)
  refine goes_ Tryd.func26 (by kernel_rfl) rfl #[.slice Ao12 t129.length co12, .int .i64 a1_2] (by rfl) rfl rfl (by (try simp only [List.map_toArray, List.map_cons, List.map_nil]); first | done | rfl | (simp only [List.length_drop, List.length_take]; rfl)) ?_
  with_reducible refine (image_nat.calls (fun k_ => some k_ = (.slice Ao12 t129.length co12 : Value).ownBlock) (.slice Ao12 t129.length co12) t129 a1_2 t132 w0 _ ?side1 ?side2 A5.out).mono ?_
  (case side1 => repeat (first | (with_reducible first | exact HB.out | apply below_alloc | apply pw_below_drewN | apply below_drew1 | refine below_set ?_ GE125.out) | exact HB.out))
  (case side2 => exact Kd.R_tight rfl HO131.out)
  rintro e w13 ⟨v133, rfl, ho0, hb, hkp⟩
  refine ⟨_, rfl, ?_⟩
  have n0_ := Aside0.mk (blk_kept (by (with_reducible repeat (first | refine blk_drewN ?_ _ | refine blk_drew ?_ | refine blk_alloc ?_ _)); exact BK125.out) hkp (fun hs_ => (fun e_ => (Kd.R_ne HO131.out BK125.out (by decide)) e_) hs_))
  have n1_ := Aside0.mk (Kd.R_mono (ok' := fun k_ => (P0_ k_ ∨ w.heap.size ≤ k_)) ho0 (fun k_ hk_ => Or.elim hk_ (fun hs_ => (HO131.out.1 k_ (hs_).symm)) (fun hn_ => (.inr (Nat.le_trans (by first | exact HK.out.1 | exact (show Kept w _ (fun k_ => P0_ k_) from by repeat (first | (with_reducible first | exact HK.out | apply Kept.alloc | apply Kept.drewN | apply Kept.drew | refine Kept.setCell ?_ (.inr GW125.out) _) | exact HK.out)).1) hn_)))))
  have n2_ := Aside0.mk (Kept.then_ (S := (fun k_ => P0_ k_)) (by repeat (first | (with_reducible first | exact HK.out | apply Kept.alloc | apply Kept.drewN | apply Kept.drew | refine Kept.setCell ?_ (.inr GW125.out) _) | exact HK.out)) hkp (fun k_ hs_ => (fun e_ => (HO131.out.1 k_ e_.symm)) hs_))
  have n3_ := Aside0.mk (hb)
  clear BK125
  clear HK
  clear HB
  clear HO131
  have BK125 := n0_
  have HO134 := n1_
  have HK := n2_
  have HB := n3_
  clear n0_ n1_ n2_ n3_
  (try clear hb)
  (try clear hkp)
  (try clear ho0)
  refine hK.out _ _ ⟨(blk_cell BK125.out 0).trans rfl, (blk_cell BK125.out 1).trans rfl, (blk_cell BK125.out 2).trans rfl⟩ (fun hHeld => ?_)
  clear hK K
  refine norm_ (a' := ?_) ?_ ?_
  rotate_left
  · show Act.put _ (some 14) _ = _
    simp only [Act.put, List.setIfInBounds_toArray, List.set_cons_zero, List.set_cons_succ, i64_w, i32_w]
    rfl
  refine pure_ (i := 10) (N := some 4) (v := ?_) (a' := ?_) #[true, true, true, true, true, true, true, true, true, true, true] rfl rfl (any_of HT_.out (by kernel_rfl)) (fun _ _ _ h => h) (Or.inl ⟨by rfl, ?_⟩) ?_ ?_
  rotate_left
  · intro w'
    go_simp
    with_reducible rfl
  rotate_left
  · simp only [Act.put, List.setIfInBounds_toArray, List.set_cons_zero, List.set_cons_succ, i64_w, i32_w]
    rfl
  refine done_ (done_of HT_.out (by kernel_rfl)) ?_
  try go_wp2
  go_ret
  exact ⟨_, by first | rfl | (simp [errW_none, errW_some] <;> rfl) | (simp [*, errW_none, errW_some] <;> rfl), by (with_reducible repeat (first | apply Kd.R_alloc | apply Kd.R_drewN | apply Kd.R_drew)); exact HO134.out, by repeat (first | (with_reducible first | exact HB.out | apply below_alloc | apply pw_below_drewN | apply below_drew1 | refine below_set ?_ GE125.out) | exact HB.out), by repeat (first | (with_reducible first | exact HK.out | apply Kept.alloc | apply Kept.drewN | apply Kept.drew | refine Kept.setCell ?_ (.inr GW125.out) _) | exact HK.out)⟩
def image_typed.f (a0 : Int) : Option (Bool) := if 1 ≤ a0 then (some (decide (a0 ≤ 4))) else (some false)
set_option maxHeartbeats 8000000 in
set_option maxRecDepth 100000 in
theorem image_typed.calls (a0 : Int) (r : Bool) (w : World) (h : image_typed.f a0 = some r) :
    Calls Tryd.prog 80 #[.int .i64 a0] w fun e w' => e = .returned (.bool r) ∧ Drawn0 w w' := by
  have H : (if 1 ≤ a0 then (some (decide (a0 ≤ 4))) else (some false)) = some r := h
  clear h
  by_cases c2 : 1 ≤ a0
  · rw [if_pos c2] at H
    have c2b0 : decide (1 ≤ a0) = true := decide_eq_true c2
    clear c2
    obtain rfl := Option.some.inj H
    go_enter Tryd.func80, Tryd.ntmps80
    go_wp2
    go_ret
    exact ⟨by first | rfl | (simp; done) | (simp [*]; done), by repeat (first | exact Drawn0.refl _ | apply Drawn0.step)⟩
  · rw [if_neg c2] at H
    have c2b0 : decide (1 ≤ a0) = false := decide_eq_false c2
    clear c2
    obtain rfl := Option.some.inj H
    go_enter Tryd.func80, Tryd.ntmps80
    go_wp2
    go_ret
    exact ⟨by first | rfl | (simp; done) | (simp [*]; done), by repeat (first | exact Drawn0.refl _ | apply Drawn0.step)⟩
def image_types_1.f (a0 : Int) : Option (Bool) := (image_typed.f a0).bind fun t135 => (some (!t135))
set_option maxHeartbeats 8000000 in
set_option maxRecDepth 100000 in
theorem image_types_1.calls (a0 : Int) (r : Bool) (w : World) (h : image_types_1.f a0 = some r) :
    Calls Tryd.prog 103 #[.int .i64 a0] w fun e w' => e = .returned (.bool r) ∧ Drawn0 w w' := by
  have H : ((image_typed.f a0).bind fun t135 => (some (!t135))) = some r := h
  clear h
  replace H := Option.bind_eq_some_iff.mp H
  obtain ⟨t135, A20, H⟩ := H
  replace H : (some (!t135)) = some r := H
  have A2 := Aside0.mk A20
  clear A20
  obtain rfl := Option.some.inj H
  go_enter Tryd.func103, Tryd.ntmps103
  go_wp2_with (first | ((with_reducible refine gate_callee (f := 80) rfl ?_); refine goesL_ (some 4) rfl rfl Tryd.func80 (by kernel_rfl) rfl #[.int .i64 a0] rfl (by (try simp only [List.map_toArray, List.map_cons, List.map_nil]); first | done | rfl | (simp only [List.length_drop, List.length_take]; rfl)) ?_; (with_reducible refine (image_typed.calls a0 t135 _ A2.out).mono ?_); rintro e w' ⟨rfl, ⟨nd, rfl⟩⟩; refine ⟨_, rfl, ?_⟩))
  go_ret
  exact ⟨by first | rfl | (simp; done) | (simp [*]; done), by repeat (first | exact Drawn0.refl _ | apply Drawn0.step)⟩
def image_fn_1.f (a0_0 : Int) (a0_1 : Int) (a0_2 : Int) : Option (Bool) := if a0_0 < 1 then (some true) else (if a0_0 > 33 then (some true) else (if a0_2 < 0 then (some true) else (some (decide (a0_2 > 4)))))
set_option maxHeartbeats 8000000 in
set_option maxRecDepth 100000 in
theorem image_fn_1.calls (a0_0 : Int) (a0_1 : Int) (a0_2 : Int) (r : Bool) (w : World) (h : image_fn_1.f a0_0 a0_1 a0_2 = some r) :
    Calls Tryd.prog 86 #[.agg #[.int .i64 a0_0, .int .i64 a0_1, .int .i64 a0_2]] w fun e w' => e = .returned (.bool r) ∧ Below w.heap.size w w' := by
  have hu50 := Tryd.underlying50
  have HB := Aside0.mk (Below.refl w.heap.size w)
  have H : (if a0_0 < 1 then (some true) else (if a0_0 > 33 then (some true) else (if a0_2 < 0 then (some true) else (some (decide (a0_2 > 4)))))) = some r := h
  clear h
  by_cases c2 : a0_0 < 1
  · rw [if_pos c2] at H
    have c2b0 : decide (a0_0 < 1) = true := decide_eq_true c2
    clear c2
    obtain rfl := Option.some.inj H
    go_enter Tryd.func86, Tryd.ntmps86
    go_wp2_with (first | ((with_reducible refine gate_dst (N := 1) rfl ?_); refine box_event ?hg (N := 1) ?hd (cs := #[.int .i64 a0_0, .int .i64 a0_1, .int .i64 a0_2]) (t := 50) ?hr ?_; (case hd => rfl); (case hg => rfl); (case hr => first | (go_simp; done) | (go_simp; rfl)); intro gb136 hg w3 hbox hb; have n0_ := Aside0.mk (below_step (by repeat (first | (with_reducible first | exact HB.out | apply below_alloc | apply pw_below_drewN | apply below_drew1) | exact HB.out)) hb); have n1_ := Aside0.mk (hbox); have n2_ := Aside0.mk ((by rw [hg]; exact (below_size (by repeat (first | (with_reducible first | exact HB.out | apply below_alloc | apply pw_below_drewN | apply below_drew1) | exact HB.out))) : w.heap.size ≤ gb136)); have n3_ := Aside0.mk ((by rw [hg]; exact (below_size (by repeat (first | (with_reducible first | exact HB.out | apply below_alloc | apply pw_below_drewN | apply below_drew1) | exact HB.out))) : w.heap.size ≤ gb136)); clear HB; have HB := n0_; have BK136 := n1_; have GW136 := n2_; have GE136 := n3_; clear n0_ n1_ n2_ n3_; clear hb hbox hg; have hcz4_0 : w3.cell? ⟨gb136, 0, none⟩ = some (.int .i64 a0_0) := (blk_cell BK136.out 0).trans rfl; have hcz4_1 : w3.cell? ⟨gb136, 1, none⟩ = some (.int .i64 a0_1) := (blk_cell BK136.out 1).trans rfl; have hcz4_2 : w3.cell? ⟨gb136, 2, none⟩ = some (.int .i64 a0_2) := (blk_cell BK136.out 2).trans rfl; have hfz4_0 := blk_frozen BK136.out 0; have hfz4_1 := blk_frozen BK136.out 1; have hfz4_2 := blk_frozen BK136.out 2))
    go_ret
    exact ⟨by first | rfl | (simp [errW_none, errW_some] <;> rfl) | (simp [*, errW_none, errW_some] <;> rfl), by repeat (first | (with_reducible first | exact HB.out | apply below_alloc | apply pw_below_drewN | apply below_drew1 | refine below_set ?_ GE136.out) | exact HB.out)⟩
  · rw [if_neg c2] at H
    have c2b0 : decide (a0_0 < 1) = false := decide_eq_false c2
    clear c2
    by_cases c5 : a0_0 > 33
    · rw [if_pos c5] at H
      have c5b0 : decide (33 < a0_0) = true := decide_eq_true c5
      clear c5
      obtain rfl := Option.some.inj H
      go_enter Tryd.func86, Tryd.ntmps86
      go_wp2_with (first | ((with_reducible refine gate_dst (N := 1) rfl ?_); refine box_event ?hg (N := 1) ?hd (cs := #[.int .i64 a0_0, .int .i64 a0_1, .int .i64 a0_2]) (t := 50) ?hr ?_; (case hd => rfl); (case hg => rfl); (case hr => first | (go_simp; done) | (go_simp; rfl)); intro gb136 hg w6 hbox hb; have n0_ := Aside0.mk (below_step (by repeat (first | (with_reducible first | exact HB.out | apply below_alloc | apply pw_below_drewN | apply below_drew1) | exact HB.out)) hb); have n1_ := Aside0.mk (hbox); have n2_ := Aside0.mk ((by rw [hg]; exact (below_size (by repeat (first | (with_reducible first | exact HB.out | apply below_alloc | apply pw_below_drewN | apply below_drew1) | exact HB.out))) : w.heap.size ≤ gb136)); have n3_ := Aside0.mk ((by rw [hg]; exact (below_size (by repeat (first | (with_reducible first | exact HB.out | apply below_alloc | apply pw_below_drewN | apply below_drew1) | exact HB.out))) : w.heap.size ≤ gb136)); clear HB; have HB := n0_; have BK136 := n1_; have GW136 := n2_; have GE136 := n3_; clear n0_ n1_ n2_ n3_; clear hb hbox hg; have hcz7_0 : w6.cell? ⟨gb136, 0, none⟩ = some (.int .i64 a0_0) := (blk_cell BK136.out 0).trans rfl; have hcz7_1 : w6.cell? ⟨gb136, 1, none⟩ = some (.int .i64 a0_1) := (blk_cell BK136.out 1).trans rfl; have hcz7_2 : w6.cell? ⟨gb136, 2, none⟩ = some (.int .i64 a0_2) := (blk_cell BK136.out 2).trans rfl; have hfz7_0 := blk_frozen BK136.out 0; have hfz7_1 := blk_frozen BK136.out 1; have hfz7_2 := blk_frozen BK136.out 2))
      go_ret
      exact ⟨by first | rfl | (simp [errW_none, errW_some] <;> rfl) | (simp [*, errW_none, errW_some] <;> rfl), by repeat (first | (with_reducible first | exact HB.out | apply below_alloc | apply pw_below_drewN | apply below_drew1 | refine below_set ?_ GE136.out) | exact HB.out)⟩
    · rw [if_neg c5] at H
      have c5b0 : decide (33 < a0_0) = false := decide_eq_false c5
      clear c5
      by_cases c8 : a0_2 < 0
      · rw [if_pos c8] at H
        have c8b0 : decide (a0_2 < 0) = true := decide_eq_true c8
        clear c8
        obtain rfl := Option.some.inj H
        go_enter Tryd.func86, Tryd.ntmps86
        go_wp2_with (first | ((with_reducible refine gate_dst (N := 1) rfl ?_); refine box_event ?hg (N := 1) ?hd (cs := #[.int .i64 a0_0, .int .i64 a0_1, .int .i64 a0_2]) (t := 50) ?hr ?_; (case hd => rfl); (case hg => rfl); (case hr => first | (go_simp; done) | (go_simp; rfl)); intro gb136 hg w9 hbox hb; have n0_ := Aside0.mk (below_step (by repeat (first | (with_reducible first | exact HB.out | apply below_alloc | apply pw_below_drewN | apply below_drew1) | exact HB.out)) hb); have n1_ := Aside0.mk (hbox); have n2_ := Aside0.mk ((by rw [hg]; exact (below_size (by repeat (first | (with_reducible first | exact HB.out | apply below_alloc | apply pw_below_drewN | apply below_drew1) | exact HB.out))) : w.heap.size ≤ gb136)); have n3_ := Aside0.mk ((by rw [hg]; exact (below_size (by repeat (first | (with_reducible first | exact HB.out | apply below_alloc | apply pw_below_drewN | apply below_drew1) | exact HB.out))) : w.heap.size ≤ gb136)); clear HB; have HB := n0_; have BK136 := n1_; have GW136 := n2_; have GE136 := n3_; clear n0_ n1_ n2_ n3_; clear hb hbox hg; have hcz10_0 : w9.cell? ⟨gb136, 0, none⟩ = some (.int .i64 a0_0) := (blk_cell BK136.out 0).trans rfl; have hcz10_1 : w9.cell? ⟨gb136, 1, none⟩ = some (.int .i64 a0_1) := (blk_cell BK136.out 1).trans rfl; have hcz10_2 : w9.cell? ⟨gb136, 2, none⟩ = some (.int .i64 a0_2) := (blk_cell BK136.out 2).trans rfl; have hfz10_0 := blk_frozen BK136.out 0; have hfz10_1 := blk_frozen BK136.out 1; have hfz10_2 := blk_frozen BK136.out 2))
        go_ret
        exact ⟨by first | rfl | (simp [errW_none, errW_some] <;> rfl) | (simp [*, errW_none, errW_some] <;> rfl), by repeat (first | (with_reducible first | exact HB.out | apply below_alloc | apply pw_below_drewN | apply below_drew1 | refine below_set ?_ GE136.out) | exact HB.out)⟩
      · rw [if_neg c8] at H
        have c8b0 : decide (a0_2 < 0) = false := decide_eq_false c8
        clear c8
        obtain rfl := Option.some.inj H
        go_enter Tryd.func86, Tryd.ntmps86
        go_wp2_with (first | ((with_reducible refine gate_dst (N := 1) rfl ?_); refine box_event ?hg (N := 1) ?hd (cs := #[.int .i64 a0_0, .int .i64 a0_1, .int .i64 a0_2]) (t := 50) ?hr ?_; (case hd => rfl); (case hg => rfl); (case hr => first | (go_simp; done) | (go_simp; rfl)); intro gb136 hg w11 hbox hb; have n0_ := Aside0.mk (below_step (by repeat (first | (with_reducible first | exact HB.out | apply below_alloc | apply pw_below_drewN | apply below_drew1) | exact HB.out)) hb); have n1_ := Aside0.mk (hbox); have n2_ := Aside0.mk ((by rw [hg]; exact (below_size (by repeat (first | (with_reducible first | exact HB.out | apply below_alloc | apply pw_below_drewN | apply below_drew1) | exact HB.out))) : w.heap.size ≤ gb136)); have n3_ := Aside0.mk ((by rw [hg]; exact (below_size (by repeat (first | (with_reducible first | exact HB.out | apply below_alloc | apply pw_below_drewN | apply below_drew1) | exact HB.out))) : w.heap.size ≤ gb136)); clear HB; have HB := n0_; have BK136 := n1_; have GW136 := n2_; have GE136 := n3_; clear n0_ n1_ n2_ n3_; clear hb hbox hg; have hcz12_0 : w11.cell? ⟨gb136, 0, none⟩ = some (.int .i64 a0_0) := (blk_cell BK136.out 0).trans rfl; have hcz12_1 : w11.cell? ⟨gb136, 1, none⟩ = some (.int .i64 a0_1) := (blk_cell BK136.out 1).trans rfl; have hcz12_2 : w11.cell? ⟨gb136, 2, none⟩ = some (.int .i64 a0_2) := (blk_cell BK136.out 2).trans rfl; have hfz12_0 := blk_frozen BK136.out 0; have hfz12_1 := blk_frozen BK136.out 1; have hfz12_2 := blk_frozen BK136.out 2))
        go_ret
        exact ⟨by first | rfl | (simp [errW_none, errW_some] <;> rfl) | (simp [*, errW_none, errW_some] <;> rfl), by repeat (first | (with_reducible first | exact HB.out | apply below_alloc | apply pw_below_drewN | apply below_drew1 | refine below_set ?_ GE136.out) | exact HB.out)⟩
end Go.Proofs.YteidgpaakoeefaaDoor.PIm
namespace Go.Proofs.YteidgpaakoeefaaDoor.PIm
open Go.RowKit Go.Proofs.YteidgpaakoeefaaDoorW.PrintWords Go.Proofs.YteidgpaakoeefaaDoorW.PrintLast Go.Proofs.YteidgpaakoeefaaDoorW.PrintMore
attribute [local go_sem] max2_int min2_int max_two min_two max_three min_three max_four min_four   -- for this text's walks alone
set_option linter.unusedVariables false
set_option linter.unusedSimpArgs false
def image_glob.j0 : Nat → Int → Bool → Int → Int → Int → Option (Bool)
  | 0, _, _, _, _, _ => none
  | k + 1, x3, x4, x138000, x138001, x138002 => if x4 = true then ((image_typed.f x138000).bind fun t138 => (if t138 = true then (if 0 ≤ x138001 then (if x138001 ≤ 256 then (if 0 = 9223372036854775807 then (some true) else (if 0 ≤ x138002 then (some (decide (x138002 ≤ 0))) else (some false))) else (some false)) else (some false)) else (some false))) else (if x138000 = 3 then ((image_typed.f x138000).bind fun t139 => (if t139 = true then (if 0 ≤ x138001 then (if x138001 ≤ 256 then (if 1 = 9223372036854775807 then (some true) else (if 0 ≤ x138002 then (some (decide (x138002 ≤ 1))) else (some false))) else (some false)) else (some false)) else (some false))) else ((image_typed.f x138000).bind fun t140 => (if t140 = true then (if 0 ≤ x138001 then (if x138001 ≤ 256 then (if x3 = 9223372036854775807 then (some true) else (if 0 ≤ x138002 then (some (decide (x138002 ≤ x3))) else (some false))) else (some false)) else (some false)) else (some false))))
def image_glob.f (k : Nat) (a0_0 : Int) (a0_1 : Int) (a0_2 : Int) : Option (Bool) := if a0_1 > 0 then (image_glob.j0 k 9223372036854775807 (decide (a0_1 > 0)) a0_0 a0_1 a0_2) else (image_glob.j0 k 9223372036854775807 (a0_0 == 4) a0_0 a0_1 a0_2)
set_option maxHeartbeats 8000000 in
set_option maxRecDepth 100000 in
theorem image_glob.calls (k : Nat) (a0_0 : Int) (a0_1 : Int) (a0_2 : Int) (r : Bool) (w : World) (h : image_glob.f k a0_0 a0_1 a0_2 = some r) :
    Calls Tryd.prog 54 #[.agg #[.int .i64 a0_0, .int .i64 a0_1, .int .i64 a0_2]] w fun e w' => e = .returned (.bool r) ∧ Below w.heap.size w w' := by
  have hu48 := Tryd.underlying48
  have HB := Aside0.mk (Below.refl w.heap.size w)
  have H : (if a0_1 > 0 then (image_glob.j0 k 9223372036854775807 (decide (a0_1 > 0)) a0_0 a0_1 a0_2) else (image_glob.j0 k 9223372036854775807 (a0_0 == 4) a0_0 a0_1 a0_2)) = some r := h
  clear h
  have HC2 := Aside0.mk H
  clear H
  go_enter Tryd.func54, Tryd.ntmps54
  go_upto_if 4 with (first | ((with_reducible refine gate_dst (N := 1) rfl ?_); refine box_event ?hg (N := 1) ?hd (cs := #[.int .i64 a0_0, .int .i64 a0_1, .int .i64 a0_2]) (t := 48) ?hr ?_; (case hd => rfl); (case hg => rfl); (case hr => first | (go_simp; done) | (go_simp; rfl)); intro gb137 hg w3 hbox hb; have n0_ := Aside0.mk (below_step (by repeat (first | (with_reducible first | exact HB.out | apply below_alloc | apply pw_below_drewN | apply below_drew1) | exact HB.out)) hb); have n1_ := Aside0.mk (hbox); have n2_ := Aside0.mk ((by rw [hg]; exact (below_size (by repeat (first | (with_reducible first | exact HB.out | apply below_alloc | apply pw_below_drewN | apply below_drew1) | exact HB.out))) : w.heap.size ≤ gb137)); have n3_ := Aside0.mk ((by rw [hg]; exact (below_size (by repeat (first | (with_reducible first | exact HB.out | apply below_alloc | apply pw_below_drewN | apply below_drew1) | exact HB.out))) : w.heap.size ≤ gb137)); clear HB; have HB := n0_; have BK137 := n1_; have GW137 := n2_; have GE137 := n3_; clear n0_ n1_ n2_ n3_; clear hb hbox hg; have hcz4_0 : w3.cell? ⟨gb137, 0, none⟩ = some (.int .i64 a0_0) := (blk_cell BK137.out 0).trans rfl; have hcz4_1 : w3.cell? ⟨gb137, 1, none⟩ = some (.int .i64 a0_1) := (blk_cell BK137.out 1).trans rfl; have hcz4_2 : w3.cell? ⟨gb137, 2, none⟩ = some (.int .i64 a0_2) := (blk_cell BK137.out 2).trans rfl; have hfz4_0 := blk_frozen BK137.out 0; have hfz4_1 := blk_frozen BK137.out 1; have hfz4_2 := blk_frozen BK137.out 2))
  (try simp only [Act.put, List.setIfInBounds_toArray, List.set_cons_zero, List.set_cons_succ])
  go_cut [4] (fun v4 wc => ∃ (kq : Nat) (x4_1 : Bool), v4 = .bool x4_1 ∧ Aside0 (image_glob.j0 kq 9223372036854775807 x4_1 a0_0 a0_1 a0_2 = some r) ∧ Aside0 (kq ≤ k) ∧ Aside0 (wc.heap[gb137]? = some (.cells #[.int .i64 a0_0, .int .i64 a0_1, .int .i64 a0_2] 48 (0, 0))) ∧ Aside0 (Below w.heap.size w wc))
  case first =>
    have H := HC2.out
    clear HC2
    by_cases c5 : a0_1 > 0
    · rw [if_pos c5] at H
      have c5b0 : decide (0 < a0_1) = true := decide_eq_true c5
      clear c5
      (first | rw [c5b0] | (simp only [i64_w, i32_w]; rw [c5b0]) | skip)
      have H' := Aside0.mk H
      clear H
      go_wp2
      go_meet
      case rel => exact ⟨_, (decide (a0_1 > 0)), (by first | rfl | (simp; done) | (simp [*]; done)), H', ⟨by first | omega | exact Nat.le_refl _⟩, ⟨by (with_reducible repeat (first | refine blk_drewN ?_ _ | refine blk_drew ?_ | refine blk_alloc ?_ _)); exact BK137.out⟩, ⟨by repeat (first | (with_reducible first | exact HB.out | apply below_alloc | apply pw_below_drewN | apply below_drew1 | refine below_set ?_ GE137.out) | exact HB.out)⟩⟩
    · rw [if_neg c5] at H
      have c5b0 : decide (0 < a0_1) = false := decide_eq_false c5
      clear c5
      (first | rw [c5b0] | (simp only [i64_w, i32_w]; rw [c5b0]) | skip)
      have H' := Aside0.mk H
      clear H
      have hcz6_0 : w3.cell? ⟨gb137, 0, none⟩ = some (.int .i64 a0_0) := (blk_cell BK137.out 0).trans rfl
      have hcz6_1 : w3.cell? ⟨gb137, 1, none⟩ = some (.int .i64 a0_1) := (blk_cell BK137.out 1).trans rfl
      have hcz6_2 : w3.cell? ⟨gb137, 2, none⟩ = some (.int .i64 a0_2) := (blk_cell BK137.out 2).trans rfl
      have hfz6_0 := blk_frozen BK137.out 0
      have hfz6_1 := blk_frozen BK137.out 1
      have hfz6_2 := blk_frozen BK137.out 2
      go_wp2
      go_meet
      case rel => exact ⟨_, ((a0_0 == 4)), (by first | rfl | (simp; done) | (simp [*]; done)), H', ⟨by first | omega | exact Nat.le_refl _⟩, ⟨by (with_reducible repeat (first | refine blk_drewN ?_ _ | refine blk_drew ?_ | refine blk_alloc ?_ _)); exact BK137.out⟩, ⟨by repeat (first | (with_reducible first | exact HB.out | apply below_alloc | apply pw_below_drewN | apply below_drew1 | refine below_set ?_ GE137.out) | exact HB.out)⟩⟩
  case rest =>
    clear HC2
    try clear p2
    try clear c5
    try clear c5b0
    try clear hcz4_0
    try clear hcz4_1
    try clear hcz4_2
    try clear hcz6_0
    try clear hcz6_1
    try clear hcz6_2
    try clear hfz4_0
    try clear hfz4_1
    try clear hfz4_2
    try clear hfz6_0
    try clear hfz6_1
    try clear hfz6_2
    obtain ⟨kq, x4_1, rfl, HA, HJ1, BK137, HB⟩ := hcut
    cases kq with
    | zero => exact absurd HA.out (by simp [image_glob.j0])
    | succ kj1 =>
      have H := HA.out
      clear HA
      simp only [image_glob.j0] at H
      by_cases c7 : x4_1 = true
      · subst c7
        have H1 : ((image_typed.f a0_0).bind fun t138 => (if t138 = true then (if 0 ≤ a0_1 then (if a0_1 ≤ 256 then (if 0 = 9223372036854775807 then (some true) else (if 0 ≤ a0_2 then (some (decide (a0_2 ≤ 0))) else (some false))) else (some false)) else (some false)) else (some false))) = some r := by rw [if_pos rfl] at H; exact H
        clear H
        have H := H1
        clear H1
        replace H := Option.bind_eq_some_iff.mp H
        obtain ⟨t138, A80, H⟩ := H
        replace H : (if t138 = true then (if 0 ≤ a0_1 then (if a0_1 ≤ 256 then (if 0 = 9223372036854775807 then (some true) else (if 0 ≤ a0_2 then (some (decide (a0_2 ≤ 0))) else (some false))) else (some false)) else (some false)) else (some false)) = some r := H
        have A8 := Aside0.mk A80
        clear A80
        by_cases c9 : t138 = true
        · subst c9
          have H1 : (if 0 ≤ a0_1 then (if a0_1 ≤ 256 then (if 0 = 9223372036854775807 then (some true) else (if 0 ≤ a0_2 then (some (decide (a0_2 ≤ 0))) else (some false))) else (some false)) else (some false)) = some r := by rw [if_pos rfl] at H; exact H
          clear H
          have H := H1
          clear H1
          by_cases c10 : 0 ≤ a0_1
          · rw [if_pos c10] at H
            have c10b0 : decide (0 ≤ a0_1) = true := decide_eq_true c10
            clear c10
            by_cases c11 : a0_1 ≤ 256
            · rw [if_pos c11] at H
              have c11b0 : decide (a0_1 ≤ 256) = true := decide_eq_true c11
              clear c11
              by_cases c12 : 0 = 9223372036854775807
              · exfalso; (first | (exact absurd c12 (by decide)) | (rw [if_pos c12] at H; cases H; done) | (simp [c12] at H; done) | (rw [if_pos c12] at H; simp at H; done))
              · rw [if_neg c12] at H
                have c12b0 : (0 == 9223372036854775807) = false := beq_eq_false_iff_ne.mpr c12
                have c12b1 : (0 != 9223372036854775807) = true := bne_iff_ne.mpr c12
                by_cases c14 : 0 ≤ a0_2
                · rw [if_pos c14] at H
                  have c14b0 : decide (0 ≤ a0_2) = true := decide_eq_true c14
                  clear c14
                  obtain rfl := Option.some.inj H
                  have hcz15_0 : wc.cell? ⟨gb137, 0, none⟩ = some (.int .i64 a0_0) := (blk_cell BK137.out 0).trans rfl
                  have hcz15_1 : wc.cell? ⟨gb137, 1, none⟩ = some (.int .i64 a0_1) := (blk_cell BK137.out 1).trans rfl
                  have hcz15_2 : wc.cell? ⟨gb137, 2, none⟩ = some (.int .i64 a0_2) := (blk_cell BK137.out 2).trans rfl
                  have hfz15_0 := blk_frozen BK137.out 0
                  have hfz15_1 := blk_frozen BK137.out 1
                  have hfz15_2 := blk_frozen BK137.out 2
                  go_wp2_with (first | ((with_reducible refine gate_callee (f := 80) rfl ?_); refine goesL_ (some 17) rfl rfl Tryd.func80 (by kernel_rfl) rfl #[.int .i64 a0_0] rfl (by (try simp only [List.map_toArray, List.map_cons, List.map_nil]); first | done | rfl | (simp only [List.length_drop, List.length_take]; rfl)) ?_; (with_reducible refine (image_typed.calls a0_0 true _ A8.out).mono ?_); rintro e w' ⟨rfl, ⟨nd, rfl⟩⟩; refine ⟨_, rfl, ?_⟩))
                  go_ret
                  exact ⟨by first | rfl | (simp [errW_none, errW_some] <;> rfl) | (simp [*, errW_none, errW_some] <;> rfl), by repeat (first | (with_reducible first | exact HB.out | apply below_alloc | apply pw_below_drewN | apply below_drew1 | refine below_set ?_ GE137.out) | exact HB.out)⟩
                · rw [if_neg c14] at H
                  have c14b0 : decide (0 ≤ a0_2) = false := decide_eq_false c14
                  clear c14
                  obtain rfl := Option.some.inj H
                  have hcz16_0 : wc.cell? ⟨gb137, 0, none⟩ = some (.int .i64 a0_0) := (blk_cell BK137.out 0).trans rfl
                  have hcz16_1 : wc.cell? ⟨gb137, 1, none⟩ = some (.int .i64 a0_1) := (blk_cell BK137.out 1).trans rfl
                  have hcz16_2 : wc.cell? ⟨gb137, 2, none⟩ = some (.int .i64 a0_2) := (blk_cell BK137.out 2).trans rfl
                  have hfz16_0 := blk_frozen BK137.out 0
                  have hfz16_1 := blk_frozen BK137.out 1
                  have hfz16_2 := blk_frozen BK137.out 2
                  go_wp2_with (first | ((with_reducible refine gate_callee (f := 80) rfl ?_); refine goesL_ (some 17) rfl rfl Tryd.func80 (by kernel_rfl) rfl #[.int .i64 a0_0] rfl (by (try simp only [List.map_toArray, List.map_cons, List.map_nil]); first | done | rfl | (simp only [List.length_drop, List.length_take]; rfl)) ?_; (with_reducible refine (image_typed.calls a0_0 true _ A8.out).mono ?_); rintro e w' ⟨rfl, ⟨nd, rfl⟩⟩; refine ⟨_, rfl, ?_⟩))
                  go_ret
                  exact ⟨by first | rfl | (simp [errW_none, errW_some] <;> rfl) | (simp [*, errW_none, errW_some] <;> rfl), by repeat (first | (with_reducible first | exact HB.out | apply below_alloc | apply pw_below_drewN | apply below_drew1 | refine below_set ?_ GE137.out) | exact HB.out)⟩
            · rw [if_neg c11] at H
              have c11b0 : decide (a0_1 ≤ 256) = false := decide_eq_false c11
              clear c11
              obtain rfl := Option.some.inj H
              have hcz17_0 : wc.cell? ⟨gb137, 0, none⟩ = some (.int .i64 a0_0) := (blk_cell BK137.out 0).trans rfl
              have hcz17_1 : wc.cell? ⟨gb137, 1, none⟩ = some (.int .i64 a0_1) := (blk_cell BK137.out 1).trans rfl
              have hcz17_2 : wc.cell? ⟨gb137, 2, none⟩ = some (.int .i64 a0_2) := (blk_cell BK137.out 2).trans rfl
              have hfz17_0 := blk_frozen BK137.out 0
              have hfz17_1 := blk_frozen BK137.out 1
              have hfz17_2 := blk_frozen BK137.out 2
              go_wp2_with (first | ((with_reducible refine gate_callee (f := 80) rfl ?_); refine goesL_ (some 17) rfl rfl Tryd.func80 (by kernel_rfl) rfl #[.int .i64 a0_0] rfl (by (try simp only [List.map_toArray, List.map_cons, List.map_nil]); first | done | rfl | (simp only [List.length_drop, List.length_take]; rfl)) ?_; (with_reducible refine (image_typed.calls a0_0 true _ A8.out).mono ?_); rintro e w' ⟨rfl, ⟨nd, rfl⟩⟩; refine ⟨_, rfl, ?_⟩))
              go_ret
              exact ⟨by first | rfl | (simp [errW_none, errW_some] <;> rfl) | (simp [*, errW_none, errW_some] <;> rfl), by repeat (first | (with_reducible first | exact HB.out | apply below_alloc | apply pw_below_drewN | apply below_drew1 | refine below_set ?_ GE137.out) | exact HB.out)⟩
          · rw [if_neg c10] at H
            have c10b0 : decide (0 ≤ a0_1) = false := decide_eq_false c10
            clear c10
            obtain rfl := Option.some.inj H
            have hcz18_0 : wc.cell? ⟨gb137, 0, none⟩ = some (.int .i64 a0_0) := (blk_cell BK137.out 0).trans rfl
            have hcz18_1 : wc.cell? ⟨gb137, 1, none⟩ = some (.int .i64 a0_1) := (blk_cell BK137.out 1).trans rfl
            have hcz18_2 : wc.cell? ⟨gb137, 2, none⟩ = some (.int .i64 a0_2) := (blk_cell BK137.out 2).trans rfl
            have hfz18_0 := blk_frozen BK137.out 0
            have hfz18_1 := blk_frozen BK137.out 1
            have hfz18_2 := blk_frozen BK137.out 2
            go_wp2_with (first | ((with_reducible refine gate_callee (f := 80) rfl ?_); refine goesL_ (some 17) rfl rfl Tryd.func80 (by kernel_rfl) rfl #[.int .i64 a0_0] rfl (by (try simp only [List.map_toArray, List.map_cons, List.map_nil]); first | done | rfl | (simp only [List.length_drop, List.length_take]; rfl)) ?_; (with_reducible refine (image_typed.calls a0_0 true _ A8.out).mono ?_); rintro e w' ⟨rfl, ⟨nd, rfl⟩⟩; refine ⟨_, rfl, ?_⟩))
            go_ret
            exact ⟨by first | rfl | (simp [errW_none, errW_some] <;> rfl) | (simp [*, errW_none, errW_some] <;> rfl), by repeat (first | (with_reducible first | exact HB.out | apply below_alloc | apply pw_below_drewN | apply below_drew1 | refine below_set ?_ GE137.out) | exact HB.out)⟩
        · replace c9 := Bool.eq_false_iff.mpr c9
          subst c9
          have H1 : (some false) = some r := by rw [if_neg (show ¬ (false = true) by decide)] at H; exact H
          clear H
          have H := H1
          clear H1
          obtain rfl := Option.some.inj H
          have hcz19_0 : wc.cell? ⟨gb137, 0, none⟩ = some (.int .i64 a0_0) := (blk_cell BK137.out 0).trans rfl
          have hcz19_1 : wc.cell? ⟨gb137, 1, none⟩ = some (.int .i64 a0_1) := (blk_cell BK137.out 1).trans rfl
          have hcz19_2 : wc.cell? ⟨gb137, 2, none⟩ = some (.int .i64 a0_2) := (blk_cell BK137.out 2).trans rfl
          have hfz19_0 := blk_frozen BK137.out 0
          have hfz19_1 := blk_frozen BK137.out 1
          have hfz19_2 := blk_frozen BK137.out 2
          go_wp2_with (first | ((with_reducible refine gate_callee (f := 80) rfl ?_); refine goesL_ (some 17) rfl rfl Tryd.func80 (by kernel_rfl) rfl #[.int .i64 a0_0] rfl (by (try simp only [List.map_toArray, List.map_cons, List.map_nil]); first | done | rfl | (simp only [List.length_drop, List.length_take]; rfl)) ?_; (with_reducible refine (image_typed.calls a0_0 false _ A8.out).mono ?_); rintro e w' ⟨rfl, ⟨nd, rfl⟩⟩; refine ⟨_, rfl, ?_⟩))
          go_ret
          exact ⟨by first | rfl | (simp [errW_none, errW_some] <;> rfl) | (simp [*, errW_none, errW_some] <;> rfl), by repeat (first | (with_reducible first | exact HB.out | apply below_alloc | apply pw_below_drewN | apply below_drew1 | refine below_set ?_ GE137.out) | exact HB.out)⟩
      · replace c7 := Bool.eq_false_iff.mpr c7
        subst c7
        have H1 : (if a0_0 = 3 then ((image_typed.f a0_0).bind fun t139 => (if t139 = true then (if 0 ≤ a0_1 then (if a0_1 ≤ 256 then (if 1 = 9223372036854775807 then (some true) else (if 0 ≤ a0_2 then (some (decide (a0_2 ≤ 1))) else (some false))) else (some false)) else (some false)) else (some false))) else ((image_typed.f a0_0).bind fun t140 => (if t140 = true then (if 0 ≤ a0_1 then (if a0_1 ≤ 256 then (if 9223372036854775807 = 9223372036854775807 then (some true) else (if 0 ≤ a0_2 then (some (decide (a0_2 ≤ 9223372036854775807))) else (some false))) else (some false)) else (some false)) else (some false)))) = some r := by rw [if_neg (show ¬ (false = true) by decide)] at H; exact H
        clear H
        have H := H1
        clear H1
        by_cases c20 : a0_0 = 3
        · rw [if_pos c20] at H
          have c20b0 : (a0_0 == 3) = true := beq_iff_eq.mpr c20
          have c20b1 : (a0_0 != 3) = false := bne_eq_false_iff_eq.mpr c20
          clear c20
          replace H := Option.bind_eq_some_iff.mp H
          obtain ⟨t139, A210, H⟩ := H
          replace H : (if t139 = true then (if 0 ≤ a0_1 then (if a0_1 ≤ 256 then (if 1 = 9223372036854775807 then (some true) else (if 0 ≤ a0_2 then (some (decide (a0_2 ≤ 1))) else (some false))) else (some false)) else (some false)) else (some false)) = some r := H
          have A21 := Aside0.mk A210
          clear A210
          by_cases c22 : t139 = true
          · subst c22
            have H1 : (if 0 ≤ a0_1 then (if a0_1 ≤ 256 then (if 1 = 9223372036854775807 then (some true) else (if 0 ≤ a0_2 then (some (decide (a0_2 ≤ 1))) else (some false))) else (some false)) else (some false)) = some r := by rw [if_pos rfl] at H; exact H
            clear H
            have H := H1
            clear H1
            by_cases c23 : 0 ≤ a0_1
            · rw [if_pos c23] at H
              have c23b0 : decide (0 ≤ a0_1) = true := decide_eq_true c23
              clear c23
              by_cases c24 : a0_1 ≤ 256
              · rw [if_pos c24] at H
                have c24b0 : decide (a0_1 ≤ 256) = true := decide_eq_true c24
                clear c24
                by_cases c25 : 1 = 9223372036854775807
                · exfalso; (first | (exact absurd c25 (by decide)) | (rw [if_pos c25] at H; cases H; done) | (simp [c25] at H; done) | (rw [if_pos c25] at H; simp at H; done))
                · rw [if_neg c25] at H
                  have c25b0 : (1 == 9223372036854775807) = false := beq_eq_false_iff_ne.mpr c25
                  have c25b1 : (1 != 9223372036854775807) = true := bne_iff_ne.mpr c25
                  by_cases c27 : 0 ≤ a0_2
                  · rw [if_pos c27] at H
                    have c27b0 : decide (0 ≤ a0_2) = true := decide_eq_true c27
                    clear c27
                    obtain rfl := Option.some.inj H
                    have hcz28_0 : wc.cell? ⟨gb137, 0, none⟩ = some (.int .i64 a0_0) := (blk_cell BK137.out 0).trans rfl
                    have hcz28_1 : wc.cell? ⟨gb137, 1, none⟩ = some (.int .i64 a0_1) := (blk_cell BK137.out 1).trans rfl
                    have hcz28_2 : wc.cell? ⟨gb137, 2, none⟩ = some (.int .i64 a0_2) := (blk_cell BK137.out 2).trans rfl
                    have hfz28_0 := blk_frozen BK137.out 0
                    have hfz28_1 := blk_frozen BK137.out 1
                    have hfz28_2 := blk_frozen BK137.out 2
                    go_wp2_with (first | ((with_reducible refine gate_callee (f := 80) rfl ?_); refine goesL_ (some 17) rfl rfl Tryd.func80 (by kernel_rfl) rfl #[.int .i64 a0_0] rfl (by (try simp only [List.map_toArray, List.map_cons, List.map_nil]); first | done | rfl | (simp only [List.length_drop, List.length_take]; rfl)) ?_; (with_reducible refine (image_typed.calls a0_0 true _ A21.out).mono ?_); rintro e w' ⟨rfl, ⟨nd, rfl⟩⟩; refine ⟨_, rfl, ?_⟩))
                    go_ret
                    exact ⟨by first | rfl | (simp [errW_none, errW_some] <;> rfl) | (simp [*, errW_none, errW_some] <;> rfl), by repeat (first | (with_reducible first | exact HB.out | apply below_alloc | apply pw_below_drewN | apply below_drew1 | refine below_set ?_ GE137.out) | exact HB.out)⟩
                  · rw [if_neg c27] at H
                    have c27b0 : decide (0 ≤ a0_2) = false := decide_eq_false c27
                    clear c27
                    obtain rfl := Option.some.inj H
                    have hcz29_0 : wc.cell? ⟨gb137, 0, none⟩ = some (.int .i64 a0_0) := (blk_cell BK137.out 0).trans rfl
                    have hcz29_1 : wc.cell? ⟨gb137, 1, none⟩ = some (.int .i64 a0_1) := (blk_cell BK137.out 1).trans rfl
                    have hcz29_2 : wc.cell? ⟨gb137, 2, none⟩ = some (.int .i64 a0_2) := (blk_cell BK137.out 2).trans rfl
                    have hfz29_0 := blk_frozen BK137.out 0
                    have hfz29_1 := blk_frozen BK137.out 1
                    have hfz29_2 := blk_frozen BK137.out 2
                    go_wp2_with (first | ((with_reducible refine gate_callee (f := 80) rfl ?_); refine goesL_ (some 17) rfl rfl Tryd.func80 (by kernel_rfl) rfl #[.int .i64 a0_0] rfl (by (try simp only [List.map_toArray, List.map_cons, List.map_nil]); first | done | rfl | (simp only [List.length_drop, List.length_take]; rfl)) ?_; (with_reducible refine (image_typed.calls a0_0 true _ A21.out).mono ?_); rintro e w' ⟨rfl, ⟨nd, rfl⟩⟩; refine ⟨_, rfl, ?_⟩))
                    go_ret
                    exact ⟨by first | rfl | (simp [errW_none, errW_some] <;> rfl) | (simp [*, errW_none, errW_some] <;> rfl), by repeat (first | (with_reducible first | exact HB.out | apply below_alloc | apply pw_below_drewN | apply below_drew1 | refine below_set ?_ GE137.out) | exact HB.out)⟩
              · rw [if_neg c24] at H
                have c24b0 : decide (a0_1 ≤ 256) = false := decide_eq_false c24
                clear c24
                obtain rfl := Option.some.inj H
                have hcz30_0 : wc.cell? ⟨gb137, 0, none⟩ = some (.int .i64 a0_0) := (blk_cell BK137.out 0).trans rfl
                have hcz30_1 : wc.cell? ⟨gb137, 1, none⟩ = some (.int .i64 a0_1) := (blk_cell BK137.out 1).trans rfl
                have hcz30_2 : wc.cell? ⟨gb137, 2, none⟩ = some (.int .i64 a0_2) := (blk_cell BK137.out 2).trans rfl
                have hfz30_0 := blk_frozen BK137.out 0
                have hfz30_1 := blk_frozen BK137.out 1
                have hfz30_2 := blk_frozen BK137.out 2
                go_wp2_with (first | ((with_reducible refine gate_callee (f := 80) rfl ?_); refine goesL_ (some 17) rfl rfl Tryd.func80 (by kernel_rfl) rfl #[.int .i64 a0_0] rfl (by (try simp only [List.map_toArray, List.map_cons, List.map_nil]); first | done | rfl | (simp only [List.length_drop, List.length_take]; rfl)) ?_; (with_reducible refine (image_typed.calls a0_0 true _ A21.out).mono ?_); rintro e w' ⟨rfl, ⟨nd, rfl⟩⟩; refine ⟨_, rfl, ?_⟩))
                go_ret
                exact ⟨by first | rfl | (simp [errW_none, errW_some] <;> rfl) | (simp [*, errW_none, errW_some] <;> rfl), by repeat (first | (with_reducible first | exact HB.out | apply below_alloc | apply pw_below_drewN | apply below_drew1 | refine below_set ?_ GE137.out) | exact HB.out)⟩
            · rw [if_neg c23] at H
              have c23b0 : decide (0 ≤ a0_1) = false := decide_eq_false c23
              clear c23
              obtain rfl := Option.some.inj H
              have hcz31_0 : wc.cell? ⟨gb137, 0, none⟩ = some (.int .i64 a0_0) := (blk_cell BK137.out 0).trans rfl
              have hcz31_1 : wc.cell? ⟨gb137, 1, none⟩ = some (.int .i64 a0_1) := (blk_cell BK137.out 1).trans rfl
              have hcz31_2 : wc.cell? ⟨gb137, 2, none⟩ = some (.int .i64 a0_2) := (blk_cell BK137.out 2).trans rfl
              have hfz31_0 := blk_frozen BK137.out 0
              have hfz31_1 := blk_frozen BK137.out 1
              have hfz31_2 := blk_frozen BK137.out 2
              go_wp2_with (first | ((with_reducible refine gate_callee (f := 80) rfl ?_); refine goesL_ (some 17) rfl rfl Tryd.func80 (by kernel_rfl) rfl #[.int .i64 a0_0] rfl (by (try simp only [List.map_toArray, List.map_cons, List.map_nil]); first | done | rfl | (simp only [List.length_drop, List.length_take]; rfl)) ?_; (with_reducible refine (image_typed.calls a0_0 true _ A21.out).mono ?_); rintro e w' ⟨rfl, ⟨nd, rfl⟩⟩; refine ⟨_, rfl, ?_⟩))
              go_ret
              exact ⟨by first | rfl | (simp [errW_none, errW_some] <;> rfl) | (simp [*, errW_none, errW_some] <;> rfl), by repeat (first | (with_reducible first | exact HB.out | apply below_alloc | apply pw_below_drewN | apply below_drew1 | refine below_set ?_ GE137.out) | exact HB.out)⟩
          · replace c22 := Bool.eq_false_iff.mpr c22
            subst c22
            have H1 : (some false) = some r := by rw [if_neg (show ¬ (false = true) by decide)] at H; exact H
            clear H
            have H := H1
            clear H1
            obtain rfl := Option.some.inj H
            have hcz32_0 : wc.cell? ⟨gb137, 0, none⟩ = some (.int .i64 a0_0) := (blk_cell BK137.out 0).trans rfl
            have hcz32_1 : wc.cell? ⟨gb137, 1, none⟩ = some (.int .i64 a0_1) := (blk_cell BK137.out 1).trans rfl
            have hcz32_2 : wc.cell? ⟨gb137, 2, none⟩ = some (.int .i64 a0_2) := (blk_cell BK137.out 2).trans rfl
            have hfz32_0 := blk_frozen BK137.out 0
            have hfz32_1 := blk_frozen BK137.out 1
            have hfz32_2 := blk_frozen BK137.out 2
            go_wp2_with (first | ((with_reducible refine gate_callee (f := 80) rfl ?_); refine goesL_ (some 17) rfl rfl Tryd.func80 (by kernel_rfl) rfl #[.int .i64 a0_0] rfl (by (try simp only [List.map_toArray, List.map_cons, List.map_nil]); first | done | rfl | (simp only [List.length_drop, List.length_take]; rfl)) ?_; (with_reducible refine (image_typed.calls a0_0 false _ A21.out).mono ?_); rintro e w' ⟨rfl, ⟨nd, rfl⟩⟩; refine ⟨_, rfl, ?_⟩))
            go_ret
            exact ⟨by first | rfl | (simp [errW_none, errW_some] <;> rfl) | (simp [*, errW_none, errW_some] <;> rfl), by repeat (first | (with_reducible first | exact HB.out | apply below_alloc | apply pw_below_drewN | apply below_drew1 | refine below_set ?_ GE137.out) | exact HB.out)⟩
        · rw [if_neg c20] at H
          have c20b0 : (a0_0 == 3) = false := beq_eq_false_iff_ne.mpr c20
          have c20b1 : (a0_0 != 3) = true := bne_iff_ne.mpr c20
          replace H := Option.bind_eq_some_iff.mp H
          obtain ⟨t140, A330, H⟩ := H
          replace H : (if t140 = true then (if 0 ≤ a0_1 then (if a0_1 ≤ 256 then (if 9223372036854775807 = 9223372036854775807 then (some true) else (if 0 ≤ a0_2 then (some (decide (a0_2 ≤ 9223372036854775807))) else (some false))) else (some false)) else (some false)) else (some false)) = some r := H
          have A33 := Aside0.mk A330
          clear A330
          by_cases c34 : t140 = true
          · subst c34
            have H1 : (if 0 ≤ a0_1 then (if a0_1 ≤ 256 then (if 9223372036854775807 = 9223372036854775807 then (some true) else (if 0 ≤ a0_2 then (some (decide (a0_2 ≤ 9223372036854775807))) else (some false))) else (some false)) else (some false)) = some r := by rw [if_pos rfl] at H; exact H
            clear H
            have H := H1
            clear H1
            by_cases c35 : 0 ≤ a0_1
            · rw [if_pos c35] at H
              have c35b0 : decide (0 ≤ a0_1) = true := decide_eq_true c35
              clear c35
              by_cases c36 : a0_1 ≤ 256
              · rw [if_pos c36] at H
                have c36b0 : decide (a0_1 ≤ 256) = true := decide_eq_true c36
                clear c36
                by_cases c37 : 9223372036854775807 = 9223372036854775807
                · rw [if_pos c37] at H
                  have c37b0 : (9223372036854775807 == 9223372036854775807) = true := beq_iff_eq.mpr c37
                  have c37b1 : (9223372036854775807 != 9223372036854775807) = false := bne_eq_false_iff_eq.mpr c37
                  clear c37
                  obtain rfl := Option.some.inj H
                  have hcz38_0 : wc.cell? ⟨gb137, 0, none⟩ = some (.int .i64 a0_0) := (blk_cell BK137.out 0).trans rfl
                  have hcz38_1 : wc.cell? ⟨gb137, 1, none⟩ = some (.int .i64 a0_1) := (blk_cell BK137.out 1).trans rfl
                  have hcz38_2 : wc.cell? ⟨gb137, 2, none⟩ = some (.int .i64 a0_2) := (blk_cell BK137.out 2).trans rfl
                  have hfz38_0 := blk_frozen BK137.out 0
                  have hfz38_1 := blk_frozen BK137.out 1
                  have hfz38_2 := blk_frozen BK137.out 2
                  go_wp2_with (first | ((with_reducible refine gate_callee (f := 80) rfl ?_); refine goesL_ (some 17) rfl rfl Tryd.func80 (by kernel_rfl) rfl #[.int .i64 a0_0] rfl (by (try simp only [List.map_toArray, List.map_cons, List.map_nil]); first | done | rfl | (simp only [List.length_drop, List.length_take]; rfl)) ?_; (with_reducible refine (image_typed.calls a0_0 true _ A33.out).mono ?_); rintro e w' ⟨rfl, ⟨nd, rfl⟩⟩; refine ⟨_, rfl, ?_⟩))
                  go_ret
                  exact ⟨by first | rfl | (simp [errW_none, errW_some] <;> rfl) | (simp [*, errW_none, errW_some] <;> rfl), by repeat (first | (with_reducible first | exact HB.out | apply below_alloc | apply pw_below_drewN | apply below_drew1 | refine below_set ?_ GE137.out) | exact HB.out)⟩
                · exfalso; (first | (exact c37 rfl) | (rw [if_neg c37] at H; cases H; done) | (simp [c37] at H; done) | (rw [if_neg c37] at H; simp at H; done))
              · rw [if_neg c36] at H
                have c36b0 : decide (a0_1 ≤ 256) = false := decide_eq_false c36
                clear c36
                obtain rfl := Option.some.inj H
                have hcz42_0 : wc.cell? ⟨gb137, 0, none⟩ = some (.int .i64 a0_0) := (blk_cell BK137.out 0).trans rfl
                have hcz42_1 : wc.cell? ⟨gb137, 1, none⟩ = some (.int .i64 a0_1) := (blk_cell BK137.out 1).trans rfl
                have hcz42_2 : wc.cell? ⟨gb137, 2, none⟩ = some (.int .i64 a0_2) := (blk_cell BK137.out 2).trans rfl
                have hfz42_0 := blk_frozen BK137.out 0
                have hfz42_1 := blk_frozen BK137.out 1
                have hfz42_2 := blk_frozen BK137.out 2
                go_wp2_with (first | ((with_reducible refine gate_callee (f := 80) rfl ?_); refine goesL_ (some 17) rfl rfl Tryd.func80 (by kernel_rfl) rfl #[.int .i64 a0_0] rfl (by (try simp only [List.map_toArray, List.map_cons, List.map_nil]); first | done | rfl | (simp only [List.length_drop, List.length_take]; rfl)) ?_; (with_reducible refine (image_typed.calls a0_0 true _ A33.out).mono ?_); rintro e w' ⟨rfl, ⟨nd, rfl⟩⟩; refine ⟨_, rfl, ?_⟩))
                go_ret
                exact ⟨by first | rfl | (simp [errW_none, errW_some] <;> rfl) | (simp [*, errW_none, errW_some] <;> rfl), by repeat (first | (with_reducible first | exact HB.out | apply below_alloc | apply pw_below_drewN | apply below_drew1 | refine below_set ?_ GE137.out) | exact HB.out)⟩
            · rw [if_neg c35] at H
              have c35b0 : decide (0 ≤ a0_1) = false := decide_eq_false c35
              clear c35
              obtain rfl := Option.some.inj H
              have hcz43_0 : wc.cell? ⟨gb137, 0, none⟩ = some (.int .i64 a0_0) := (blk_cell BK137.out 0).trans rfl
              have hcz43_1 : wc.cell? ⟨gb137, 1, none⟩ = some (.int .i64 a0_1) := (blk_cell BK137.out 1).trans rfl
              have hcz43_2 : wc.cell? ⟨gb137, 2, none⟩ = some (.int .i64 a0_2) := (blk_cell BK137.out 2).trans rfl
              have hfz43_0 := blk_frozen BK137.out 0
              have hfz43_1 := blk_frozen BK137.out 1
              have hfz43_2 := blk_frozen BK137.out 2
              go_wp2_with (first | ((with_reducible refine gate_callee (f := 80) rfl ?_); refine goesL_ (some 17) rfl rfl Tryd.func80 (by kernel_rfl) rfl #[.int .i64 a0_0] rfl (by (try simp only [List.map_toArray, List.map_cons, List.map_nil]); first | done | rfl | (simp only [List.length_drop, List.length_take]; rfl)) ?_; (with_reducible refine (image_typed.calls a0_0 true _ A33.out).mono ?_); rintro e w' ⟨rfl, ⟨nd, rfl⟩⟩; refine ⟨_, rfl, ?_⟩))
              go_ret
              exact ⟨by first | rfl | (simp [errW_none, errW_some] <;> rfl) | (simp [*, errW_none, errW_some] <;> rfl), by repeat (first | (with_reducible first | exact HB.out | apply below_alloc | apply pw_below_drewN | apply below_drew1 | refine below_set ?_ GE137.out) | exact HB.out)⟩
          · replace c34 := Bool.eq_false_iff.mpr c34
            subst c34
            have H1 : (some false) = some r := by rw [if_neg (show ¬ (false = true) by decide)] at H; exact H
            clear H
            have H := H1
            clear H1
            obtain rfl := Option.some.inj H
            have hcz44_0 : wc.cell? ⟨gb137, 0, none⟩ = some (.int .i64 a0_0) := (blk_cell BK137.out 0).trans rfl
            have hcz44_1 : wc.cell? ⟨gb137, 1, none⟩ = some (.int .i64 a0_1) := (blk_cell BK137.out 1).trans rfl
            have hcz44_2 : wc.cell? ⟨gb137, 2, none⟩ = some (.int .i64 a0_2) := (blk_cell BK137.out 2).trans rfl
            have hfz44_0 := blk_frozen BK137.out 0
            have hfz44_1 := blk_frozen BK137.out 1
            have hfz44_2 := blk_frozen BK137.out 2
            go_wp2_with (first | ((with_reducible refine gate_callee (f := 80) rfl ?_); refine goesL_ (some 17) rfl rfl Tryd.func80 (by kernel_rfl) rfl #[.int .i64 a0_0] rfl (by (try simp only [List.map_toArray, List.map_cons, List.map_nil]); first | done | rfl | (simp only [List.length_drop, List.length_take]; rfl)) ?_; (with_reducible refine (image_typed.calls a0_0 false _ A33.out).mono ?_); rintro e w' ⟨rfl, ⟨nd, rfl⟩⟩; refine ⟨_, rfl, ?_⟩))
            go_ret
            exact ⟨by first | rfl | (simp [errW_none, errW_some] <;> rfl) | (simp [*, errW_none, errW_some] <;> rfl), by repeat (first | (with_reducible first | exact HB.out | apply below_alloc | apply pw_below_drewN | apply below_drew1 | refine below_set ?_ GE137.out) | exact HB.out)⟩
def image_ok_1.f (k : Nat) (a0_0 : Int) (a0_1 : Int) (a0_2 : Int) : Option (Bool) := (image_glob.f k a0_0 a0_1 a0_2).bind fun t142 => (some (!t142))
set_option maxHeartbeats 8000000 in
set_option maxRecDepth 100000 in
theorem image_ok_1.calls (k : Nat) (a0_0 : Int) (a0_1 : Int) (a0_2 : Int) (r : Bool) (w : World) (h : image_ok_1.f k a0_0 a0_1 a0_2 = some r) :
    Calls Tryd.prog 53 #[.agg #[.int .i64 a0_0, .int .i64 a0_1, .int .i64 a0_2]] w fun e w' => e = .returned (.bool r) ∧ Below w.heap.size w w' := by
  have hu48 := Tryd.underlying48
  have HB := Aside0.mk (Below.refl w.heap.size w)
  have H : ((image_glob.f k a0_0 a0_1 a0_2).bind fun t142 => (some (!t142))) = some r := h
  clear h
  replace H := Option.bind_eq_some_iff.mp H
  obtain ⟨t142, A20, H⟩ := H
  replace H : (some (!t142)) = some r := H
  have A2 := Aside0.mk A20
  clear A20
  obtain rfl := Option.some.inj H
  go_enter Tryd.func53, Tryd.ntmps53
  go_wp2_with (first | ((with_reducible refine gate_dst (N := 1) rfl ?_); refine box_event ?hg (N := 1) ?hd (cs := #[.int .i64 a0_0, .int .i64 a0_1, .int .i64 a0_2]) (t := 48) ?hr ?_; (case hd => rfl); (case hg => rfl); (case hr => first | (go_simp; done) | (go_simp; rfl)); intro gb141 hg w3 hbox hb; have n0_ := Aside0.mk (below_step (by repeat (first | (with_reducible first | exact HB.out | apply below_alloc | apply pw_below_drewN | apply below_drew1) | exact HB.out)) hb); have n1_ := Aside0.mk (hbox); have n2_ := Aside0.mk ((by rw [hg]; exact (below_size (by repeat (first | (with_reducible first | exact HB.out | apply below_alloc | apply pw_below_drewN | apply below_drew1) | exact HB.out))) : w.heap.size ≤ gb141)); have n3_ := Aside0.mk ((by rw [hg]; exact (below_size (by repeat (first | (with_reducible first | exact HB.out | apply below_alloc | apply pw_below_drewN | apply below_drew1) | exact HB.out))) : w.heap.size ≤ gb141)); clear HB; have HB := n0_; have BK141 := n1_; have GW141 := n2_; have GE141 := n3_; clear n0_ n1_ n2_ n3_; clear hb hbox hg; have hcz4_0 : w3.cell? ⟨gb141, 0, none⟩ = some (.int .i64 a0_0) := (blk_cell BK141.out 0).trans rfl; have hcz4_1 : w3.cell? ⟨gb141, 1, none⟩ = some (.int .i64 a0_1) := (blk_cell BK141.out 1).trans rfl; have hcz4_2 : w3.cell? ⟨gb141, 2, none⟩ = some (.int .i64 a0_2) := (blk_cell BK141.out 2).trans rfl; have hfz4_0 := blk_frozen BK141.out 0; have hfz4_1 := blk_frozen BK141.out 1; have hfz4_2 := blk_frozen BK141.out 2) | ((with_reducible refine gate_callee (f := 54) rfl ?_); refine goesL_ (some 4) rfl rfl Tryd.func54 (by kernel_rfl) rfl #[.agg #[.int .i64 a0_0, .int .i64 a0_1, .int .i64 a0_2]] rfl (by (try simp only [List.map_toArray, List.map_cons, List.map_nil]); first | done | rfl | (simp only [List.length_drop, List.length_take]; rfl)) ?_; (with_reducible refine (image_glob.calls k a0_0 a0_1 a0_2 t142 _ A2.out).mono ?_); rintro e w5 ⟨rfl, hb⟩; refine ⟨_, rfl, ?_⟩; have n0_ := Aside0.mk (blk_below (g := gb141) (o := .cells #[.int .i64 a0_0, .int .i64 a0_1, .int .i64 a0_2] 48 (0, 0)) (by (with_reducible repeat (first | refine blk_drewN ?_ _ | refine blk_drew ?_ | refine blk_alloc ?_ _)); exact BK141.out) hb); have n1_ := Aside0.mk (below_step (by repeat (first | (with_reducible first | exact HB.out | apply below_alloc | apply pw_below_drewN | apply below_drew1 | refine below_set ?_ GE141.out) | exact HB.out)) hb); clear BK141; clear HB; have BK141 := n0_; have HB := n1_; clear n0_ n1_; (try clear hb); (try clear hb2); (try clear hk); (try clear hi)))
  go_ret
  exact ⟨by first | rfl | (simp [errW_none, errW_some] <;> rfl) | (simp [*, errW_none, errW_some] <;> rfl), by repeat (first | (with_reducible first | exact HB.out | apply below_alloc | apply pw_below_drewN | apply below_drew1 | refine below_set ?_ GE141.out) | exact HB.out)⟩
def slices_Equal_int_int.l0 : Nat → List Int → List Int → Int → Int → Option (Bool)
  | 0, _, _, _, _ => none
  | k + 1, x0, x1, x12, x13 => if x13 < x12 then (if 0 ≤ x13 then (if x13 < (x0.length : Int) then (if x13 < (x1.length : Int) then (if (rd x0 x13) = (rd x1 x13) then (slices_Equal_int_int.l0 k x0 x1 x12 (wrap64 (x13 + 1))) else (some false)) else (none)) else (none)) else (none)) else (some true)
def slices_Equal_int_int.f (k : Nat) (l0 : List Int) (l1 : List Int) : Option (Bool) := if (l0.length : Int) = (l1.length : Int) then (slices_Equal_int_int.l0 k l0 l1 (l0.length : Int) 0) else (some false)
set_option maxHeartbeats 8000000 in
set_option maxRecDepth 100000 in
theorem slices_Equal_int_int.calls (k : Nat) (A0 : Option Addr) (c0 : Nat) (l0 : List Int) (A1 : Option Addr) (c1 : Nat) (l1 : List Int) (r : Bool) (w : World) (hr0 : Kd.C (Kd.int .i64) w A0 l0.length l0) (hc0 : l0.length ≤ c0) (hr1 : Kd.C (Kd.int .i64) w A1 l1.length l1) (hc1 : l1.length ≤ c1) (h : slices_Equal_int_int.f k l0 l1 = some r) :
    Calls Tryd.prog 84 #[.slice A0 l0.length c0, .slice A1 l1.length c1] w fun e w' => e = .returned (.bool r) ∧ Drawn0 w w' := by
  have HR0 := Aside0.mk hr0
  have HC0 := Aside0.mk hc0
  clear hr0 hc0
  have HR1 := Aside0.mk hr1
  have HC1 := Aside0.mk hc1
  clear hr1 hc1
  have H : (if (l0.length : Int) = (l1.length : Int) then (slices_Equal_int_int.l0 k l0 l1 (l0.length : Int) 0) else (some false)) = some r := h
  clear h
  by_cases c3 : (l0.length : Int) = (l1.length : Int)
  · rw [if_pos c3] at H
    have c3b0 : ((l0.length : Int) == (l1.length : Int)) = true := beq_iff_eq.mpr c3
    have c3b1 : ((l0.length : Int) != (l1.length : Int)) = false := bne_eq_false_iff_eq.mpr c3
    have c3b2 : (l0.length == l1.length) = true := by first | simpa using c3 | (simp at c3 ⊢; omega)
    clear c3
    have H' := Aside0.mk H
    clear H
    go_enter Tryd.func84, Tryd.ntmps84
    go_wp2
    repeat (go_quiet (fail); try go_wp2)
    go_loopg [13] k (fun kq v13 w' => ∃ (x13_1 : Int), v13 = .int .i64 x13_1 ∧ Aside0 (slices_Equal_int_int.l0 kq l0 l1 (l0.length : Int) x13_1 = some r) ∧ Aside0 (kq ≤ k) ∧ Drawn0 w w')
    case atStart => exact ⟨(0), (by first | rfl | (simp; done) | (simp [*]; done)), H', ⟨Nat.le_refl _⟩, by repeat (first | exact Drawn0.refl _ | apply Drawn0.step)⟩
    case round =>
      clear H'
      try clear c1
      try clear p2
      try clear c3
      try clear c3b0
      try clear c3b1
      try clear c3b2
      obtain ⟨x13_1, rfl, HA, HK1, ⟨m1, rfl⟩⟩ := hrel
      cases gk with
      | zero => exact absurd HA.out (by simp [slices_Equal_int_int.l0])
      | succ k1 =>
        have H := HA.out
        clear HA
        simp only [slices_Equal_int_int.l0] at H
        by_cases c4 : x13_1 < (l0.length : Int)
        · rw [if_pos c4] at H
          have c4b0 : decide (x13_1 < (l0.length : Int)) = true := decide_eq_true c4
          clear c4
          by_cases c5 : 0 ≤ x13_1
          · rw [if_pos c5] at H
            have c5b0 : decide (0 ≤ x13_1) = true := decide_eq_true c5
            clear c5
            by_cases c6 : x13_1 < (l0.length : Int)
            · rw [if_pos c6] at H
              have c6b0 : decide (x13_1 < (l0.length : Int)) = true := decide_eq_true c6
              clear c6
              by_cases c7 : x13_1 < (l1.length : Int)
              · rw [if_pos c7] at H
                have c7b0 : decide (x13_1 < (l1.length : Int)) = true := decide_eq_true c7
                clear c7
                by_cases c8 : (rd l0 x13_1) = (rd l1 x13_1)
                · rw [if_pos c8] at H
                  have c8b0 : ((rd l0 x13_1) == (rd l1 x13_1)) = true := beq_iff_eq.mpr c8
                  have c8b1 : ((rd l0 x13_1) != (rd l1 x13_1)) = false := bne_eq_false_iff_eq.mpr c8
                  clear c8
                  have H' := Aside0.mk H
                  clear H
                  have p146 : 0 ≤ (x13_1 : Int) := of_decide_eq_true (by first | (with_reducible assumption) | assumption)
                  have q146 : x13_1 < (l0.length : Int) := of_decide_eq_true (by first | (with_reducible assumption) | assumption)
                  obtain ⟨ad146, e146, hx146_0⟩ := Kd.at_int HR0.out x13_1 p146 q146
                  cases e146
                  replace p146 := eq_true p146
                  replace q146 := eq_true q146
                  have p147 : 0 ≤ (x13_1 : Int) := of_decide_eq_true (by first | (with_reducible assumption) | assumption)
                  have q147 : x13_1 < (l1.length : Int) := of_decide_eq_true (by first | (with_reducible assumption) | assumption)
                  obtain ⟨ad147, e147, hx147_0⟩ := Kd.at_int HR1.out x13_1 p147 q147
                  cases e147
                  replace p147 := eq_true p147
                  replace q147 := eq_true q147
                  go_wp2
                  repeat (go_quiet (fail); try go_wp2)
                  go_roundg k1
                  case measure => have := HK1.out; omega
                  case rel => exact ⟨(wrap64 (x13_1 + 1)), (by first | rfl | (simp; done) | (simp [*]; done)), H', ⟨by have := HK1.out; omega⟩, by repeat (first | exact Drawn0.refl _ | apply Drawn0.step)⟩
                · rw [if_neg c8] at H
                  have c8b0 : ((rd l0 x13_1) == (rd l1 x13_1)) = false := beq_eq_false_iff_ne.mpr c8
                  have c8b1 : ((rd l0 x13_1) != (rd l1 x13_1)) = true := bne_iff_ne.mpr c8
                  obtain rfl := Option.some.inj H
                  have p146 : 0 ≤ (x13_1 : Int) := of_decide_eq_true (by first | (with_reducible assumption) | assumption)
                  have q146 : x13_1 < (l0.length : Int) := of_decide_eq_true (by first | (with_reducible assumption) | assumption)
                  obtain ⟨ad146, e146, hx146_0⟩ := Kd.at_int HR0.out x13_1 p146 q146
                  cases e146
                  replace p146 := eq_true p146
                  replace q146 := eq_true q146
                  have p147 : 0 ≤ (x13_1 : Int) := of_decide_eq_true (by first | (with_reducible assumption) | assumption)
                  have q147 : x13_1 < (l1.length : Int) := of_decide_eq_true (by first | (with_reducible assumption) | assumption)
                  obtain ⟨ad147, e147, hx147_0⟩ := Kd.at_int HR1.out x13_1 p147 q147
                  cases e147
                  replace p147 := eq_true p147
                  replace q147 := eq_true q147
                  go_wp2
                  repeat (go_quiet (fail); try go_wp2)
                  go_ret
                  exact ⟨by first | rfl | (simp; done) | (simp [*]; done), by repeat (first | exact Drawn0.refl _ | apply Drawn0.step)⟩
              · rw [if_neg c7] at H
                exact absurd H (by simp)
            · rw [if_neg c6] at H
              exact absurd H (by simp)
          · rw [if_neg c5] at H
            exact absurd H (by simp)
        · rw [if_neg c4] at H
          have c4b0 : decide (x13_1 < (l0.length : Int)) = false := decide_eq_false c4
          clear c4
          obtain rfl := Option.some.inj H
          go_wp2
          repeat (go_quiet (fail); try go_wp2)
          go_ret
          exact ⟨by first | rfl | (simp; done) | (simp [*]; done), by repeat (first | exact Drawn0.refl _ | apply Drawn0.step)⟩
  · rw [if_neg c3] at H
    have c3b0 : ((l0.length : Int) == (l1.length : Int)) = false := beq_eq_false_iff_ne.mpr c3
    have c3b1 : ((l0.length : Int) != (l1.length : Int)) = true := bne_iff_ne.mpr c3
    have c3b2 : (l0.length == l1.length) = false := by first | simpa using c3 | (simp at c3 ⊢; omega)
    obtain rfl := Option.some.inj H
    go_enter Tryd.func84, Tryd.ntmps84
    go_wp2
    repeat (go_quiet (fail); try go_wp2)
    go_ret
    exact ⟨by first | rfl | (simp; done) | (simp [*]; done), by repeat (first | exact Drawn0.refl _ | apply Drawn0.step)⟩
end Go.Proofs.YteidgpaakoeefaaDoor.PIm
namespace Go.Proofs.YteidgpaakoeefaaDoor
open Go.RowKit Go.Proofs.YteidgpaakoeefaaDoorW.PrintWords Go.Proofs.YteidgpaakoeefaaDoorW.PrintLast Go.Proofs.YteidgpaakoeefaaDoorW.PrintMore
set_option linter.unusedVariables false
set_option linter.unusedSimpArgs false
open PIm
def typB (t : Int) : Bool := decide (1 ≤ t) && decide (t ≤ 4)
def insBad (x : S50) : Bool := decide (x.f0 < 1) || decide (x.f0 > 33) || decide (x.f2 < 0) || decide (x.f2 > 4)
def globB (g : S48) : Bool := typB g.f0 && decide (0 ≤ g.f1) && decide (g.f1 ≤ 256) && (if 0 < g.f1 ∨ g.f0 = 4 then decide (g.f2 = 0) else if g.f0 = 3 then decide (0 ≤ g.f2) && decide (g.f2 ≤ 1) else true)
theorem typed_f (t : Int) : image_typed.f t = some (typB t) := by
  unfold image_typed.f typB
  by_cases h : 1 ≤ t
  · rw [if_pos h, decide_eq_true h]; rfl
  · rw [if_neg h, decide_eq_false h]; rfl
theorem types1_f (t : Int) : image_types_1.f t = some (!typB t) := by unfold image_types_1.f; rw [typed_f]; rfl
theorem fn1_f (x : S50) : image_fn_1.f x.f0 x.f1 x.f2 = some (insBad x) := by
  unfold image_fn_1.f insBad
  by_cases h1 : x.f0 < 1
  · rw [if_pos h1, decide_eq_true h1]; rfl
  · rw [if_neg h1, decide_eq_false h1]
    by_cases h2 : x.f0 > 33
    · rw [if_pos h2, decide_eq_true h2]; rfl
    · rw [if_neg h2, decide_eq_false h2]
      by_cases h3 : x.f2 < 0
      · rw [if_pos h3, decide_eq_true h3]; rfl
      · rw [if_neg h3, decide_eq_false h3]; rfl
theorem glob_f (k : Nat) (g : S48) : image_glob.f (k + 1) g.f0 g.f1 g.f2 = some (globB g) := by
  unfold image_glob.f globB
  simp only [image_glob.j0, typed_f, Option.bind_some]
  have e : (9223372036854775807 : Int) = 9223372036854775807 := rfl
  cases ht : typB g.f0 with
  | false =>
    simp only [Bool.false_and]
    by_cases h1 : g.f1 > 0
    · simp [h1]
    · by_cases h4 : g.f0 = 4
      · simp [h1, h4]
      · by_cases h3 : g.f0 = 3 <;> simp [h1, h4, h3]
  | true =>
    by_cases h0 : 0 ≤ g.f1
    · by_cases h5 : g.f1 ≤ 256
      · by_cases h1 : g.f1 > 0
        · by_cases h6 : 0 ≤ g.f2
          · simp [h0, h5, h1, h6]; omega
          · simp [h0, h5, h1, h6]; omega
        · by_cases h4 : g.f0 = 4
          · by_cases h6 : 0 ≤ g.f2
            · simp [h0, h5, h1, h4, h6]; omega
            · simp [h0, h5, h1, h4, h6]; omega
          · by_cases h3 : g.f0 = 3
            · by_cases h6 : 0 ≤ g.f2 <;> simp [h0, h5, h1, h4, h3, h6]
            · simp [h0, h5, h1, h4, h3]
      · by_cases h1 : g.f1 > 0
        · simp [h0, h5, h1]
        · omega
    · by_cases h1 : g.f1 > 0
      · omega
      · by_cases h4 : g.f0 = 4
        · simp [h0, h1, h4]
        · by_cases h3 : g.f0 = 3 <;> simp [h0, h1, h4, h3]
theorem types1_ok (x : Int) (w : World) : Calls Tryd.prog 103 #[.int .i64 x] w fun e w' => e = .returned (.bool (!typB x)) ∧ Below w.heap.size w w' :=
  (image_types_1.calls x _ w (types1_f x)).mono fun _ _ h => ⟨h.1, by obtain ⟨n, hn⟩ := h.2.out; rw [hn]; exact pw_below_drewN (Below.refl _ _) n⟩
theorem fn1_ok (x : S50) (w : World) : Calls Tryd.prog 86 #[.agg #[.int .i64 x.f0, .int .i64 x.f1, .int .i64 x.f2]] w fun e w' => e = .returned (.bool (insBad x)) ∧ Below w.heap.size w w' :=
  image_fn_1.calls x.f0 x.f1 x.f2 _ w (fn1_f x)
theorem ok1_ok (x : S48) (w : World) : Calls Tryd.prog 53 #[.agg #[.int .i64 x.f0, .int .i64 x.f1, .int .i64 x.f2]] w fun e w' => e = .returned (.bool (!globB x)) ∧ Below w.heap.size w w' :=
  image_ok_1.calls 1 x.f0 x.f1 x.f2 _ w (by unfold image_ok_1.f; rw [glob_f]; rfl)
theorem any_more {α : Type} {p : α → Bool} {l : List α} {i : Nat} {x : α} (h : l[i]? = some x) (hp : p x = false) (ha : (l.take i).any p = false) : (l.take (i + 1)).any p = false := by
  obtain ⟨hi, hx⟩ := List.getElem?_eq_some_iff.1 h
  rw [List.take_succ_eq_append_getElem hi, List.any_append, ha, hx]; simp [hp]
theorem any_here {α : Type} {p : α → Bool} {l : List α} {i : Nat} {x : α} (h : l[i]? = some x) (hp : p x = true) : l.any p = true := List.any_eq_true.2 ⟨x, List.mem_of_getElem? h, hp⟩
theorem any_end {α : Type} {p : α → Bool} {l : List α} {i : Nat} (h : l.length ≤ i) (ha : (l.take i).any p = false) : l.any p = false := by rw [List.take_of_length_le h] at ha; exact ha
set_option maxHeartbeats 2000000 in
set_option maxRecDepth 100000 in
theorem index_int (A0 : Option Addr) (c0 : Nat) (l : List Int) (w : World) (hr0 : Kd.C (Kd.int .i64) w A0 l.length l) (hl : l.length ≤ 140737488355318) :
    Calls Tryd.prog 109 #[.slice A0 l.length c0, .func (.func 103) #[] #[]] w fun e w' => ∃ r : Int, e = .returned (.int .i64 r) ∧ ((0 ≤ r) = (l.any (fun x => !typB x) = true)) ∧ Below w.heap.size w w' := by
  have HR0 := Aside0.mk hr0
  clear hr0
  go_enter Tryd.func109, Tryd.ntmps109
  go_wp2_with fail
  go_loopw [8] (fun v wr => ∃ (k : Nat), v = .int .i64 k ∧ Aside0 ((l.take k).any (fun x => !typB x) = false) ∧ Aside0 (k ≤ l.length) ∧ Aside0 (Below w.heap.size w wr)) (fun v _ => l.length - (intOf v).toNat)
  case atStart => exact ⟨0, rfl, ⟨by simp⟩, ⟨Nat.zero_le _⟩, ⟨Below.refl _ _⟩⟩
  case round =>
    obtain ⟨k, rfl, HA, HK, HB⟩ := hrel
    have hk := HK.out
    by_cases hlt : k < l.length
    · have hC := Kd.C_below HR0.out HB.out
      obtain ⟨ad, e, hx⟩ := Kd.at_int hC (k : Int) (by omega) (by omega)
      cases e
      have hget : rd l (k : Int) = l[k] := by
        unfold rd
        simp only [Int.toNat_natCast, List.getD_eq_getElem?_getD]
        rw [List.getElem?_eq_getElem hlt]; rfl
      have hxx : l[k]? = some l[k] := List.getElem?_eq_getElem hlt
      rw [hget] at hx
      simp only [Int.toNat_natCast] at hx
      generalize l[k] = x at hx hxx
      have HX := Lib.hid hxx
      have z1 : decide ((k : Int) < (l.length : Int)) = true := decide_eq_true (by omega)
      have q1 : (0 ≤ (k : Int)) = True := eq_true (by omega)
      have q2 : ((k : Int) < (l.length : Int)) = True := eq_true (by omega)
      have HLT := Lib.hid hlt
      clear hC hget hxx hlt
      cases hp : ((fun x => !typB x) : Int → Bool) x with
      | true =>
        have hcall := fun W => types1_ok x W
        rw [show (!typB x) = true from hp] at hcall
        have HP := Lib.hid hp
        clear hp
        go_wp2_with fail
        ((with_reducible refine (hcall _).mono ?_); rintro e_ w_ ⟨rfl, hb⟩)
        clear hcall
        have m_ := Aside0.mk (below_step (by repeat (first | (with_reducible first | exact HB.out | apply below_alloc | apply pw_below_drewN | apply below_drew1) | exact HB.out)) hb); clear HB hb; have HB := m_; clear m_
        go_wp2
        go_ret
        refine ⟨_, rfl, ?_, HB.out⟩
        have : l.any (fun x => !typB x) = true := any_here HX.out HP.out
        rw [this]
        exact propext ⟨fun _ => rfl, fun _ => by omega⟩
      | false =>
        have hcall := fun W => types1_ok x W
        rw [show (!typB x) = false from hp] at hcall
        have HP := Lib.hid hp
        clear hp
        go_wp2_with fail
        ((with_reducible refine (hcall _).mono ?_); rintro e_ w_ ⟨rfl, hb⟩)
        clear hcall
        have m_ := Aside0.mk (below_step (by repeat (first | (with_reducible first | exact HB.out | apply below_alloc | apply pw_below_drewN | apply below_drew1) | exact HB.out)) hb); clear HB hb; have HB := m_; clear m_
        go_wp2
        have hlt := HLT.out
        exact ⟨⟨k + 1, by go_num, ⟨any_more HX.out HP.out HA.out⟩, ⟨hlt⟩, HB⟩, by simp [intOf]; omega⟩
    · have z1 : decide ((k : Int) < (l.length : Int)) = false := decide_eq_false (by omega)
      have hE := any_end (by omega) HA.out
      have HE := Lib.hid hE
      clear hE
      go_wp2
      go_ret
      refine ⟨_, rfl, ?_, HB.out⟩
      rw [HE.out]
      exact propext ⟨fun g => by omega, fun g => by cases g⟩
theorem contains_int (A0 : Option Addr) (c0 : Nat) (l : List Int) (w : World) (hr0 : Kd.C (Kd.int .i64) w A0 l.length l) (hl : l.length ≤ 140737488355318) :
    Calls Tryd.prog 102 #[.slice A0 l.length c0, .func (.func 103) #[] #[]] w fun e w' => e = .returned (.bool (l.any (fun x => !typB x))) ∧ Below w.heap.size w w' := by
  have hidx := index_int A0 c0 l w hr0 hl
  clear hr0
  go_enter Tryd.func102, Tryd.ntmps102
  go_wp2_with fail
  ((with_reducible refine hidx.mono ?_); rintro e_ w_ ⟨r, rfl, hr, hb⟩)
  have HR := Aside0.mk hr; have HB := Aside0.mk hb
  clear hidx hr hb
  go_wp2
  go_ret
  refine ⟨?_, HB.out⟩
  have := HR.out
  rw [show decide (r ≥ 0) = l.any (fun x => !typB x) by rw [Bool.eq_iff_iff, decide_eq_true_eq, ← this]]
  rfl
def PIm.slices_ContainsFunc_int_int.f (l : List Int) (q : Int) : Option Bool := if l.length ≤ 140737488355318 then some (l.any (fun x => !typB x)) else none
theorem PIm.slices_ContainsFunc_int_int.calls (A0 : Option Addr) (c0 : Nat) (l : List Int) (q : Int) (r : Bool) (w : World) (hr0 : Kd.C (Kd.int .i64) w A0 l.length l) (hc0 : l.length ≤ c0) (h : PIm.slices_ContainsFunc_int_int.f l q = some r) :
    Calls Tryd.prog 102 #[.slice A0 l.length c0, .func (.func 103) #[] #[]] w fun e w' => e = .returned (.bool r) ∧ Below w.heap.size w w' := by
  unfold PIm.slices_ContainsFunc_int_int.f at h
  split at h
  · next hc =>
    obtain rfl := Option.some.inj h
    exact contains_int A0 c0 l w hr0 hc
  · cases h
set_option maxHeartbeats 2000000 in
set_option maxRecDepth 100000 in
theorem index_ins (A0 : Option Addr) (c0 : Nat) (l : List S50) (w : World) (hr0 : Kd.C k50 w A0 l.length l) (hl : l.length ≤ 140737488355318) :
    Calls Tryd.prog 104 #[.slice A0 l.length c0, .func (.func 86) #[] #[]] w fun e w' => ∃ r : Int, e = .returned (.int .i64 r) ∧ ((0 ≤ r) = (l.any insBad = true)) ∧ Below w.heap.size w w' := by
  have HR0 := Aside0.mk hr0
  clear hr0
  go_enter Tryd.func104, Tryd.ntmps104
  go_wp2_with fail
  go_loopw [8] (fun v wr => ∃ (k : Nat), v = .int .i64 k ∧ Aside0 ((l.take k).any insBad = false) ∧ Aside0 (k ≤ l.length) ∧ Aside0 (Below w.heap.size w wr)) (fun v _ => l.length - (intOf v).toNat)
  case atStart => exact ⟨0, rfl, ⟨by simp⟩, ⟨Nat.zero_le _⟩, ⟨Below.refl _ _⟩⟩
  case round =>
    obtain ⟨k, rfl, HA, HK, HB⟩ := hrel
    have hk := HK.out
    by_cases hlt : k < l.length
    · have hC := Kd.C_below HR0.out HB.out
      obtain ⟨ad, e, hx0, hx1, hx2⟩ := at_T50 hC (k : Int) (by omega) (by omega)
      cases e
      have hget : rd_T50 l (k : Int) = l[k] := by
        unfold rd_T50
        simp only [Int.toNat_natCast, List.getD_eq_getElem?_getD]
        rw [List.getElem?_eq_getElem hlt]; rfl
      have hxx : l[k]? = some l[k] := List.getElem?_eq_getElem hlt
      rw [hget] at hx0 hx1 hx2
      simp only [Int.toNat_natCast] at hx0 hx1 hx2
      generalize l[k] = x at hx0 hx1 hx2 hxx
      have HX := Lib.hid hxx
      have z1 : decide ((k : Int) < (l.length : Int)) = true := decide_eq_true (by omega)
      have q1 : (0 ≤ (k : Int)) = True := eq_true (by omega)
      have q2 : ((k : Int) < (l.length : Int)) = True := eq_true (by omega)
      have HLT := Lib.hid hlt
      clear hC hget hxx hlt
      cases hp : (insBad : S50 → Bool) x with
      | true =>
        have hcall := fun W => fn1_ok x W
        rw [show (insBad x) = true from hp] at hcall
        have HP := Lib.hid hp
        clear hp
        go_wp2_with fail
        ((with_reducible refine (hcall _).mono ?_); rintro e_ w_ ⟨rfl, hb⟩)
        clear hcall
        have m_ := Aside0.mk (below_step (by repeat (first | (with_reducible first | exact HB.out | apply below_alloc | apply pw_below_drewN | apply below_drew1) | exact HB.out)) hb); clear HB hb; have HB := m_; clear m_
        go_wp2
        go_ret
        refine ⟨_, rfl, ?_, HB.out⟩
        have : l.any insBad = true := any_here HX.out HP.out
        rw [this]
        exact propext ⟨fun _ => rfl, fun _ => by omega⟩
      | false =>
        have hcall := fun W => fn1_ok x W
        rw [show (insBad x) = false from hp] at hcall
        have HP := Lib.hid hp
        clear hp
        go_wp2_with fail
        ((with_reducible refine (hcall _).mono ?_); rintro e_ w_ ⟨rfl, hb⟩)
        clear hcall
        have m_ := Aside0.mk (below_step (by repeat (first | (with_reducible first | exact HB.out | apply below_alloc | apply pw_below_drewN | apply below_drew1) | exact HB.out)) hb); clear HB hb; have HB := m_; clear m_
        go_wp2
        have hlt := HLT.out
        exact ⟨⟨k + 1, by go_num, ⟨any_more HX.out HP.out HA.out⟩, ⟨hlt⟩, HB⟩, by simp [intOf]; omega⟩
    · have z1 : decide ((k : Int) < (l.length : Int)) = false := decide_eq_false (by omega)
      have hE := any_end (by omega) HA.out
      have HE := Lib.hid hE
      clear hE
      go_wp2
      go_ret
      refine ⟨_, rfl, ?_, HB.out⟩
      rw [HE.out]
      exact propext ⟨fun g => by omega, fun g => by cases g⟩
theorem contains_ins (A0 : Option Addr) (c0 : Nat) (l : List S50) (w : World) (hr0 : Kd.C k50 w A0 l.length l) (hl : l.length ≤ 140737488355318) :
    Calls Tryd.prog 85 #[.slice A0 l.length c0, .func (.func 86) #[] #[]] w fun e w' => e = .returned (.bool (l.any insBad)) ∧ Below w.heap.size w w' := by
  have hidx := index_ins A0 c0 l w hr0 hl
  clear hr0
  go_enter Tryd.func85, Tryd.ntmps85
  go_wp2_with fail
  ((with_reducible refine hidx.mono ?_); rintro e_ w_ ⟨r, rfl, hr, hb⟩)
  have HR := Aside0.mk hr; have HB := Aside0.mk hb
  clear hidx hr hb
  go_wp2
  go_ret
  refine ⟨?_, HB.out⟩
  have := HR.out
  rw [show decide (r ≥ 0) = l.any insBad by rw [Bool.eq_iff_iff, decide_eq_true_eq, ← this]]
  rfl
def PIm.api_Instr_85.f (l : List S50) (q : Int) : Option Bool := if l.length ≤ 140737488355318 then some (l.any insBad) else none
theorem PIm.api_Instr_85.calls (A0 : Option Addr) (c0 : Nat) (l : List S50) (q : Int) (r : Bool) (w : World) (hr0 : Kd.C k50 w A0 l.length l) (hc0 : l.length ≤ c0) (h : PIm.api_Instr_85.f l q = some r) :
    Calls Tryd.prog 85 #[.slice A0 l.length c0, .func (.func 86) #[] #[]] w fun e w' => e = .returned (.bool r) ∧ Below w.heap.size w w' := by
  unfold PIm.api_Instr_85.f at h
  split at h
  · next hc =>
    obtain rfl := Option.some.inj h
    exact contains_ins A0 c0 l w hr0 hc
  · cases h
set_option maxHeartbeats 2000000 in
set_option maxRecDepth 100000 in
theorem index_glo (A0 : Option Addr) (c0 : Nat) (l : List S48) (w : World) (hr0 : Kd.C k48 w A0 l.length l) (hl : l.length ≤ 140737488355318) :
    Calls Tryd.prog 79 #[.slice A0 l.length c0, .func (.func 53) #[] #[]] w fun e w' => ∃ r : Int, e = .returned (.int .i64 r) ∧ ((0 ≤ r) = (l.any (fun x => !globB x) = true)) ∧ Below w.heap.size w w' := by
  have HR0 := Aside0.mk hr0
  clear hr0
  go_enter Tryd.func79, Tryd.ntmps79
  go_wp2_with fail
  go_loopw [8] (fun v wr => ∃ (k : Nat), v = .int .i64 k ∧ Aside0 ((l.take k).any (fun x => !globB x) = false) ∧ Aside0 (k ≤ l.length) ∧ Aside0 (Below w.heap.size w wr)) (fun v _ => l.length - (intOf v).toNat)
  case atStart => exact ⟨0, rfl, ⟨by simp⟩, ⟨Nat.zero_le _⟩, ⟨Below.refl _ _⟩⟩
  case round =>
    obtain ⟨k, rfl, HA, HK, HB⟩ := hrel
    have hk := HK.out
    by_cases hlt : k < l.length
    · have hC := Kd.C_below HR0.out HB.out
      obtain ⟨ad, e, hx0, hx1, hx2⟩ := at_T48 hC (k : Int) (by omega) (by omega)
      cases e
      have hget : rd_T48 l (k : Int) = l[k] := by
        unfold rd_T48
        simp only [Int.toNat_natCast, List.getD_eq_getElem?_getD]
        rw [List.getElem?_eq_getElem hlt]; rfl
      have hxx : l[k]? = some l[k] := List.getElem?_eq_getElem hlt
      rw [hget] at hx0 hx1 hx2
      simp only [Int.toNat_natCast] at hx0 hx1 hx2
      generalize l[k] = x at hx0 hx1 hx2 hxx
      have HX := Lib.hid hxx
      have z1 : decide ((k : Int) < (l.length : Int)) = true := decide_eq_true (by omega)
      have q1 : (0 ≤ (k : Int)) = True := eq_true (by omega)
      have q2 : ((k : Int) < (l.length : Int)) = True := eq_true (by omega)
      have HLT := Lib.hid hlt
      clear hC hget hxx hlt
      cases hp : ((fun x => !globB x) : S48 → Bool) x with
      | true =>
        have hcall := fun W => ok1_ok x W
        rw [show (!globB x) = true from hp] at hcall
        have HP := Lib.hid hp
        clear hp
        go_wp2_with fail
        ((with_reducible refine (hcall _).mono ?_); rintro e_ w_ ⟨rfl, hb⟩)
        clear hcall
        have m_ := Aside0.mk (below_step (by repeat (first | (with_reducible first | exact HB.out | apply below_alloc | apply pw_below_drewN | apply below_drew1) | exact HB.out)) hb); clear HB hb; have HB := m_; clear m_
        go_wp2
        go_ret
        refine ⟨_, rfl, ?_, HB.out⟩
        have : l.any (fun x => !globB x) = true := any_here HX.out HP.out
        rw [this]
        exact propext ⟨fun _ => rfl, fun _ => by omega⟩
      | false =>
        have hcall := fun W => ok1_ok x W
        rw [show (!globB x) = false from hp] at hcall
        have HP := Lib.hid hp
        clear hp
        go_wp2_with fail
        ((with_reducible refine (hcall _).mono ?_); rintro e_ w_ ⟨rfl, hb⟩)
        clear hcall
        have m_ := Aside0.mk (below_step (by repeat (first | (with_reducible first | exact HB.out | apply below_alloc | apply pw_below_drewN | apply below_drew1) | exact HB.out)) hb); clear HB hb; have HB := m_; clear m_
        go_wp2
        have hlt := HLT.out
        exact ⟨⟨k + 1, by go_num, ⟨any_more HX.out HP.out HA.out⟩, ⟨hlt⟩, HB⟩, by simp [intOf]; omega⟩
    · have z1 : decide ((k : Int) < (l.length : Int)) = false := decide_eq_false (by omega)
      have hE := any_end (by omega) HA.out
      have HE := Lib.hid hE
      clear hE
      go_wp2
      go_ret
      refine ⟨_, rfl, ?_, HB.out⟩
      rw [HE.out]
      exact propext ⟨fun g => by omega, fun g => by cases g⟩
theorem contains_glo (A0 : Option Addr) (c0 : Nat) (l : List S48) (w : World) (hr0 : Kd.C k48 w A0 l.length l) (hl : l.length ≤ 140737488355318) :
    Calls Tryd.prog 52 #[.slice A0 l.length c0, .func (.func 53) #[] #[]] w fun e w' => e = .returned (.bool (l.any (fun x => !globB x))) ∧ Below w.heap.size w w' := by
  have hidx := index_glo A0 c0 l w hr0 hl
  clear hr0
  go_enter Tryd.func52, Tryd.ntmps52
  go_wp2_with fail
  ((with_reducible refine hidx.mono ?_); rintro e_ w_ ⟨r, rfl, hr, hb⟩)
  have HR := Aside0.mk hr; have HB := Aside0.mk hb
  clear hidx hr hb
  go_wp2
  go_ret
  refine ⟨?_, HB.out⟩
  have := HR.out
  rw [show decide (r ≥ 0) = l.any (fun x => !globB x) by rw [Bool.eq_iff_iff, decide_eq_true_eq, ← this]]
  rfl
def PIm.api_Glob_52.f (l : List S48) (q : Int) : Option Bool := if l.length ≤ 140737488355318 then some (l.any (fun x => !globB x)) else none
theorem PIm.api_Glob_52.calls (A0 : Option Addr) (c0 : Nat) (l : List S48) (q : Int) (r : Bool) (w : World) (hr0 : Kd.C k48 w A0 l.length l) (hc0 : l.length ≤ c0) (h : PIm.api_Glob_52.f l q = some r) :
    Calls Tryd.prog 52 #[.slice A0 l.length c0, .func (.func 53) #[] #[]] w fun e w' => e = .returned (.bool r) ∧ Below w.heap.size w w' := by
  unfold PIm.api_Glob_52.f at h
  split at h
  · next hc =>
    obtain rfl := Option.some.inj h
    exact contains_glo A0 c0 l w hr0 hc
  · cases h
end Go.Proofs.YteidgpaakoeefaaDoor
namespace Go.Proofs.YteidgpaakoeefaaDoor.PIm
open Go.RowKit Go.Proofs.YteidgpaakoeefaaDoorW.PrintWords Go.Proofs.YteidgpaakoeefaaDoorW.PrintLast Go.Proofs.YteidgpaakoeefaaDoorW.PrintMore
attribute [local go_sem] max2_int min2_int max_two min_two max_three min_three max_four min_four   -- for this text's walks alone
set_option linter.unusedVariables false
set_option linter.unusedSimpArgs false
def token_letter.f (a0 : Int) : Option (Bool) := if 97 ≤ a0 then (if a0 ≤ 122 then (some true) else (some (a0 == 95))) else (some (a0 == 95))
set_option maxHeartbeats 8000000 in
set_option maxRecDepth 100000 in
theorem token_letter.calls (a0 : Int) (r : Bool) (w : World) (h : token_letter.f a0 = some r) :
    Calls Tryd.prog 98 #[.int .u8 a0] w fun e w' => e = .returned (.bool r) ∧ Drawn0 w w' := by
  have H : (if 97 ≤ a0 then (if a0 ≤ 122 then (some true) else (some (a0 == 95))) else (some (a0 == 95))) = some r := h
  clear h
  by_cases c2 : 97 ≤ a0
  · rw [if_pos c2] at H
    have c2b0 : decide (97 ≤ a0) = true := decide_eq_true c2
    clear c2
    by_cases c3 : a0 ≤ 122
    · rw [if_pos c3] at H
      have c3b0 : decide (a0 ≤ 122) = true := decide_eq_true c3
      clear c3
      obtain rfl := Option.some.inj H
      go_enter Tryd.func98, Tryd.ntmps98
      go_wp2
      go_ret
      exact ⟨by first | rfl | (simp; done) | (simp [*]; done), by repeat (first | exact Drawn0.refl _ | apply Drawn0.step)⟩
    · rw [if_neg c3] at H
      have c3b0 : decide (a0 ≤ 122) = false := decide_eq_false c3
      clear c3
      obtain rfl := Option.some.inj H
      go_enter Tryd.func98, Tryd.ntmps98
      go_wp2
      go_ret
      exact ⟨by first | rfl | (simp; done) | (simp [*]; done), by repeat (first | exact Drawn0.refl _ | apply Drawn0.step)⟩
  · rw [if_neg c2] at H
    have c2b0 : decide (97 ≤ a0) = false := decide_eq_false c2
    clear c2
    obtain rfl := Option.some.inj H
    go_enter Tryd.func98, Tryd.ntmps98
    go_wp2
    go_ret
    exact ⟨by first | rfl | (simp; done) | (simp [*]; done), by repeat (first | exact Drawn0.refl _ | apply Drawn0.step)⟩
def token_digit.f (a0 : Int) : Option (Bool) := if 48 ≤ a0 then (some (decide (a0 ≤ 57))) else (some false)
set_option maxHeartbeats 8000000 in
set_option maxRecDepth 100000 in
theorem token_digit.calls (a0 : Int) (r : Bool) (w : World) (h : token_digit.f a0 = some r) :
    Calls Tryd.prog 108 #[.int .u8 a0] w fun e w' => e = .returned (.bool r) ∧ Drawn0 w w' := by
  have H : (if 48 ≤ a0 then (some (decide (a0 ≤ 57))) else (some false)) = some r := h
  clear h
  by_cases c2 : 48 ≤ a0
  · rw [if_pos c2] at H
    have c2b0 : decide (48 ≤ a0) = true := decide_eq_true c2
    clear c2
    obtain rfl := Option.some.inj H
    go_enter Tryd.func108, Tryd.ntmps108
    go_wp2
    go_ret
    exact ⟨by first | rfl | (simp; done) | (simp [*]; done), by repeat (first | exact Drawn0.refl _ | apply Drawn0.step)⟩
  · rw [if_neg c2] at H
    have c2b0 : decide (48 ≤ a0) = false := decide_eq_false c2
    clear c2
    obtain rfl := Option.some.inj H
    go_enter Tryd.func108, Tryd.ntmps108
    go_wp2
    go_ret
    exact ⟨by first | rfl | (simp; done) | (simp [*]; done), by repeat (first | exact Drawn0.refl _ | apply Drawn0.step)⟩
def token_inName.f (a0 : Int) : Option (Bool) := (token_letter.f a0).bind fun t143 => (if t143 = true then (some true) else ((token_digit.f a0).bind fun t144 => (some t144)))
set_option maxHeartbeats 8000000 in
set_option maxRecDepth 100000 in
theorem token_inName.calls (a0 : Int) (r : Bool) (w : World) (h : token_inName.f a0 = some r) :
    Calls Tryd.prog 100 #[.int .u8 a0] w fun e w' => e = .returned (.bool r) ∧ Drawn0 w w' := by
  have H : ((token_letter.f a0).bind fun t143 => (if t143 = true then (some true) else ((token_digit.f a0).bind fun t144 => (some t144)))) = some r := h
  clear h
  replace H := Option.bind_eq_some_iff.mp H
  obtain ⟨t143, A20, H⟩ := H
  replace H : (if t143 = true then (some true) else ((token_digit.f a0).bind fun t144 => (some t144))) = some r := H
  have A2 := Aside0.mk A20
  clear A20
  by_cases c3 : t143 = true
  · subst c3
    have H1 : (some true) = some r := by rw [if_pos rfl] at H; exact H
    clear H
    have H := H1
    clear H1
    obtain rfl := Option.some.inj H
    go_enter Tryd.func100, Tryd.ntmps100
    go_wp2_with (first | ((with_reducible refine gate_callee (f := 98) rfl ?_); refine goesL_ (some 4) rfl rfl Tryd.func98 (by kernel_rfl) rfl #[.int .u8 a0] rfl (by (try simp only [List.map_toArray, List.map_cons, List.map_nil]); first | done | rfl | (simp only [List.length_drop, List.length_take]; rfl)) ?_; (with_reducible refine (token_letter.calls a0 true _ A2.out).mono ?_); rintro e w' ⟨rfl, ⟨nd, rfl⟩⟩; refine ⟨_, rfl, ?_⟩))
    go_ret
    exact ⟨by first | rfl | (simp; done) | (simp [*]; done), by repeat (first | exact Drawn0.refl _ | apply Drawn0.step)⟩
  · replace c3 := Bool.eq_false_iff.mpr c3
    subst c3
    have H1 : ((token_digit.f a0).bind fun t144 => (some t144)) = some r := by rw [if_neg (show ¬ (false = true) by decide)] at H; exact H
    clear H
    have H := H1
    clear H1
    replace H := Option.bind_eq_some_iff.mp H
    obtain ⟨t144, A40, H⟩ := H
    replace H : (some t144) = some r := H
    have A4 := Aside0.mk A40
    clear A40
    obtain rfl := Option.some.inj H
    go_enter Tryd.func100, Tryd.ntmps100
    go_wp2_with (first | ((with_reducible refine gate_callee (f := 98) rfl ?_); refine goesL_ (some 4) rfl rfl Tryd.func98 (by kernel_rfl) rfl #[.int .u8 a0] rfl (by (try simp only [List.map_toArray, List.map_cons, List.map_nil]); first | done | rfl | (simp only [List.length_drop, List.length_take]; rfl)) ?_; (with_reducible refine (token_letter.calls a0 false _ A2.out).mono ?_); rintro e w' ⟨rfl, ⟨nd, rfl⟩⟩; refine ⟨_, rfl, ?_⟩) | (go_at_call 108; (with_reducible refine (token_digit.calls a0 t144 _ A4.out).mono ?_); rintro e w' ⟨rfl, ⟨nd, rfl⟩⟩))
    go_ret
    exact ⟨by first | rfl | (simp; done) | (simp [*]; done), by repeat (first | exact Drawn0.refl _ | apply Drawn0.step)⟩
def token_Word.f (a0 : ByteArray) : Option (Bool) := if a0.toList = ([98, 111, 111, 108] : List UInt8) then (some true) else (if a0.toList = ([101, 108, 115, 101] : List UInt8) then (some true) else (if a0.toList = ([101, 110, 116] : List UInt8) then (some true) else (if a0.toList = ([102, 97, 108, 115, 101] : List UInt8) then (some true) else (if a0.toList = ([102, 105, 120] : List UInt8) then (some true) else (if a0.toList = ([102, 110] : List UInt8) then (some true) else (if a0.toList = ([105, 102] : List UInt8) then (some true) else (if a0.toList = ([105, 110, 116] : List UInt8) then (some true) else (if a0.toList = ([108, 101, 116] : List UInt8) then (some true) else (if a0.toList = ([110, 117, 108, 108] : List UInt8) then (some true) else (if a0.toList = ([114, 101, 116, 117, 114, 110] : List UInt8) then (some true) else (if a0.toList = ([116, 114, 117, 101] : List UInt8) then (some true) else (if a0.toList = ([118, 97, 114] : List UInt8) then (some true) else (if a0.toList = ([119, 104, 105, 108, 101] : List UInt8) then (some true) else (some false))))))))))))))
set_option maxHeartbeats 8000000 in
set_option maxRecDepth 100000 in
theorem token_Word.calls (a0 : ByteArray) (r : Bool) (w : World) (h : token_Word.f a0 = some r) :
    Calls Tryd.prog 101 #[.string a0] w fun e w' => e = .returned (.bool r) ∧ Drawn0 w w' := by
  have H : (if a0.toList = ([98, 111, 111, 108] : List UInt8) then (some true) else (if a0.toList = ([101, 108, 115, 101] : List UInt8) then (some true) else (if a0.toList = ([101, 110, 116] : List UInt8) then (some true) else (if a0.toList = ([102, 97, 108, 115, 101] : List UInt8) then (some true) else (if a0.toList = ([102, 105, 120] : List UInt8) then (some true) else (if a0.toList = ([102, 110] : List UInt8) then (some true) else (if a0.toList = ([105, 102] : List UInt8) then (some true) else (if a0.toList = ([105, 110, 116] : List UInt8) then (some true) else (if a0.toList = ([108, 101, 116] : List UInt8) then (some true) else (if a0.toList = ([110, 117, 108, 108] : List UInt8) then (some true) else (if a0.toList = ([114, 101, 116, 117, 114, 110] : List UInt8) then (some true) else (if a0.toList = ([116, 114, 117, 101] : List UInt8) then (some true) else (if a0.toList = ([118, 97, 114] : List UInt8) then (some true) else (if a0.toList = ([119, 104, 105, 108, 101] : List UInt8) then (some true) else (some false))))))))))))))) = some r := h
  clear h
  by_cases c2 : a0.toList = ([98, 111, 111, 108] : List UInt8)
  · rw [if_pos c2] at H
    have c2b0 : (a0.toList == ([98, 111, 111, 108] : List UInt8)) = true := beq_iff_eq.mpr c2
    have c2b1 : (a0.toList != ([98, 111, 111, 108] : List UInt8)) = false := bne_eq_false_iff_eq.mpr c2
    clear c2
    obtain rfl := Option.some.inj H
    go_enter Tryd.func101, Tryd.ntmps101
    go_wp2
    go_ret
    exact ⟨by first | rfl | (simp; done) | (simp [*]; done), by repeat (first | exact Drawn0.refl _ | apply Drawn0.step)⟩
  · rw [if_neg c2] at H
    have c2b0 : (a0.toList == ([98, 111, 111, 108] : List UInt8)) = false := beq_eq_false_iff_ne.mpr c2
    have c2b1 : (a0.toList != ([98, 111, 111, 108] : List UInt8)) = true := bne_iff_ne.mpr c2
    by_cases c3 : a0.toList = ([101, 108, 115, 101] : List UInt8)
    · rw [if_pos c3] at H
      have c3b0 : (a0.toList == ([101, 108, 115, 101] : List UInt8)) = true := beq_iff_eq.mpr c3
      have c3b1 : (a0.toList != ([101, 108, 115, 101] : List UInt8)) = false := bne_eq_false_iff_eq.mpr c3
      clear c3
      obtain rfl := Option.some.inj H
      go_enter Tryd.func101, Tryd.ntmps101
      go_wp2
      go_ret
      exact ⟨by first | rfl | (simp; done) | (simp [*]; done), by repeat (first | exact Drawn0.refl _ | apply Drawn0.step)⟩
    · rw [if_neg c3] at H
      have c3b0 : (a0.toList == ([101, 108, 115, 101] : List UInt8)) = false := beq_eq_false_iff_ne.mpr c3
      have c3b1 : (a0.toList != ([101, 108, 115, 101] : List UInt8)) = true := bne_iff_ne.mpr c3
      by_cases c4 : a0.toList = ([101, 110, 116] : List UInt8)
      · rw [if_pos c4] at H
        have c4b0 : (a0.toList == ([101, 110, 116] : List UInt8)) = true := beq_iff_eq.mpr c4
        have c4b1 : (a0.toList != ([101, 110, 116] : List UInt8)) = false := bne_eq_false_iff_eq.mpr c4
        clear c4
        obtain rfl := Option.some.inj H
        go_enter Tryd.func101, Tryd.ntmps101
        go_wp2
        go_ret
        exact ⟨by first | rfl | (simp; done) | (simp [*]; done), by repeat (first | exact Drawn0.refl _ | apply Drawn0.step)⟩
      · rw [if_neg c4] at H
        have c4b0 : (a0.toList == ([101, 110, 116] : List UInt8)) = false := beq_eq_false_iff_ne.mpr c4
        have c4b1 : (a0.toList != ([101, 110, 116] : List UInt8)) = true := bne_iff_ne.mpr c4
        by_cases c5 : a0.toList = ([102, 97, 108, 115, 101] : List UInt8)
        · rw [if_pos c5] at H
          have c5b0 : (a0.toList == ([102, 97, 108, 115, 101] : List UInt8)) = true := beq_iff_eq.mpr c5
          have c5b1 : (a0.toList != ([102, 97, 108, 115, 101] : List UInt8)) = false := bne_eq_false_iff_eq.mpr c5
          clear c5
          obtain rfl := Option.some.inj H
          go_enter Tryd.func101, Tryd.ntmps101
          go_wp2
          go_ret
          exact ⟨by first | rfl | (simp; done) | (simp [*]; done), by repeat (first | exact Drawn0.refl _ | apply Drawn0.step)⟩
        · rw [if_neg c5] at H
          have c5b0 : (a0.toList == ([102, 97, 108, 115, 101] : List UInt8)) = false := beq_eq_false_iff_ne.mpr c5
          have c5b1 : (a0.toList != ([102, 97, 108, 115, 101] : List UInt8)) = true := bne_iff_ne.mpr c5
          by_cases c6 : a0.toList = ([102, 105, 120] : List UInt8)
          · rw [if_pos c6] at H
            have c6b0 : (a0.toList == ([102, 105, 120] : List UInt8)) = true := beq_iff_eq.mpr c6
            have c6b1 : (a0.toList != ([102, 105, 120] : List UInt8)) = false := bne_eq_false_iff_eq.mpr c6
            clear c6
            obtain rfl := Option.some.inj H
            go_enter Tryd.func101, Tryd.ntmps101
            go_wp2
            go_ret
            exact ⟨by first | rfl | (simp; done) | (simp [*]; done), by repeat (first | exact Drawn0.refl _ | apply Drawn0.step)⟩
          · rw [if_neg c6] at H
            have c6b0 : (a0.toList == ([102, 105, 120] : List UInt8)) = false := beq_eq_false_iff_ne.mpr c6
            have c6b1 : (a0.toList != ([102, 105, 120] : List UInt8)) = true := bne_iff_ne.mpr c6
            by_cases c7 : a0.toList = ([102, 110] : List UInt8)
            · rw [if_pos c7] at H
              have c7b0 : (a0.toList == ([102, 110] : List UInt8)) = true := beq_iff_eq.mpr c7
              have c7b1 : (a0.toList != ([102, 110] : List UInt8)) = false := bne_eq_false_iff_eq.mpr c7
              clear c7
              obtain rfl := Option.some.inj H
              go_enter Tryd.func101, Tryd.ntmps101
              go_wp2
              go_ret
              exact ⟨by first | rfl | (simp; done) | (simp [*]; done), by repeat (first | exact Drawn0.refl _ | apply Drawn0.step)⟩
            · rw [if_neg c7] at H
              have c7b0 : (a0.toList == ([102, 110] : List UInt8)) = false := beq_eq_false_iff_ne.mpr c7
              have c7b1 : (a0.toList != ([102, 110] : List UInt8)) = true := bne_iff_ne.mpr c7
              by_cases c8 : a0.toList = ([105, 102] : List UInt8)
              · rw [if_pos c8] at H
                have c8b0 : (a0.toList == ([105, 102] : List UInt8)) = true := beq_iff_eq.mpr c8
                have c8b1 : (a0.toList != ([105, 102] : List UInt8)) = false := bne_eq_false_iff_eq.mpr c8
                clear c8
                obtain rfl := Option.some.inj H
                go_enter Tryd.func101, Tryd.ntmps101
                go_wp2
                go_ret
                exact ⟨by first | rfl | (simp; done) | (simp [*]; done), by repeat (first | exact Drawn0.refl _ | apply Drawn0.step)⟩
              · rw [if_neg c8] at H
                have c8b0 : (a0.toList == ([105, 102] : List UInt8)) = false := beq_eq_false_iff_ne.mpr c8
                have c8b1 : (a0.toList != ([105, 102] : List UInt8)) = true := bne_iff_ne.mpr c8
                by_cases c9 : a0.toList = ([105, 110, 116] : List UInt8)
                · rw [if_pos c9] at H
                  have c9b0 : (a0.toList == ([105, 110, 116] : List UInt8)) = true := beq_iff_eq.mpr c9
                  have c9b1 : (a0.toList != ([105, 110, 116] : List UInt8)) = false := bne_eq_false_iff_eq.mpr c9
                  clear c9
                  obtain rfl := Option.some.inj H
                  go_enter Tryd.func101, Tryd.ntmps101
                  go_wp2
                  go_ret
                  exact ⟨by first | rfl | (simp; done) | (simp [*]; done), by repeat (first | exact Drawn0.refl _ | apply Drawn0.step)⟩
                · rw [if_neg c9] at H
                  have c9b0 : (a0.toList == ([105, 110, 116] : List UInt8)) = false := beq_eq_false_iff_ne.mpr c9
                  have c9b1 : (a0.toList != ([105, 110, 116] : List UInt8)) = true := bne_iff_ne.mpr c9
                  by_cases c10 : a0.toList = ([108, 101, 116] : List UInt8)
                  · rw [if_pos c10] at H
                    have c10b0 : (a0.toList == ([108, 101, 116] : List UInt8)) = true := beq_iff_eq.mpr c10
                    have c10b1 : (a0.toList != ([108, 101, 116] : List UInt8)) = false := bne_eq_false_iff_eq.mpr c10
                    clear c10
                    obtain rfl := Option.some.inj H
                    go_enter Tryd.func101, Tryd.ntmps101
                    go_wp2
                    go_ret
                    exact ⟨by first | rfl | (simp; done) | (simp [*]; done), by repeat (first | exact Drawn0.refl _ | apply Drawn0.step)⟩
                  · rw [if_neg c10] at H
                    have c10b0 : (a0.toList == ([108, 101, 116] : List UInt8)) = false := beq_eq_false_iff_ne.mpr c10
                    have c10b1 : (a0.toList != ([108, 101, 116] : List UInt8)) = true := bne_iff_ne.mpr c10
                    by_cases c11 : a0.toList = ([110, 117, 108, 108] : List UInt8)
                    · rw [if_pos c11] at H
                      have c11b0 : (a0.toList == ([110, 117, 108, 108] : List UInt8)) = true := beq_iff_eq.mpr c11
                      have c11b1 : (a0.toList != ([110, 117, 108, 108] : List UInt8)) = false := bne_eq_false_iff_eq.mpr c11
                      clear c11
                      obtain rfl := Option.some.inj H
                      go_enter Tryd.func101, Tryd.ntmps101
                      go_wp2
                      go_ret
                      exact ⟨by first | rfl | (simp; done) | (simp [*]; done), by repeat (first | exact Drawn0.refl _ | apply Drawn0.step)⟩
                    · rw [if_neg c11] at H
                      have c11b0 : (a0.toList == ([110, 117, 108, 108] : List UInt8)) = false := beq_eq_false_iff_ne.mpr c11
                      have c11b1 : (a0.toList != ([110, 117, 108, 108] : List UInt8)) = true := bne_iff_ne.mpr c11
                      by_cases c12 : a0.toList = ([114, 101, 116, 117, 114, 110] : List UInt8)
                      · rw [if_pos c12] at H
                        have c12b0 : (a0.toList == ([114, 101, 116, 117, 114, 110] : List UInt8)) = true := beq_iff_eq.mpr c12
                        have c12b1 : (a0.toList != ([114, 101, 116, 117, 114, 110] : List UInt8)) = false := bne_eq_false_iff_eq.mpr c12
                        clear c12
                        obtain rfl := Option.some.inj H
                        go_enter Tryd.func101, Tryd.ntmps101
                        go_wp2
                        go_ret
                        exact ⟨by first | rfl | (simp; done) | (simp [*]; done), by repeat (first | exact Drawn0.refl _ | apply Drawn0.step)⟩
                      · rw [if_neg c12] at H
                        have c12b0 : (a0.toList == ([114, 101, 116, 117, 114, 110] : List UInt8)) = false := beq_eq_false_iff_ne.mpr c12
                        have c12b1 : (a0.toList != ([114, 101, 116, 117, 114, 110] : List UInt8)) = true := bne_iff_ne.mpr c12
                        by_cases c13 : a0.toList = ([116, 114, 117, 101] : List UInt8)
                        · rw [if_pos c13] at H
                          have c13b0 : (a0.toList == ([116, 114, 117, 101] : List UInt8)) = true := beq_iff_eq.mpr c13
                          have c13b1 : (a0.toList != ([116, 114, 117, 101] : List UInt8)) = false := bne_eq_false_iff_eq.mpr c13
                          clear c13
                          obtain rfl := Option.some.inj H
                          go_enter Tryd.func101, Tryd.ntmps101
                          go_wp2
                          go_ret
                          exact ⟨by first | rfl | (simp; done) | (simp [*]; done), by repeat (first | exact Drawn0.refl _ | apply Drawn0.step)⟩
                        · rw [if_neg c13] at H
                          have c13b0 : (a0.toList == ([116, 114, 117, 101] : List UInt8)) = false := beq_eq_false_iff_ne.mpr c13
                          have c13b1 : (a0.toList != ([116, 114, 117, 101] : List UInt8)) = true := bne_iff_ne.mpr c13
                          by_cases c14 : a0.toList = ([118, 97, 114] : List UInt8)
                          · rw [if_pos c14] at H
                            have c14b0 : (a0.toList == ([118, 97, 114] : List UInt8)) = true := beq_iff_eq.mpr c14
                            have c14b1 : (a0.toList != ([118, 97, 114] : List UInt8)) = false := bne_eq_false_iff_eq.mpr c14
                            clear c14
                            obtain rfl := Option.some.inj H
                            go_enter Tryd.func101, Tryd.ntmps101
                            go_wp2
                            go_ret
                            exact ⟨by first | rfl | (simp; done) | (simp [*]; done), by repeat (first | exact Drawn0.refl _ | apply Drawn0.step)⟩
                          · rw [if_neg c14] at H
                            have c14b0 : (a0.toList == ([118, 97, 114] : List UInt8)) = false := beq_eq_false_iff_ne.mpr c14
                            have c14b1 : (a0.toList != ([118, 97, 114] : List UInt8)) = true := bne_iff_ne.mpr c14
                            by_cases c15 : a0.toList = ([119, 104, 105, 108, 101] : List UInt8)
                            · rw [if_pos c15] at H
                              have c15b0 : (a0.toList == ([119, 104, 105, 108, 101] : List UInt8)) = true := beq_iff_eq.mpr c15
                              have c15b1 : (a0.toList != ([119, 104, 105, 108, 101] : List UInt8)) = false := bne_eq_false_iff_eq.mpr c15
                              clear c15
                              obtain rfl := Option.some.inj H
                              go_enter Tryd.func101, Tryd.ntmps101
                              go_wp2
                              go_ret
                              exact ⟨by first | rfl | (simp; done) | (simp [*]; done), by repeat (first | exact Drawn0.refl _ | apply Drawn0.step)⟩
                            · rw [if_neg c15] at H
                              have c15b0 : (a0.toList == ([119, 104, 105, 108, 101] : List UInt8)) = false := beq_eq_false_iff_ne.mpr c15
                              have c15b1 : (a0.toList != ([119, 104, 105, 108, 101] : List UInt8)) = true := bne_iff_ne.mpr c15
                              obtain rfl := Option.some.inj H
                              go_enter Tryd.func101, Tryd.ntmps101
                              go_wp2
                              go_ret
                              exact ⟨by first | rfl | (simp; done) | (simp [*]; done), by repeat (first | exact Drawn0.refl _ | apply Drawn0.step)⟩
end Go.Proofs.YteidgpaakoeefaaDoor.PIm
namespace Go.Proofs.YteidgpaakoeefaaDoor
open Go.RowKit Go.Proofs.YteidgpaakoeefaaDoorW.PrintWords Go.Proofs.YteidgpaakoeefaaDoorW.PrintLast Go.Proofs.YteidgpaakoeefaaDoorW.PrintMore
set_option linter.unusedVariables false
set_option linter.unusedSimpArgs false
open PIm
def letC (c : UInt8) : Bool := (decide (97 ≤ c.toNat) && decide (c.toNat ≤ 122)) || decide (c.toNat = 95)
def digC (c : UInt8) : Bool := decide (48 ≤ c.toNat) && decide (c.toNat ≤ 57)
def nameC (c : UInt8) : Bool := letC c || digC c
def lenW (p : UInt8 → Bool) : List UInt8 → Nat
  | [] => 0
  | c :: l => if p c then lenW p l + 1 else 0
theorem lenW_le (p : UInt8 → Bool) : ∀ l, lenW p l ≤ l.length
  | [] => Nat.le_refl _
  | c :: l => by unfold lenW; split; · have := lenW_le p l; simp; omega
                 · simp
theorem lenW_take (p : UInt8 → Bool) : ∀ (l : List UInt8), ∀ c ∈ l.take (lenW p l), p c = true
  | [], c, h => by simp at h
  | x :: l, c, h => by
    unfold lenW at h
    split at h
    · next hx =>
      rw [List.take_succ_cons] at h
      rcases List.mem_cons.1 h with rfl | h
      · exact hx
      · exact lenW_take p l c h
    · simp at h
theorem lenW_stop (p : UInt8 → Bool) : ∀ (l : List UInt8) (h : lenW p l < l.length), p l[lenW p l] = false
  | [], h => by simp at h
  | c :: l, h => by
    by_cases hc : p c = true
    · have e : lenW p (c :: l) = lenW p l + 1 := by rw [lenW, if_pos hc]
      rw [e] at h
      have := lenW_stop p l (by simpa using h)
      simp only [e, List.getElem_cons_succ]
      exact this
    · have e : lenW p (c :: l) = 0 := by rw [lenW, if_neg hc]
      simp only [e, List.getElem_cons_zero]
      simpa using hc
def wordsL : List (List UInt8) := [[98, 111, 111, 108], [101, 108, 115, 101], [101, 110, 116], [102, 97, 108, 115, 101], [102, 105, 120], [102, 110], [105, 102], [105, 110, 116], [108, 101, 116], [110, 117, 108, 108], [114, 101, 116, 117, 114, 110], [116, 114, 117, 101], [118, 97, 114], [119, 104, 105, 108, 101]]
def wordL (l : List UInt8) : Bool := decide (l ∈ wordsL)
theorem word_f (s : ByteArray) : token_Word.f s = some (wordL s.toList) := by
  unfold token_Word.f
  generalize s.toList = l
  by_cases h0 : l = [98, 111, 111, 108]
  · subst h0; rfl
  rw [if_neg h0]
  by_cases h1 : l = [101, 108, 115, 101]
  · subst h1; rfl
  rw [if_neg h1]
  by_cases h2 : l = [101, 110, 116]
  · subst h2; rfl
  rw [if_neg h2]
  by_cases h3 : l = [102, 97, 108, 115, 101]
  · subst h3; rfl
  rw [if_neg h3]
  by_cases h4 : l = [102, 105, 120]
  · subst h4; rfl
  rw [if_neg h4]
  by_cases h5 : l = [102, 110]
  · subst h5; rfl
  rw [if_neg h5]
  by_cases h6 : l = [105, 102]
  · subst h6; rfl
  rw [if_neg h6]
  by_cases h7 : l = [105, 110, 116]
  · subst h7; rfl
  rw [if_neg h7]
  by_cases h8 : l = [108, 101, 116]
  · subst h8; rfl
  rw [if_neg h8]
  by_cases h9 : l = [110, 117, 108, 108]
  · subst h9; rfl
  rw [if_neg h9]
  by_cases h10 : l = [114, 101, 116, 117, 114, 110]
  · subst h10; rfl
  rw [if_neg h10]
  by_cases h11 : l = [116, 114, 117, 101]
  · subst h11; rfl
  rw [if_neg h11]
  by_cases h12 : l = [118, 97, 114]
  · subst h12; rfl
  rw [if_neg h12]
  by_cases h13 : l = [119, 104, 105, 108, 101]
  · subst h13; rfl
  rw [if_neg h13]
  symm
  refine congrArg some ?_
  unfold wordL wordsL
  rw [decide_eq_false_iff_not]
  simp only [List.mem_cons, List.not_mem_nil, or_false, not_or]
  refine ⟨?_, ?_, ?_, ?_, ?_, ?_, ?_, ?_, ?_, ?_, ?_, ?_, ?_, ?_⟩ <;> assumption
theorem letter_f (c : UInt8) : token_letter.f (c.toNat : Int) = some (letC c) := by
  unfold token_letter.f letC
  (repeat' split) <;> (refine congrArg some ?_; rw [Bool.eq_iff_iff]; simp; omega)
theorem digit_f (c : UInt8) : token_digit.f (c.toNat : Int) = some (digC c) := by
  unfold token_digit.f digC
  (repeat' split) <;> (refine congrArg some ?_; rw [Bool.eq_iff_iff]; simp; omega)
theorem inName_f (c : UInt8) : token_inName.f (c.toNat : Int) = some (nameC c) := by
  unfold token_inName.f nameC
  rw [letter_f, digit_f]
  cases letC c <;> simp
theorem run_more {p : UInt8 → Bool} {l : List UInt8} {k : Nat} {c : UInt8} (h : l[k]? = some c) (hp : p c = true) (hk : k ≤ lenW p l) : k + 1 ≤ lenW p l := by
  obtain ⟨hl, hc⟩ := List.getElem?_eq_some_iff.1 h
  rcases Nat.lt_or_ge k (lenW p l) with g | g
  · exact g
  · exfalso
    have e : lenW p l = k := by omega
    have := lenW_stop p l (by omega)
    simp only [e] at this
    rw [hc, hp] at this; cases this
theorem run_stop {p : UInt8 → Bool} {l : List UInt8} {k : Nat} {c : UInt8} (h : l[k]? = some c) (hp : p c = false) (hk : k ≤ lenW p l) : (k : Int) = (lenW p l : Int) := by
  obtain ⟨hl, hc⟩ := List.getElem?_eq_some_iff.1 h
  rcases Nat.lt_or_ge k (lenW p l) with g | g
  · exfalso
    have := lenW_take p l c (by rw [List.mem_iff_getElem?]; exact ⟨k, by rw [List.getElem?_take_of_lt g]; exact h⟩)
    rw [hp] at this; cases this
  · omega
theorem byte_at (s : ByteArray) (k : Nat) (h : k < s.size) : s.data.toList[k]? = some s[k] := by
  rw [Array.getElem?_toList, Array.getElem?_eq_getElem h]; rfl
theorem in_calls (c : UInt8) (w : World) : Calls Tryd.prog 100 #[.int .u8 (c.toNat : Int)] w fun e w' => e = .returned (.bool (nameC c)) ∧ ∃ n, w' = w.drewN n :=
  (token_inName.calls _ _ w (inName_f c)).mono fun _ _ h => ⟨h.1, h.2.out⟩
theorem let_calls (c : UInt8) (w : World) : Calls Tryd.prog 98 #[.int .u8 (c.toNat : Int)] w fun e w' => e = .returned (.bool (letC c)) ∧ ∃ n, w' = w.drewN n :=
  (token_letter.calls _ _ w (letter_f c)).mono fun _ _ h => ⟨h.1, h.2.out⟩
set_option maxHeartbeats 2000000 in
set_option maxRecDepth 100000 in
theorem run_name (s : ByteArray) (w : World) (hs : s.size ≤ 9223372036854775807) :
    Calls Tryd.prog 99 #[.string s, .func (.func 100) #[] #[]] w fun e w' => e = .returned (.int .i64 (lenW nameC s.data.toList : Int)) ∧ ∃ n, w' = w.drewN n := by
  go_enter Tryd.func99, Tryd.ntmps99
  go_wp2_with fail
  go_loopw [8] (fun v wr => ∃ (k n : Nat), v = .int .i64 k ∧ Aside0 (k ≤ lenW nameC s.data.toList) ∧ Aside0 (wr = w.drewN n)) (fun v _ => s.size - (intOf v).toNat)
  case atStart => exact ⟨0, 0, rfl, ⟨Nat.zero_le _⟩, ⟨rfl⟩⟩
  case round =>
    obtain ⟨k, n, rfl, HK, HW⟩ := hrel
    have hle := lenW_le nameC s.data.toList
    have hsz : s.data.toList.length = s.size := (Lib.size_eq s).symm
    have hk := HK.out
    by_cases hlt : k < s.size
    · have hc := byte_at s k hlt
      have hW := HW.out
      have HLE := Aside0.mk hle
      have HSZ := Lib.hid hsz; have HC := Lib.hid hc
      clear hle hsz hc HW
      subst hW
      by_cases hp : nameC s[k] = true
      · have HP := Lib.hid hp
        have hcall := fun W => in_calls s[k] W
        rw [hp] at hcall
        clear hp
        go_wp2_with fail
        ((with_reducible refine (hcall _).mono ?_); rintro e_ w_ ⟨rfl, ⟨m, rfl⟩⟩)
        clear hcall
        have hk1 := run_more HC.out HP.out hk
        go_wp2
        exact ⟨⟨k + 1, n + m, by go_num, ⟨hk1⟩, ⟨rfl⟩⟩, by simp [intOf]; omega⟩
      · have hp' : nameC s[k] = false := by simpa using hp
        have HP := Lib.hid hp'
        have hcall := fun W => in_calls s[k] W
        rw [hp'] at hcall
        clear hp hp'
        have e := run_stop HC.out HP.out hk
        have HE := Lib.hid e; clear e
        go_wp2_with fail
        ((with_reducible refine (hcall _).mono ?_); rintro e_ w_ ⟨rfl, ⟨m, rfl⟩⟩)
        clear hcall
        go_wp2
        go_ret
        exact ⟨ret_int HE.out, ⟨_, rfl⟩⟩
    · have e : (s.size : Int) = (lenW nameC s.data.toList : Int) := by omega
      have HE := Lib.hid e
      have hW := HW.out
      clear e HW hle hsz
      subst hW
      go_wp2
      go_ret
      exact ⟨ret_int HE.out, ⟨_, rfl⟩⟩
theorem Word_calls (s : ByteArray) (w : World) : Calls Tryd.prog 101 #[.string s] w fun e w' => e = .returned (.bool (wordL s.toList)) ∧ ∃ n, w' = w.drewN n :=
  (token_Word.calls _ _ w (word_f s)).mono fun _ _ h => ⟨h.1, h.2.out⟩
theorem drop_cons {s : ByteArray} {p : Nat} (h : p < s.size) : s.data.toList.drop p = s[p] :: s.data.toList.drop (p + 1) := by
  have hl : p < s.data.toList.length := by rw [← Lib.size_eq]; exact h
  rw [List.drop_eq_getElem_cons hl]; rfl
def nameF (s : ByteArray) : Bool := match s.data.toList with
  | [] => false
  | c :: r => decide (s.size ≤ 24) && (letC c && (decide (lenW nameC (c :: r) = s.size) && !wordL (c :: r)))
theorem nameF_nil {s : ByteArray} (h : s.size = 0) : nameF s = false := by
  unfold nameF
  have : s.data.toList = [] := by apply List.eq_nil_of_length_eq_zero; rw [← Lib.size_eq]; exact h
  rw [this]
theorem nameF_cons {s : ByteArray} (h : 0 < s.size) : nameF s = (decide (s.size ≤ 24) && (letC (s[0]'h) && (decide (lenW nameC s.data.toList = s.size) && !wordL s.data.toList))) := by
  unfold nameF
  have := drop_cons h
  rw [List.drop_zero] at this
  split
  · next e => rw [e] at this; cases this
  · next c r e =>
    have hc : c = s[0]'h := by rw [e] at this; injection this
    rw [hc] at e ⊢
    rw [e]
theorem drop0 {s : ByteArray} (h : 0 < s.size) : s.data.toList = s[0] :: s.data.toList.drop 1 := by have := drop_cons h; rw [List.drop_zero] at this; exact this
set_option maxHeartbeats 4000000 in
set_option maxRecDepth 100000 in
theorem Name_nil (s : ByteArray) (w : World) (hs : s.size ≤ 9223372036854775807) (h : s.size = 0) : Calls Tryd.prog 82 #[.string s] w fun e w' => e = .returned (.bool (nameF s)) ∧ Below w.heap.size w w' := by
  have HB := Aside0.mk (Below.refl w.heap.size w)
  have HR : Hid (nameF s = false) := Lib.hid (nameF_nil h)
  have he : s.toList = [] := by rw [Lib.toList_data]; apply List.eq_nil_of_length_eq_zero; rw [← Lib.size_eq]; exact h
  have he2 : (!s.toList.isEmpty) = false := by rw [he]; rfl
  clear h
  go_enter Tryd.func82, Tryd.ntmps82
  go_wp2
  go_ret
  exact ⟨ret_bool HR.out.symm, HB.out⟩
set_option maxHeartbeats 4000000 in
set_option maxRecDepth 100000 in
theorem Name_long (s : ByteArray) (w : World) (hs : s.size ≤ 9223372036854775807) (h : 0 < s.size) (h24 : 24 < s.size) : Calls Tryd.prog 82 #[.string s] w fun e w' => e = .returned (.bool (nameF s)) ∧ Below w.heap.size w w' := by
  have HB := Aside0.mk (Below.refl w.heap.size w)
  have HR : Hid (nameF s = false) := Lib.hid (by rw [nameF_cons h, decide_eq_false (by omega)]; rfl)
  have he : s.toList.isEmpty = false := by
    rw [Lib.toList_data, drop0 h]; rfl
  have he2 : s.toList ≠ [] := by
    rw [Lib.toList_data, drop0 h]; exact fun g => by cases g
  have z1 : decide ((s.size : Int) ≤ 24) = false := decide_eq_false (by omega)
  have z2 : decide (s.size ≤ 24) = false := decide_eq_false (by omega)
  clear h24
  go_enter Tryd.func82, Tryd.ntmps82
  go_wp2
  go_ret
  exact ⟨ret_bool HR.out.symm, HB.out⟩
set_option maxHeartbeats 4000000 in
set_option maxRecDepth 100000 in
theorem Name_sign (s : ByteArray) (w : World) (hs : s.size ≤ 9223372036854775807) (h : 0 < s.size) (h24 : s.size ≤ 24) (hl : letC (s[0]'h) = false) : Calls Tryd.prog 82 #[.string s] w fun e w' => e = .returned (.bool (nameF s)) ∧ Below w.heap.size w w' := by
  have HB := Aside0.mk (Below.refl w.heap.size w)
  have HR : Hid (nameF s = false) := Lib.hid (by rw [nameF_cons h, hl, decide_eq_true h24]; rfl)
  have he : s.toList.isEmpty = false := by
    rw [Lib.toList_data, drop0 h]; rfl
  have he2 : s.toList ≠ [] := by
    rw [Lib.toList_data, drop0 h]; exact fun g => by cases g
  have z1 : decide ((s.size : Int) ≤ 24) = true := decide_eq_true (by omega)
  have z2 : decide (s.size ≤ 24) = true := decide_eq_true h24
  obtain ⟨c, hc⟩ : ∃ c, c = s[0]'h := ⟨_, rfl⟩
  have hcs : s[0]'h = c := hc.symm
  have hlc := fun W => let_calls c W
  rw [show letC c = false from by rw [hc]; exact hl] at hlc
  clear hl hc h24
  go_enter Tryd.func82, Tryd.ntmps82
  go_wp2_with fail
  ((with_reducible refine (hlc _).mono ?_); rintro e_ W_ ⟨rfl, ⟨n_, hN_⟩⟩)
  have m_ := Aside0.mk (show Below w.heap.size w W_ from by rw [hN_]; exact pw_below_drewN HB.out n_); clear HB; have HB := m_; clear m_ hN_
  clear hlc
  go_wp2
  go_ret
  exact ⟨ret_bool HR.out.symm, HB.out⟩
set_option maxHeartbeats 4000000 in
set_option maxRecDepth 100000 in
theorem Name_part (s : ByteArray) (w : World) (hs : s.size ≤ 9223372036854775807) (h : 0 < s.size) (h24 : s.size ≤ 24) (hl : letC (s[0]'h) = true) (hne : lenW nameC s.data.toList ≠ s.size) : Calls Tryd.prog 82 #[.string s] w fun e w' => e = .returned (.bool (nameF s)) ∧ Below w.heap.size w w' := by
  have HB := Aside0.mk (Below.refl w.heap.size w)
  have HR : Hid (nameF s = false) := Lib.hid (by rw [nameF_cons h, hl, decide_eq_true h24, decide_eq_false hne]; rfl)
  have he : s.toList.isEmpty = false := by
    rw [Lib.toList_data, drop0 h]; rfl
  have he2 : s.toList ≠ [] := by
    rw [Lib.toList_data, drop0 h]; exact fun g => by cases g
  have z1 : decide ((s.size : Int) ≤ 24) = true := decide_eq_true (by omega)
  have z2 : decide (s.size ≤ 24) = true := decide_eq_true h24
  obtain ⟨c, hc⟩ : ∃ c, c = s[0]'h := ⟨_, rfl⟩
  have hcs : s[0]'h = c := hc.symm
  have hlc := fun W => let_calls c W
  have hr := fun W => run_name s W hs
  obtain ⟨n, hn⟩ : ∃ n, n = lenW nameC s.data.toList := ⟨_, rfl⟩
  rw [← hn] at hr
  rw [show letC c = true from by rw [hc]; exact hl] at hlc
  rw [← hn] at hne
  have z3 : ((n : Int) == (s.size : Int)) = false := by rw [beq_eq_false_iff_ne]; omega
  clear hl hc h24 hn hne
  go_enter Tryd.func82, Tryd.ntmps82
  go_wp2_with fail
  ((with_reducible refine (hlc _).mono ?_); rintro e_ W_ ⟨rfl, ⟨n_, hN_⟩⟩)
  have m_ := Aside0.mk (show Below w.heap.size w W_ from by rw [hN_]; exact pw_below_drewN HB.out n_); clear HB; have HB := m_; clear m_ hN_
  clear hlc
  go_wp2_with fail
  ((with_reducible refine (hr _).mono ?_); rintro e_ W_ ⟨rfl, ⟨n_, hN_⟩⟩)
  have m_ := Aside0.mk (show Below w.heap.size w W_ from by rw [hN_]; exact pw_below_drewN HB.out n_); clear HB; have HB := m_; clear m_ hN_
  clear hr
  go_wp2
  go_ret
  exact ⟨ret_bool HR.out.symm, HB.out⟩
set_option maxHeartbeats 4000000 in
set_option maxRecDepth 100000 in
theorem Name_word (s : ByteArray) (w : World) (hs : s.size ≤ 9223372036854775807) (h : 0 < s.size) (h24 : s.size ≤ 24) (hl : letC (s[0]'h) = true) (hne : lenW nameC s.data.toList = s.size) : Calls Tryd.prog 82 #[.string s] w fun e w' => e = .returned (.bool (nameF s)) ∧ Below w.heap.size w w' := by
  have HB := Aside0.mk (Below.refl w.heap.size w)
  have HR : Hid (nameF s = !wordL s.data.toList) := Lib.hid (by rw [nameF_cons h, hl, decide_eq_true h24, decide_eq_true hne]; simp)
  have he : s.toList.isEmpty = false := by
    rw [Lib.toList_data, drop0 h]; rfl
  have he2 : s.toList ≠ [] := by
    rw [Lib.toList_data, drop0 h]; exact fun g => by cases g
  have z1 : decide ((s.size : Int) ≤ 24) = true := decide_eq_true (by omega)
  have z2 : decide (s.size ≤ 24) = true := decide_eq_true h24
  obtain ⟨c, hc⟩ : ∃ c, c = s[0]'h := ⟨_, rfl⟩
  have hcs : s[0]'h = c := hc.symm
  have hlc := fun W => let_calls c W
  have hr := fun W => run_name s W hs
  obtain ⟨n, hn⟩ : ∃ n, n = lenW nameC s.data.toList := ⟨_, rfl⟩
  rw [← hn] at hr
  rw [show letC c = true from by rw [hc]; exact hl] at hlc
  rw [← hn] at hne
  have z3 : ((n : Int) == (s.size : Int)) = true := by rw [beq_iff_eq]; omega
  have hwd := fun W => Word_calls s W
  rw [Lib.toList_data] at hwd
  clear hl hc h24 hn hne
  cases hb : wordL s.data.toList with
  | true =>
    rw [hb] at hwd
    have HR2 := HR.out
    rw [hb] at HR2
    have HR := Lib.hid HR2
    clear hb HR2
    go_enter Tryd.func82, Tryd.ntmps82
    go_wp2_with fail
    ((with_reducible refine (hlc _).mono ?_); rintro e_ W_ ⟨rfl, ⟨n_, hN_⟩⟩)
    have m_ := Aside0.mk (show Below w.heap.size w W_ from by rw [hN_]; exact pw_below_drewN HB.out n_); clear HB; have HB := m_; clear m_ hN_
    clear hlc
    go_wp2_with fail
    ((with_reducible refine (hr _).mono ?_); rintro e_ W_ ⟨rfl, ⟨n_, hN_⟩⟩)
    have m_ := Aside0.mk (show Below w.heap.size w W_ from by rw [hN_]; exact pw_below_drewN HB.out n_); clear HB; have HB := m_; clear m_ hN_
    clear hr
    go_wp2_with fail
    ((with_reducible refine (hwd _).mono ?_); rintro e_ W_ ⟨rfl, ⟨n_, hN_⟩⟩)
    have m_ := Aside0.mk (show Below w.heap.size w W_ from by rw [hN_]; exact pw_below_drewN HB.out n_); clear HB; have HB := m_; clear m_ hN_
    clear hwd
    go_wp2
    go_ret
    exact ⟨ret_bool HR.out.symm, HB.out⟩
  | false =>
    rw [hb] at hwd
    have HR2 := HR.out
    rw [hb] at HR2
    have HR := Lib.hid HR2
    clear hb HR2
    go_enter Tryd.func82, Tryd.ntmps82
    go_wp2_with fail
    ((with_reducible refine (hlc _).mono ?_); rintro e_ W_ ⟨rfl, ⟨n_, hN_⟩⟩)
    have m_ := Aside0.mk (show Below w.heap.size w W_ from by rw [hN_]; exact pw_below_drewN HB.out n_); clear HB; have HB := m_; clear m_ hN_
    clear hlc
    go_wp2_with fail
    ((with_reducible refine (hr _).mono ?_); rintro e_ W_ ⟨rfl, ⟨n_, hN_⟩⟩)
    have m_ := Aside0.mk (show Below w.heap.size w W_ from by rw [hN_]; exact pw_below_drewN HB.out n_); clear HB; have HB := m_; clear m_ hN_
    clear hr
    go_wp2_with fail
    ((with_reducible refine (hwd _).mono ?_); rintro e_ W_ ⟨rfl, ⟨n_, hN_⟩⟩)
    have m_ := Aside0.mk (show Below w.heap.size w W_ from by rw [hN_]; exact pw_below_drewN HB.out n_); clear HB; have HB := m_; clear m_ hN_
    clear hwd
    go_wp2
    go_ret
    exact ⟨ret_bool HR.out.symm, HB.out⟩
theorem Name_calls (s : ByteArray) (w : World) (hs : s.size ≤ 9223372036854775807) : Calls Tryd.prog 82 #[.string s] w fun e w' => e = .returned (.bool (nameF s)) ∧ Below w.heap.size w w' := by
  rcases Nat.eq_zero_or_pos s.size with h | h
  · exact Name_nil s w hs h
  · by_cases h24 : 24 < s.size
    · exact Name_long s w hs h h24
    · have h24' : s.size ≤ 24 := by omega
      cases hl : letC (s[0]'h) with
      | false => exact Name_sign s w hs h h24' hl
      | true =>
        by_cases hne : lenW nameC s.data.toList = s.size
        · exact Name_word s w hs h h24' hl hne
        · exact Name_part s w hs h h24' hl hne
namespace PIm
def token_Name.f (a0 : ByteArray) : Option Bool := if a0.size ≤ 9223372036854775807 then some (nameF a0) else none
end PIm
namespace PIm
theorem token_Name.calls (a0 : ByteArray) (r : Bool) (w : World) (h : token_Name.f a0 = some r) : Calls Tryd.prog 82 #[.string a0] w fun e w' => e = .returned (.bool r) ∧ Below w.heap.size w w' := by
  unfold token_Name.f at h
  by_cases hs : a0.size ≤ 9223372036854775807
  · rw [if_pos hs] at h
    obtain rfl := Option.some.inj h
    exact Name_calls a0 w hs
  · rw [if_neg hs] at h; cases h
end PIm
end Go.Proofs.YteidgpaakoeefaaDoor
namespace Go.Proofs.YteidgpaakoeefaaDoor.PIm
open Go.RowKit Go.Proofs.YteidgpaakoeefaaDoorW.PrintWords Go.Proofs.YteidgpaakoeefaaDoorW.PrintLast Go.Proofs.YteidgpaakoeefaaDoorW.PrintMore
attribute [local go_sem] max2_int min2_int max_two min_two max_three min_three max_four min_four   -- for this text's walks alone
set_option linter.unusedVariables false
set_option linter.unusedSimpArgs false
def image_types.f (l0 : List Int) : Option (Bool) := (slices_ContainsFunc_int_int.f l0 103).bind fun t145 => (some (!t145))
set_option maxHeartbeats 8000000 in
set_option maxRecDepth 100000 in
theorem image_types.calls (A0 : Option Addr) (c0 : Nat) (l0 : List Int) (r : Bool) (w : World) (hr0 : Kd.C (Kd.int .i64) w A0 l0.length l0) (hc0 : l0.length ≤ c0) (h : image_types.f l0 = some r) :
    Calls Tryd.prog 83 #[.slice A0 l0.length c0] w fun e w' => e = .returned (.bool r) ∧ Below w.heap.size w w' := by
  have HR0 := Aside0.mk hr0
  have HC0 := Aside0.mk hc0
  clear hr0 hc0
  have HB := Aside0.mk (Below.refl w.heap.size w)
  have H : ((slices_ContainsFunc_int_int.f l0 103).bind fun t145 => (some (!t145))) = some r := h
  clear h
  replace H := Option.bind_eq_some_iff.mp H
  obtain ⟨t145, A20, H⟩ := H
  replace H : (some (!t145)) = some r := H
  have A2 := Aside0.mk A20
  clear A20
  obtain rfl := Option.some.inj H
  go_enter Tryd.func83, Tryd.ntmps83
  go_wp2_with (first | ((with_reducible refine gate_callee (f := 102) rfl ?_); refine goesL_ (some 4) rfl rfl Tryd.func102 (by kernel_rfl) rfl #[.slice A0 l0.length c0, .func (.func 103) #[] #[]] rfl (by (try simp only [List.map_toArray, List.map_cons, List.map_nil]); first | done | rfl | (simp only [List.length_drop, List.length_take]; rfl)) ?_; (with_reducible refine (slices_ContainsFunc_int_int.calls _ _ l0 103 t145 _ ?side1 ?side2 A2.out).mono ?_); (case side1 => repeat (first | exact HR0.out | (with_reducible refine Kd.C_alloc ?_ _) | (with_reducible refine Kd.C_drewN ?_ _) | (with_reducible refine Kd.C_drew ?_))); (case side2 => exact HC0.out); rintro e w3 ⟨rfl, hb⟩; refine ⟨_, rfl, ?_⟩; have n0_ := Aside0.mk (below_step (by repeat (first | (with_reducible first | exact HB.out | apply below_alloc | apply pw_below_drewN | apply below_drew1) | exact HB.out)) hb); clear HB; have HB := n0_; clear n0_; (try clear hb); (try clear hb2); (try clear hk); (try clear hi)))
  go_ret
  exact ⟨by first | rfl | (simp [errW_none, errW_some] <;> rfl) | (simp [*, errW_none, errW_some] <;> rfl), by repeat (first | (with_reducible first | exact HB.out | apply below_alloc | apply pw_below_drewN | apply below_drew1) | exact HB.out)⟩
end Go.Proofs.YteidgpaakoeefaaDoor.PIm
namespace Go.Proofs.YteidgpaakoeefaaDoor
open Go.RowKit Go.Proofs.YteidgpaakoeefaaDoorW.PrintWords Go.Proofs.YteidgpaakoeefaaDoorW.PrintLast Go.Proofs.YteidgpaakoeefaaDoorW.PrintMore
set_option linter.unusedVariables false
set_option linter.unusedSimpArgs false
open PIm
theorem iequal_l0 (x y : List Int) (hl : x.length = y.length) (hm : x.length ≤ 9223372036854775806) : ∀ (k i : Nat), i ≤ x.length → x.length < k + i → slices_Equal_int_int.l0 k x y (x.length : Int) (i : Int) = some (decide (x.drop i = y.drop i))
  | 0, i, h, hk => by omega
  | k + 1, i, h, hk => by
    unfold slices_Equal_int_int.l0
    by_cases hi : i < x.length
    · have hi2 : i < y.length := by omega
      rw [if_pos (by omega), if_pos (by omega), if_pos (by omega), if_pos (by omega), rd_get' hi, rd_get' hi2, show x.drop i = x[i] :: x.drop (i + 1) from List.drop_eq_getElem_cons hi, show y.drop i = y[i] :: y.drop (i + 1) from List.drop_eq_getElem_cons hi2]
      by_cases he : x[i] = y[i]
      · rw [if_pos he, show wrap64 ((i : Int) + 1) = ((i + 1 : Nat) : Int) by simp only [wrap64]; omega, iequal_l0 x y hl hm k (i + 1) (by omega) (by omega)]
        refine congrArg some (decide_eq_decide.2 ⟨fun h => by rw [he, h], fun h => by injection h⟩)
      · rw [if_neg he]
        refine congrArg some (decide_eq_false fun h => he ?_).symm
        injection h
    · rw [if_neg (by omega), List.drop_of_length_le (by omega), List.drop_of_length_le (by omega)]
      simp
theorem iequal_law (x y : List Int) (k : Nat) (hk : x.length < k) (hm : x.length ≤ 9223372036854775806) : slices_Equal_int_int.f k x y = some (decide (x = y)) := by
  unfold slices_Equal_int_int.f
  by_cases hl : x.length = y.length
  · rw [if_pos (by omega)]
    have := iequal_l0 x y hl hm k 0 (by omega) (by omega)
    simpa using this
  · rw [if_neg (by omega)]
    have : x ≠ y := fun e => hl (by rw [e])
    simp [this]
def fnB (f : S54) : Bool := nameF f.f0 && (decide (f.f1.length ≤ 8) && (decide (f.f3.length ≤ 32) && (decide (f.f4.length ≤ 32768) && (f.f3.all typB && ((decide (f.f2 = 0) || typB f.f2) && (decide (f.f1.length ≤ f.f3.length) && (decide (f.f1 = f.f3.take f.f1.length) && !(f.f4.any insBad))))))))
def fnIn (f : S54) : Prop := f.f0.size ≤ 9223372036854775807 ∧ f.f1.length ≤ 140737488355318 ∧ f.f3.length ≤ 140737488355318 ∧ f.f4.length ≤ 140737488355318
instance (f : S54) : Decidable (fnIn f) := by unfold fnIn; infer_instance
theorem types_f (l : List Int) (h : l.length ≤ 140737488355318) : image_types.f l = some (l.all typB) := by
  unfold image_types.f slices_ContainsFunc_int_int.f
  rw [if_pos h, Option.bind_some]
  refine congrArg some ?_
  rw [List.all_eq_not_any_not]
end Go.Proofs.YteidgpaakoeefaaDoor
