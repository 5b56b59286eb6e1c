/- Taken together by a program of mine: what the proof names, out of the texts of this seat (its words as the print wrote them), part 5. -/
import Derived.Test.YteidgpaakoeefaaDoorR4
namespace Go.Proofs.YteidgpaakoeefaaDoor
open Go.RowKit Go.Proofs.YteidgpaakoeefaaDoorW.PrintWords Go.Proofs.YteidgpaakoeefaaDoorW.PrintLast Go.Proofs.YteidgpaakoeefaaDoorW.PrintMore
set_option linter.unusedVariables false
set_option linter.unusedSimpArgs false
open PIm
def rdAll (b : List Int) : Option ((List S48 × List S54) × Int) := (rdRows (rdG b) 64 b 4).bind fun g => (rdRows (rdF b) 64 b g.2).bind fun f => some ((g.1, f.1), f.2)
def badI : List S48 × List S54 × Int := ([], [], 150)
def decF (l : List Int) : List S48 × List S54 × Int :=
  if 1048576 < l.length then ([], [], 2)
  else if (opF l).2 = false ∨ (opF l).1.length < 4 ∨ (opF l).1.take 4 ≠ [84, 73, 76, 84] then badI
  else match rdAll (opF l).1 with
    | none => badI
    | some (r, j) => if j = ((opF l).1.length : Int) ∧ okF r.1 r.2 = true then (r.1, r.2, 0) else badI
theorem opF_sub (l : List Int) : ∀ x ∈ (opF l).1, x ∈ l := by
  unfold opF
  intro x hx
  split at hx
  · cases hx
  · split at hx
    · exact List.mem_of_mem_take hx
    · cases hx
theorem opF_len (l : List Int) : (opF l).1.length ≤ l.length := by
  unfold opF
  split
  · exact Nat.zero_le _
  · split
    · simp only [List.length_take]; omega
    · exact Nat.zero_le _
theorem rdF_in {l : List Int} {i j : Int} {x : S54} (hb : ∀ x ∈ l, 0 ≤ x ∧ x < 256) (h : rdF l i = some (x, j)) : fnIn x := by
  unfold rdF at h
  rcases h1 : rdT l i with _ | ⟨a, i1⟩
  · rw [h1] at h; cases h
  rw [h1, Option.bind_some] at h
  rcases h2 : rdRows (rdN l) 8 l i1 with _ | ⟨b, i2⟩
  · rw [h2] at h; cases h
  rw [h2, Option.bind_some] at h
  rcases h3 : rdN l i2 with _ | ⟨n, i3⟩
  · rw [h3] at h; cases h
  rw [h3, Option.bind_some] at h
  rcases h4 : rdRows (rdN l) 32 l i3 with _ | ⟨m, i4⟩
  · rw [h4] at h; cases h
  rw [h4, Option.bind_some] at h
  rcases h5 : rdRows (rdC l) 32768 l i4 with _ | ⟨d, i5⟩
  · rw [h5] at h; cases h
  rw [h5, Option.bind_some] at h
  injection h with h; injection h with h _
  rw [← h]
  have e2 := rdRows_len hb h2
  have e4 := rdRows_len hb h4
  have e5 := rdRows_len hb h5
  have e1 : a.size ≤ 65536 := by
    have hr := tk_range l i 9 (by decide) (by decide) hb
    unfold rdT rtF at h1
    generalize tk l i 9 = t at h1 hr
    obtain ⟨z, p, e⟩ := t
    simp only [] at h1 hr
    by_cases q1 : e ≠ 0
    · rw [if_pos q1, if_neg q1] at h1; cases h1
    rw [if_neg q1] at h1
    by_cases q2 : 65536 < z
    · rw [if_pos q2, if_neg (by decide)] at h1; cases h1
    rw [if_neg q2] at h1
    by_cases q3 : (l.length : Int) - p < z
    · rw [if_pos q3, if_neg (by decide)] at h1; cases h1
    rw [if_neg q3, if_pos rfl] at h1
    injection h1 with h1; injection h1 with h1 _
    have h6 : strOfNums ((l.take (p + z).toNat).drop p.toNat) = a := h1
    rw [← h6, strOfNums_size]
    simp only [List.length_drop, List.length_take]
    omega
  exact ⟨by show a.size ≤ _; omega, by show b.length ≤ _; omega, by show (b ++ m).length ≤ _; rw [List.length_append]; omega, by show d.length ≤ _; omega⟩
theorem rdRow_all {α : Type} {one : Int → Option (α × Int)} {P : α → Prop} (ho : ∀ i x j, one i = some (x, j) → P x) : ∀ (n : Nat) (i : Int) (r : List α) (j : Int), rdRow one n i = some (r, j) → ∀ x ∈ r, P x
  | 0, i, r, j, h => by unfold rdRow at h; injection h with h; injection h with h _; rw [← h]; intro x hx; cases hx
  | n + 1, i, r, j, h => by
    unfold rdRow at h
    rcases h1 : one i with _ | ⟨a, i1⟩
    · rw [h1] at h; cases h
    rw [h1, Option.bind_some] at h
    rcases h2 : rdRow one n i1 with _ | ⟨b, i2⟩
    · rw [h2] at h; cases h
    rw [h2, Option.bind_some] at h
    injection h with h; injection h with h _
    rw [← h]
    intro x hx
    rcases List.mem_cons.1 hx with rfl | hx
    · exact ho _ _ _ h1
    · exact rdRow_all ho n i1 b i2 h2 x hx
theorem rdRows_all {α : Type} {one : Int → Option (α × Int)} {P : α → Prop} (ho : ∀ i x j, one i = some (x, j) → P x) {most : Int} {l : List Int} {i : Int} {r : List α} {j : Int} (h : rdRows one most l i = some (r, j)) : ∀ x ∈ r, P x := by
  unfold rdRows at h
  rcases h1 : rdN l i with _ | ⟨a, i1⟩
  · rw [h1] at h; cases h
  rw [h1, Option.bind_some] at h
  split at h
  · cases h
  · exact rdRow_all ho _ _ _ _ h
theorem tilt_list : (strOfNums [84, 73, 76, 84]).toList = [84, 73, 76, 84] := by kernel_rfl
theorem dec_results (tmps : Array Value) (px pe : Nat) (a b : Value) (y : Int) (W : World) (hp : tmps.getD 2 undef = .pointer (some ⟨px, 0, none⟩)) (hq : tmps.getD 3 undef = .pointer (some ⟨pe, 0, none⟩))
    (hx : W.heap[px]? = some (.cells #[a, b] 25 (0, 0))) (he : W.heap[pe]? = some (.cells #[.int .i64 y] 28 (0, 0))) :
    (results Tryd.f17 tmps).run Tryd.prog W = .ok (.tuple #[.agg #[a, b], .int .i64 y]) W := by
  have hc : W.cell? ⟨pe, 0, none⟩ = some (.int .i64 y) := (blk_cell he 0).trans rfl
  have h1 := run_loadVar_row (P := Tryd.prog) W px 25 25 #[a, b] (0, 0) _ hx Tryd.underlying25 rfl (by kernel_rfl)
  have h2 : (loadVar 28 ⟨pe, 0, none⟩).run Tryd.prog W = .ok (.int .i64 y) W := by
    simp [go_sem, hc]
  have hp' : tmps[2]?.getD undef = .pointer (some ⟨px, 0, none⟩) := by simpa using hp
  have hq' : tmps[3]?.getD undef = .pointer (some ⟨pe, 0, none⟩) := by simpa using hq
  unfold results
  rw [Tryd.results17]
  simp [hp', hq', asAddr, h1, h2]
theorem dec_leave {fn : Func} {tmps : Array Value} {R : Ending → World → Prop} {w : World} {v : Value} (hr : (results fn tmps).run Tryd.prog w = .ok v w) (hR : R (.returned v) w) : Leaves Tryd.prog fn tmps R [] .returning w := by
  unfold Leaves
  exact ⟨v, hr, hR⟩
theorem dec_post {fn : Func} {a : Act} {R : Ending → World → Prop} {w : World} {v : Value} (hd : a.defers = []) (hr : (results fn a.tmps).run Tryd.prog w = .ok v w) (hR : R (.returned v) w) : bodyPostD Tryd.prog fn R .ret a w := by
  show Leaves Tryd.prog fn a.tmps R a.defers .returning w
  rw [hd]
  exact dec_leave hr hR
set_option maxHeartbeats 8000000 in
set_option maxRecDepth 100000 in
theorem Decode_calls (A0 : Option Addr) (c0 : Nat) (l : List Int) (w : World) (hr0 : Kd.C (Kd.int .u8) w A0 l.length l) (hc0 : l.length ≤ c0) (hl : l.length ≤ 140737488355318) (hbt : ∀ x ∈ l, 0 ≤ x ∧ x < 256) (hT : Tab w) :
    Calls Tryd.prog 17 #[.slice A0 l.length c0] w
      fun e w' => ∃ v0 v1, e = .returned (.tuple #[.agg #[v0, v1], .int .i64 (decF l).2.2]) ∧ Kd.R k48 48 w' w.heap.size (fun _ => True) v0 (decF l).1 ∧ Kd.S k54 54 w' w.heap.size (fun _ => True) v1 (decF l).2.1 ∧ Below w.heap.size w w' := by
  have HB := Aside0.mk (Below.refl w.heap.size w)
  obtain ⟨R, hR⟩ : ∃ R, R = decF l := ⟨_, rfl⟩
  rw [← hR]
  obtain ⟨rest, is, hop⟩ : ∃ r b, opF l = (r, b) := ⟨_, _, rfl⟩
  have hrs : ∀ x ∈ rest, 0 ≤ x ∧ x < 256 := fun x hx => hbt x (opF_sub l x (by rw [hop]; exact hx))
  have hrl : rest.length ≤ l.length := by have := opF_len l; rw [hop] at this; exact this
  have hopen : wire_Open.f l = some (rest, is) := by unfold wire_Open.f; rw [if_pos hl, hop]
  unfold decF at hR
  rw [hop] at hR
  have HRR := Aside0.mk hR; have HR0 := Aside0.mk hr0; have HC0 := Aside0.mk hc0; have HL := Aside0.mk hl; have HRS := Aside0.mk hrs; have HRL := Aside0.mk hrl; have HT := Aside0.mk hT; have HOP := Aside0.mk hopen
  have hmf : ∀ (fn : Fn) (first cap : Array Value) (w : World), (Instr.makeFunc fn first cap).run Tryd.prog w = .ok (.func fn first cap) w := fun _ _ _ _ => rfl
  clear hR hr0 hc0 hl hbt hT hop hrs hrl hopen
  by_cases hbig : 1048576 < l.length
  · have d1 : decide ((1048576 : Int) < (l.length : Int)) = true := decide_eq_true (by omega)
    have HR2 : Aside0 (R = ([], [], 2)) := ⟨HRR.out.trans (if_pos hbig)⟩
    clear hbig HRR
    go_enter_defers Tryd.func17, Tryd.ntmps17
    go_wp2_with (first | ((with_reducible refine gate_dst (N := 2) rfl ?_); refine box_event ?hg (N := 2) ?hd (cs := #[.slice none 0 0, .slice none 0 0]) (t := 25) ?hr ?_; (case hd => rfl); (case hg => rfl); (case hr => first | (go_simp; done) | (go_simp; rfl)); intro px hg_ W1 hbox_ hb_; have GEpx := Aside0.mk ((by rw [hg_]; exact (below_size HB.out)) : w.heap.size ≤ px); clear hg_; have n_ := Aside0.mk (below_step HB.out hb_); clear HB; have HB := n_; clear n_; have BKpx := Aside0.mk hbox_; clear hbox_ hb_; have hcpx_0 : W1.cell? ⟨px, 0, none⟩ = some (.slice none 0 0) := (blk_cell BKpx.out 0).trans rfl; have hfpx_0 := blk_frozen BKpx.out 0; have hcpx_1 : W1.cell? ⟨px, 1, none⟩ = some (.slice none 0 0) := (blk_cell BKpx.out 1).trans rfl; have hfpx_1 := blk_frozen BKpx.out 1) | ((with_reducible refine gate_dst (N := 3) rfl ?_); refine box_event ?hg (N := 3) ?hd (cs := #[.int .i64 0]) (t := 28) ?hr ?_; (case hd => rfl); (case hg => rfl); (case hr => first | (go_simp; done) | (go_simp; rfl)); intro pe hg_ W2 hbox_ hb_; have GEpe := Aside0.mk ((by rw [hg_]; exact (below_size HB.out)) : w.heap.size ≤ pe); have NBpx_pe : px ≠ pe := (by rw [hg_]; exact Nat.ne_of_lt (blk_lt BKpx.out)); have NBpe_px : pe ≠ px := Ne.symm NBpx_pe; clear hg_; have n_ := Aside0.mk (blk_below BKpx.out hb_); clear BKpx; have BKpx := n_; clear n_; clear hcpx_0 hfpx_0; clear hcpx_1 hfpx_1; have n_ := Aside0.mk (below_step HB.out hb_); clear HB; have HB := n_; clear n_; have BKpe := Aside0.mk hbox_; clear hbox_ hb_; have hcpx_0 : W2.cell? ⟨px, 0, none⟩ = some (.slice none 0 0) := (blk_cell BKpx.out 0).trans rfl; have hfpx_0 := blk_frozen BKpx.out 0; have hcpx_1 : W2.cell? ⟨px, 1, none⟩ = some (.slice none 0 0) := (blk_cell BKpx.out 1).trans rfl; have hfpx_1 := blk_frozen BKpx.out 1; have hcpe_0 : W2.cell? ⟨pe, 0, none⟩ = some (.int .i64 0) := (blk_cell BKpe.out 0).trans rfl; have hfpe_0 := blk_frozen BKpe.out 0))
    have n_ : Aside0 (((W2.setCell ⟨px, 0, none⟩ (.slice none 0 0)).setCell ⟨px, 1, none⟩ (.slice none 0 0)).heap[px]? = some (.cells #[.slice none 0 0, .slice none 0 0] 25 (0, 0))) := ⟨by refine blk_put (cs := #[.slice none 0 0, .slice none 0 0]) ?_ 1 _ rfl; refine blk_put (cs := #[.slice none 0 0, .slice none 0 0]) ?_ 0 _ rfl; exact BKpx.out⟩
    have m_ : Aside0 (((W2.setCell ⟨px, 0, none⟩ (.slice none 0 0)).setCell ⟨px, 1, none⟩ (.slice none 0 0)).heap[pe]? = some (.cells #[.int .i64 0] 28 (0, 0))) := ⟨(blk_far (blk_far BKpe.out NBpe_px _) NBpe_px _)⟩
    clear BKpe; have BKpe := m_; clear m_
    have b_ : Aside0 (Below w.heap.size w ((W2.setCell ⟨px, 0, none⟩ (.slice none 0 0)).setCell ⟨px, 1, none⟩ (.slice none 0 0))) := ⟨(below_set (below_set HB.out GEpx.out) GEpx.out)⟩
    clear BKpx HB; have BKpx := n_; have HB := b_; clear n_ b_
    clear hcpx_0 hfpx_0
    clear hcpx_1 hfpx_1
    clear hcpe_0 hfpe_0
    generalize ((W2.setCell ⟨px, 0, none⟩ (.slice none 0 0)).setCell ⟨px, 1, none⟩ (.slice none 0 0)) = W3 at *
    have hcpx_0 : W3.cell? ⟨px, 0, none⟩ = some (.slice none 0 0) := (blk_cell BKpx.out 0).trans rfl
    have hfpx_0 := blk_frozen BKpx.out 0
    have hcpx_1 : W3.cell? ⟨px, 1, none⟩ = some (.slice none 0 0) := (blk_cell BKpx.out 1).trans rfl
    have hfpx_1 := blk_frozen BKpx.out 1
    have hcpe_0 : W3.cell? ⟨pe, 0, none⟩ = some (.int .i64 0) := (blk_cell BKpe.out 0).trans rfl
    have hfpe_0 := blk_frozen BKpe.out 0
    have n_ : Aside0 ((W3.setCell ⟨pe, 0, none⟩ (.int .i64 2)).heap[pe]? = some (.cells #[.int .i64 2] 28 (0, 0))) := ⟨by refine blk_put (cs := #[.int .i64 0]) ?_ 0 _ rfl; exact BKpe.out⟩
    have m_ : Aside0 ((W3.setCell ⟨pe, 0, none⟩ (.int .i64 2)).heap[px]? = some (.cells #[.slice none 0 0, .slice none 0 0] 25 (0, 0))) := ⟨(blk_far BKpx.out NBpx_pe _)⟩
    clear BKpx; have BKpx := m_; clear m_
    have b_ : Aside0 (Below w.heap.size w (W3.setCell ⟨pe, 0, none⟩ (.int .i64 2))) := ⟨(below_set HB.out GEpe.out)⟩
    clear BKpe HB; have BKpe := n_; have HB := b_; clear n_ b_
    clear hcpx_0 hfpx_0
    clear hcpx_1 hfpx_1
    clear hcpe_0 hfpe_0
    generalize (W3.setCell ⟨pe, 0, none⟩ (.int .i64 2)) = W4 at *
    have hcpx_0 : W4.cell? ⟨px, 0, none⟩ = some (.slice none 0 0) := (blk_cell BKpx.out 0).trans rfl
    have hfpx_0 := blk_frozen BKpx.out 0
    have hcpx_1 : W4.cell? ⟨px, 1, none⟩ = some (.slice none 0 0) := (blk_cell BKpx.out 1).trans rfl
    have hfpx_1 := blk_frozen BKpx.out 1
    have hcpe_0 : W4.cell? ⟨pe, 0, none⟩ = some (.int .i64 2) := (blk_cell BKpe.out 0).trans rfl
    have hfpe_0 := blk_frozen BKpe.out 0
    refine dec_post rfl (dec_results _ px pe _ _ _ _ rfl rfl BKpx.out BKpe.out) ?_
    exact ⟨.slice none 0 0, .slice none 0 0, by rw [HR2.out] <;> rfl, by rw [HR2.out]; exact Kd.R_nil _ _ _ _ _, by rw [HR2.out]; exact Kd.S_nil _ _ _ _ _, HB.out⟩
  have d1 : decide ((1048576 : Int) < (l.length : Int)) = false := decide_eq_false (by omega)
  have HR2 := Aside0.mk (HRR.out.trans (if_neg hbig)); have HBG := Aside0.mk hbig
  clear hbig HRR
  go_enter_defers Tryd.func17, Tryd.ntmps17
  go_wp2_with (first | ((with_reducible refine gate_dst (N := 2) rfl ?_); refine box_event ?hg (N := 2) ?hd (cs := #[.slice none 0 0, .slice none 0 0]) (t := 25) ?hr ?_; (case hd => rfl); (case hg => rfl); (case hr => first | (go_simp; done) | (go_simp; rfl)); intro px hg_ W1 hbox_ hb_; have GEpx := Aside0.mk ((by rw [hg_]; exact (below_size HB.out)) : w.heap.size ≤ px); clear hg_; have n_ := Aside0.mk (below_step HB.out hb_); clear HB; have HB := n_; clear n_; have BKpx := Aside0.mk hbox_; clear hbox_ hb_; have hcpx_0 : W1.cell? ⟨px, 0, none⟩ = some (.slice none 0 0) := (blk_cell BKpx.out 0).trans rfl; have hfpx_0 := blk_frozen BKpx.out 0; have hcpx_1 : W1.cell? ⟨px, 1, none⟩ = some (.slice none 0 0) := (blk_cell BKpx.out 1).trans rfl; have hfpx_1 := blk_frozen BKpx.out 1) | ((with_reducible refine gate_dst (N := 3) rfl ?_); refine box_event ?hg (N := 3) ?hd (cs := #[.int .i64 0]) (t := 28) ?hr ?_; (case hd => rfl); (case hg => rfl); (case hr => first | (go_simp; done) | (go_simp; rfl)); intro pe hg_ W2 hbox_ hb_; have GEpe := Aside0.mk ((by rw [hg_]; exact (below_size HB.out)) : w.heap.size ≤ pe); have NBpx_pe : px ≠ pe := (by rw [hg_]; exact Nat.ne_of_lt (blk_lt BKpx.out)); have NBpe_px : pe ≠ px := Ne.symm NBpx_pe; clear hg_; have n_ := Aside0.mk (blk_below BKpx.out hb_); clear BKpx; have BKpx := n_; clear n_; clear hcpx_0 hfpx_0; clear hcpx_1 hfpx_1; have n_ := Aside0.mk (below_step HB.out hb_); clear HB; have HB := n_; clear n_; have BKpe := Aside0.mk hbox_; clear hbox_ hb_; have hcpx_0 : W2.cell? ⟨px, 0, none⟩ = some (.slice none 0 0) := (blk_cell BKpx.out 0).trans rfl; have hfpx_0 := blk_frozen BKpx.out 0; have hcpx_1 : W2.cell? ⟨px, 1, none⟩ = some (.slice none 0 0) := (blk_cell BKpx.out 1).trans rfl; have hfpx_1 := blk_frozen BKpx.out 1; have hcpe_0 : W2.cell? ⟨pe, 0, none⟩ = some (.int .i64 0) := (blk_cell BKpe.out 0).trans rfl; have hfpe_0 := blk_frozen BKpe.out 0))
  ((with_reducible refine (wire_Open.calls A0 c0 l rest is _ (Kd.C_below HR0.out HB.out) HC0.out HOP.out (HT.out.below HB.out)).mono ?_); rintro e_ W3 ⟨v0, rfl, ho_, hb_⟩)
  have n_ := Aside0.mk (blk_below BKpx.out hb_); clear BKpx; have BKpx := n_; clear n_
  clear hcpx_0 hfpx_0
  clear hcpx_1 hfpx_1
  have n_ := Aside0.mk (blk_below BKpe.out hb_); clear BKpe; have BKpe := n_; clear n_
  clear hcpe_0 hfpe_0
  have n_ := Aside0.mk (below_step HB.out hb_); clear HB; have HB := n_; clear n_
  clear hb_
  have hcpx_0 : W3.cell? ⟨px, 0, none⟩ = some (.slice none 0 0) := (blk_cell BKpx.out 0).trans rfl
  have hfpx_0 := blk_frozen BKpx.out 0
  have hcpx_1 : W3.cell? ⟨px, 1, none⟩ = some (.slice none 0 0) := (blk_cell BKpx.out 1).trans rfl
  have hfpx_1 := blk_frozen BKpx.out 1
  have hcpe_0 : W3.cell? ⟨pe, 0, none⟩ = some (.int .i64 0) := (blk_cell BKpe.out 0).trans rfl
  have hfpe_0 := blk_frozen BKpe.out 0
  obtain ⟨Ar, cr, rfl, hcr_, hC_⟩ := Kd.R_reads ho_
  have HCR := Aside0.mk hcr_; have HO := Aside0.mk ho_; have HCC := Aside0.mk hC_
  clear ho_ hcr_ hC_
  cases is with
  | false =>
    have HR3 : Aside0 (R = badI) := ⟨HR2.out.trans (if_pos (.inl rfl))⟩
    clear HR2; have HR2 := HR3; clear HR3
    go_wp2
    have n_ : Aside0 (((W3.setCell ⟨px, 0, none⟩ (.slice none 0 0)).setCell ⟨px, 1, none⟩ (.slice none 0 0)).heap[px]? = some (.cells #[.slice none 0 0, .slice none 0 0] 25 (0, 0))) := ⟨by refine blk_put (cs := #[.slice none 0 0, .slice none 0 0]) ?_ 1 _ rfl; refine blk_put (cs := #[.slice none 0 0, .slice none 0 0]) ?_ 0 _ rfl; exact BKpx.out⟩
    have m_ : Aside0 (((W3.setCell ⟨px, 0, none⟩ (.slice none 0 0)).setCell ⟨px, 1, none⟩ (.slice none 0 0)).heap[pe]? = some (.cells #[.int .i64 0] 28 (0, 0))) := ⟨(blk_far (blk_far BKpe.out NBpe_px _) NBpe_px _)⟩
    clear BKpe; have BKpe := m_; clear m_
    have b_ : Aside0 (Below w.heap.size w ((W3.setCell ⟨px, 0, none⟩ (.slice none 0 0)).setCell ⟨px, 1, none⟩ (.slice none 0 0))) := ⟨(below_set (below_set HB.out GEpx.out) GEpx.out)⟩
    clear BKpx HB; have BKpx := n_; have HB := b_; clear n_ b_
    clear hcpx_0 hfpx_0
    clear hcpx_1 hfpx_1
    clear hcpe_0 hfpe_0
    generalize ((W3.setCell ⟨px, 0, none⟩ (.slice none 0 0)).setCell ⟨px, 1, none⟩ (.slice none 0 0)) = W4 at *
    have hcpx_0 : W4.cell? ⟨px, 0, none⟩ = some (.slice none 0 0) := (blk_cell BKpx.out 0).trans rfl
    have hfpx_0 := blk_frozen BKpx.out 0
    have hcpx_1 : W4.cell? ⟨px, 1, none⟩ = some (.slice none 0 0) := (blk_cell BKpx.out 1).trans rfl
    have hfpx_1 := blk_frozen BKpx.out 1
    have hcpe_0 : W4.cell? ⟨pe, 0, none⟩ = some (.int .i64 0) := (blk_cell BKpe.out 0).trans rfl
    have hfpe_0 := blk_frozen BKpe.out 0
    have n_ : Aside0 ((W4.setCell ⟨pe, 0, none⟩ (.int .i64 150)).heap[pe]? = some (.cells #[.int .i64 150] 28 (0, 0))) := ⟨by refine blk_put (cs := #[.int .i64 0]) ?_ 0 _ rfl; exact BKpe.out⟩
    have m_ : Aside0 ((W4.setCell ⟨pe, 0, none⟩ (.int .i64 150)).heap[px]? = some (.cells #[.slice none 0 0, .slice none 0 0] 25 (0, 0))) := ⟨(blk_far BKpx.out NBpx_pe _)⟩
    clear BKpx; have BKpx := m_; clear m_
    have b_ : Aside0 (Below w.heap.size w (W4.setCell ⟨pe, 0, none⟩ (.int .i64 150))) := ⟨(below_set HB.out GEpe.out)⟩
    clear BKpe HB; have BKpe := n_; have HB := b_; clear n_ b_
    clear hcpx_0 hfpx_0
    clear hcpx_1 hfpx_1
    clear hcpe_0 hfpe_0
    generalize (W4.setCell ⟨pe, 0, none⟩ (.int .i64 150)) = W5 at *
    have hcpx_0 : W5.cell? ⟨px, 0, none⟩ = some (.slice none 0 0) := (blk_cell BKpx.out 0).trans rfl
    have hfpx_0 := blk_frozen BKpx.out 0
    have hcpx_1 : W5.cell? ⟨px, 1, none⟩ = some (.slice none 0 0) := (blk_cell BKpx.out 1).trans rfl
    have hfpx_1 := blk_frozen BKpx.out 1
    have hcpe_0 : W5.cell? ⟨pe, 0, none⟩ = some (.int .i64 150) := (blk_cell BKpe.out 0).trans rfl
    have hfpe_0 := blk_frozen BKpe.out 0
    refine dec_post rfl (dec_results _ px pe _ _ _ _ rfl rfl BKpx.out BKpe.out) ?_
    exact ⟨.slice none 0 0, .slice none 0 0, by rw [HR2.out] <;> rfl, by rw [HR2.out]; exact Kd.R_nil _ _ _ _ _, by rw [HR2.out]; exact Kd.S_nil _ _ _ _ _, HB.out⟩
  | true =>
    by_cases h4 : rest.length < 4
    · have d4 : decide ((rest.length : Int) < 4) = true := decide_eq_true (by omega)
      have H4 := Aside0.mk h4; clear h4
      have HR3 : Aside0 (R = badI) := ⟨HR2.out.trans (if_pos (.inr (.inl H4.out)))⟩
      clear HR2; have HR2 := HR3; clear HR3
      go_wp2
      have n_ : Aside0 (((W3.setCell ⟨px, 0, none⟩ (.slice none 0 0)).setCell ⟨px, 1, none⟩ (.slice none 0 0)).heap[px]? = some (.cells #[.slice none 0 0, .slice none 0 0] 25 (0, 0))) := ⟨by refine blk_put (cs := #[.slice none 0 0, .slice none 0 0]) ?_ 1 _ rfl; refine blk_put (cs := #[.slice none 0 0, .slice none 0 0]) ?_ 0 _ rfl; exact BKpx.out⟩
      have m_ : Aside0 (((W3.setCell ⟨px, 0, none⟩ (.slice none 0 0)).setCell ⟨px, 1, none⟩ (.slice none 0 0)).heap[pe]? = some (.cells #[.int .i64 0] 28 (0, 0))) := ⟨(blk_far (blk_far BKpe.out NBpe_px _) NBpe_px _)⟩
      clear BKpe; have BKpe := m_; clear m_
      have b_ : Aside0 (Below w.heap.size w ((W3.setCell ⟨px, 0, none⟩ (.slice none 0 0)).setCell ⟨px, 1, none⟩ (.slice none 0 0))) := ⟨(below_set (below_set HB.out GEpx.out) GEpx.out)⟩
      clear BKpx HB; have BKpx := n_; have HB := b_; clear n_ b_
      clear hcpx_0 hfpx_0
      clear hcpx_1 hfpx_1
      clear hcpe_0 hfpe_0
      generalize ((W3.setCell ⟨px, 0, none⟩ (.slice none 0 0)).setCell ⟨px, 1, none⟩ (.slice none 0 0)) = W4 at *
      have hcpx_0 : W4.cell? ⟨px, 0, none⟩ = some (.slice none 0 0) := (blk_cell BKpx.out 0).trans rfl
      have hfpx_0 := blk_frozen BKpx.out 0
      have hcpx_1 : W4.cell? ⟨px, 1, none⟩ = some (.slice none 0 0) := (blk_cell BKpx.out 1).trans rfl
      have hfpx_1 := blk_frozen BKpx.out 1
      have hcpe_0 : W4.cell? ⟨pe, 0, none⟩ = some (.int .i64 0) := (blk_cell BKpe.out 0).trans rfl
      have hfpe_0 := blk_frozen BKpe.out 0
      have n_ : Aside0 ((W4.setCell ⟨pe, 0, none⟩ (.int .i64 150)).heap[pe]? = some (.cells #[.int .i64 150] 28 (0, 0))) := ⟨by refine blk_put (cs := #[.int .i64 0]) ?_ 0 _ rfl; exact BKpe.out⟩
      have m_ : Aside0 ((W4.setCell ⟨pe, 0, none⟩ (.int .i64 150)).heap[px]? = some (.cells #[.slice none 0 0, .slice none 0 0] 25 (0, 0))) := ⟨(blk_far BKpx.out NBpx_pe _)⟩
      clear BKpx; have BKpx := m_; clear m_
      have b_ : Aside0 (Below w.heap.size w (W4.setCell ⟨pe, 0, none⟩ (.int .i64 150))) := ⟨(below_set HB.out GEpe.out)⟩
      clear BKpe HB; have BKpe := n_; have HB := b_; clear n_ b_
      clear hcpx_0 hfpx_0
      clear hcpx_1 hfpx_1
      clear hcpe_0 hfpe_0
      generalize (W4.setCell ⟨pe, 0, none⟩ (.int .i64 150)) = W5 at *
      have hcpx_0 : W5.cell? ⟨px, 0, none⟩ = some (.slice none 0 0) := (blk_cell BKpx.out 0).trans rfl
      have hfpx_0 := blk_frozen BKpx.out 0
      have hcpx_1 : W5.cell? ⟨px, 1, none⟩ = some (.slice none 0 0) := (blk_cell BKpx.out 1).trans rfl
      have hfpx_1 := blk_frozen BKpx.out 1
      have hcpe_0 : W5.cell? ⟨pe, 0, none⟩ = some (.int .i64 150) := (blk_cell BKpe.out 0).trans rfl
      have hfpe_0 := blk_frozen BKpe.out 0
      refine dec_post rfl (dec_results _ px pe _ _ _ _ rfl rfl BKpx.out BKpe.out) ?_
      exact ⟨.slice none 0 0, .slice none 0 0, by rw [HR2.out] <;> rfl, by rw [HR2.out]; exact Kd.R_nil _ _ _ _ _, by rw [HR2.out]; exact Kd.S_nil _ _ _ _ _, HB.out⟩
    have d4 : decide ((rest.length : Int) < 4) = false := decide_eq_false (by omega)
    have H4 := Aside0.mk h4
    have hcr4 : (4 : Int) ≤ (cr : Int) := by have := HCR.out; omega
    have htl : (rest.take 4).length = 4 := by rw [List.length_take]; omega
    have hC4 := Kd.C_take HCC.out (show 4 ≤ rest.length by omega)
    rw [htl] at hC4
    have hconv := Kd.C_string (P := Tryd.prog) Tryd.underlying30 Tryd.underlying5 Tryd.underlying9 (c := cr) hC4
    have HTL := Aside0.mk htl
    clear h4 htl hC4
    obtain ⟨s4, hs4⟩ : ∃ s, s = strOfNums (rest.take 4) := ⟨_, rfl⟩
    rw [← hs4] at hconv
    have HS4 := Aside0.mk hs4; clear hs4
    have hiff : s4.toList = [84, 73, 76, 84] ↔ rest.take 4 = [84, 73, 76, 84] := by
      rw [HS4.out, ← tilt_list]
      exact strList_inj (fun x hx => HRS.out x (List.mem_of_mem_take hx)) (by decide)
    by_cases hm : s4.toList = [84, 73, 76, 84]
    · have b4 : (s4.toList == [84, 73, 76, 84]) = true := by rw [hm]; rfl
      have HTK := Aside0.mk (hiff.1 hm)
      have HR3 : Aside0 (R = match rdAll rest with | none => badI | some (r, j) => if j = (rest.length : Int) ∧ okF r.1 r.2 = true then (r.1, r.2, 0) else badI) := ⟨HR2.out.trans (if_neg (fun h => h.elim (fun h => by cases h) (fun h => h.elim H4.out (fun h => h HTK.out))))⟩
      clear HR2; have HR2 := HR3; clear HR3 hm hiff
      go_wp2_with (first | ((with_reducible refine gate_dst (N := 33) rfl ?_); refine box_event ?hg (N := 33) ?hd (cs := #[.slice Ar rest.length cr, .int .i64 4]) (t := 78) ?hr ?_; (case hd => rfl); (case hg => rfl); (case hr => first | (go_simp; done) | (go_simp; rfl)); intro B hg_ W4 hbox_ hb_; have GEB := Aside0.mk ((by rw [hg_]; exact (below_size HB.out)) : w.heap.size ≤ B); have NBpx_B : px ≠ B := (by rw [hg_]; exact Nat.ne_of_lt (blk_lt BKpx.out)); have NBB_px : B ≠ px := Ne.symm NBpx_B; have NBpe_B : pe ≠ B := (by rw [hg_]; exact Nat.ne_of_lt (blk_lt BKpe.out)); have NBB_pe : B ≠ pe := Ne.symm NBpe_B; have HOB := Aside0.mk (Kd.R_mono (ok' := fun k_ => k_ ≠ B) (Kd.R_bound HO.out) (fun k_ h_ => by have := h_.2.2.1; rw [hg_]; omega)); clear hg_; have n_ := Aside0.mk (blk_below BKpx.out hb_); clear BKpx; have BKpx := n_; clear n_; clear hcpx_0 hfpx_0; clear hcpx_1 hfpx_1; have n_ := Aside0.mk (blk_below BKpe.out hb_); clear BKpe; have BKpe := n_; clear n_; clear hcpe_0 hfpe_0; have n_ := Aside0.mk (below_step HB.out hb_); clear HB; have HB := n_; clear n_; have BKB := Aside0.mk hbox_; have n_ := Aside0.mk (Kd.R_below HOB.out hb_); clear HOB; have HOB := n_; clear n_ hbox_ hb_; have hcpx_0 : W4.cell? ⟨px, 0, none⟩ = some (.slice none 0 0) := (blk_cell BKpx.out 0).trans rfl; have hfpx_0 := blk_frozen BKpx.out 0; have hcpx_1 : W4.cell? ⟨px, 1, none⟩ = some (.slice none 0 0) := (blk_cell BKpx.out 1).trans rfl; have hfpx_1 := blk_frozen BKpx.out 1; have hcpe_0 : W4.cell? ⟨pe, 0, none⟩ = some (.int .i64 0) := (blk_cell BKpe.out 0).trans rfl; have hfpe_0 := blk_frozen BKpe.out 0; have hcB_0 : W4.cell? ⟨B, 0, none⟩ = some (.slice Ar rest.length cr) := (blk_cell BKB.out 0).trans rfl; have hfB_0 := blk_frozen BKB.out 0; have hcB_1 : W4.cell? ⟨B, 1, none⟩ = some (.int .i64 4) := (blk_cell BKB.out 1).trans rfl; have hfB_1 := blk_frozen BKB.out 1))
      have HC := Aside0.mk (fun W' (hk_ : Kept W4 W' (fun k => k = B)) => Kd.C_kept_own HOB.out (fun k h e => h e) W' hk_)
      refine (rd_rows_glo B Ar cr rest 4 64 _ ⟨by decide, by decide⟩ BKB.out HC.out HCR.out HRS.out (by have := HRL.out; have := HBG.out; omega) (by decide) (by have := H4.out; omega)).mono ?_
      rintro e_ W5 ⟨hk_, h_⟩
      have hb_ := hk_.below_of HB.out GEB.out
      have n_ := Aside0.mk (blk_kept BKpx.out hk_.kept NBpx_B); clear BKpx; have BKpx := n_; clear n_
      have n_ := Aside0.mk (blk_kept BKpe.out hk_.kept NBpe_B); clear BKpe; have BKpe := n_; clear n_
      rcases hR0 : rdRows (rdG rest) 64 rest 4 with _ | ⟨x0, i1⟩
      · rw [hR0] at h_
        obtain ⟨m_, rfl⟩ := h_
        have HR3 : Aside0 (R = badI) := ⟨HR2.out.trans (by simp only [rdAll, hR0, Option.bind_none])⟩
        clear HR2 HB; have HR2 := HR3; have HB := Aside0.mk hb_; clear HR3 hk_ hb_ hR0
        clear hcpx_0 hfpx_0
        clear hcpx_1 hfpx_1
        clear hcpe_0 hfpe_0
        have hcpx_0 : W5.cell? ⟨px, 0, none⟩ = some (.slice none 0 0) := (blk_cell BKpx.out 0).trans rfl
        have hfpx_0 := blk_frozen BKpx.out 0
        have hcpx_1 : W5.cell? ⟨px, 1, none⟩ = some (.slice none 0 0) := (blk_cell BKpx.out 1).trans rfl
        have hfpx_1 := blk_frozen BKpx.out 1
        have hcpe_0 : W5.cell? ⟨pe, 0, none⟩ = some (.int .i64 0) := (blk_cell BKpe.out 0).trans rfl
        have hfpe_0 := blk_frozen BKpe.out 0
        go_wp2
        refine leaves_cons (f := 41) (args := #[.pointer (some ⟨px, 0, none⟩), .pointer (some ⟨pe, 0, none⟩)]) (by simp) (by simp [go_sem]) ?_
        refine (catch_panic px pe m_ 0 (.slice none 0 0) (.slice none 0 0) [] _ BKpx.out BKpe.out NBpx_pe).mono ?_
        rintro e_ u_ w_ ⟨rfl, rfl, rfl⟩
        show Leaves _ _ _ _ [] .returning _
        have n_ : Aside0 (((W5.setCell ⟨px, 0, none⟩ (.slice none 0 0)).setCell ⟨px, 1, none⟩ (.slice none 0 0)).heap[px]? = some (.cells #[.slice none 0 0, .slice none 0 0] 25 (0, 0))) := ⟨by refine blk_put (cs := #[.slice none 0 0, .slice none 0 0]) ?_ 1 _ rfl; refine blk_put (cs := #[.slice none 0 0, .slice none 0 0]) ?_ 0 _ rfl; exact BKpx.out⟩
        have m_ : Aside0 (((W5.setCell ⟨px, 0, none⟩ (.slice none 0 0)).setCell ⟨px, 1, none⟩ (.slice none 0 0)).heap[pe]? = some (.cells #[.int .i64 0] 28 (0, 0))) := ⟨(blk_far (blk_far BKpe.out NBpe_px _) NBpe_px _)⟩
        clear BKpe; have BKpe := m_; clear m_
        have b_ : Aside0 (Below w.heap.size w ((W5.setCell ⟨px, 0, none⟩ (.slice none 0 0)).setCell ⟨px, 1, none⟩ (.slice none 0 0))) := ⟨(below_set (below_set HB.out GEpx.out) GEpx.out)⟩
        clear BKpx HB; have BKpx := n_; have HB := b_; clear n_ b_
        clear hcpx_0 hfpx_0
        clear hcpx_1 hfpx_1
        clear hcpe_0 hfpe_0
        generalize ((W5.setCell ⟨px, 0, none⟩ (.slice none 0 0)).setCell ⟨px, 1, none⟩ (.slice none 0 0)) = W6 at *
        have hcpx_0 : W6.cell? ⟨px, 0, none⟩ = some (.slice none 0 0) := (blk_cell BKpx.out 0).trans rfl
        have hfpx_0 := blk_frozen BKpx.out 0
        have hcpx_1 : W6.cell? ⟨px, 1, none⟩ = some (.slice none 0 0) := (blk_cell BKpx.out 1).trans rfl
        have hfpx_1 := blk_frozen BKpx.out 1
        have hcpe_0 : W6.cell? ⟨pe, 0, none⟩ = some (.int .i64 0) := (blk_cell BKpe.out 0).trans rfl
        have hfpe_0 := blk_frozen BKpe.out 0
        have n_ : Aside0 ((W6.setCell ⟨pe, 0, none⟩ (.int .i64 150)).heap[pe]? = some (.cells #[.int .i64 150] 28 (0, 0))) := ⟨by refine blk_put (cs := #[.int .i64 0]) ?_ 0 _ rfl; exact BKpe.out⟩
        have m_ : Aside0 ((W6.setCell ⟨pe, 0, none⟩ (.int .i64 150)).heap[px]? = some (.cells #[.slice none 0 0, .slice none 0 0] 25 (0, 0))) := ⟨(blk_far BKpx.out NBpx_pe _)⟩
        clear BKpx; have BKpx := m_; clear m_
        have b_ : Aside0 (Below w.heap.size w (W6.setCell ⟨pe, 0, none⟩ (.int .i64 150))) := ⟨(below_set HB.out GEpe.out)⟩
        clear BKpe HB; have BKpe := n_; have HB := b_; clear n_ b_
        clear hcpx_0 hfpx_0
        clear hcpx_1 hfpx_1
        clear hcpe_0 hfpe_0
        generalize (W6.setCell ⟨pe, 0, none⟩ (.int .i64 150)) = W7 at *
        have hcpx_0 : W7.cell? ⟨px, 0, none⟩ = some (.slice none 0 0) := (blk_cell BKpx.out 0).trans rfl
        have hfpx_0 := blk_frozen BKpx.out 0
        have hcpx_1 : W7.cell? ⟨px, 1, none⟩ = some (.slice none 0 0) := (blk_cell BKpx.out 1).trans rfl
        have hfpx_1 := blk_frozen BKpx.out 1
        have hcpe_0 : W7.cell? ⟨pe, 0, none⟩ = some (.int .i64 150) := (blk_cell BKpe.out 0).trans rfl
        have hfpe_0 := blk_frozen BKpe.out 0
        refine dec_leave (dec_results _ px pe _ _ _ _ rfl rfl BKpx.out BKpe.out) ?_
        exact ⟨.slice none 0 0, .slice none 0 0, by rw [HR2.out] <;> rfl, by rw [HR2.out]; exact Kd.R_nil _ _ _ _ _, by rw [HR2.out]; exact Kd.S_nil _ _ _ _ _, HB.out⟩
      rw [hR0] at h_
      obtain ⟨⟨v0, rfl, hv0⟩, hb2_⟩ := h_
      obtain ⟨A0_, c0_, rfl⟩ := Kd.R_slice hv0
      have HV0 := Aside0.mk (Kd.R_mono (ok' := fun k_ => k_ ≠ B) (Kd.R_lower (base' := w.heap.size) hv0 (HB.out.size)) (fun k_ h_ e_ => by have h2_ : B < W4.heap.size := blk_lt BKB.out; omega))
      have n_ := Aside0.mk (Kd.R_kept HOB.out hk_.kept (fun k_ h_ => h_)); clear HOB; have HOB := n_; clear n_
      clear HC
      have HI1 := Aside0.mk (rdRows_rng HRS.out (fun i x j hi_ h => rdG_rng HRS.out h) hR0)
      have HX0 := Aside0.mk hR0; clear BKB HB hR0 hv0; have BKB := Aside0.mk hb2_; have HB := Aside0.mk hb_; clear hk_ hb_ hb2_
      clear hcpx_0 hfpx_0
      clear hcpx_1 hfpx_1
      clear hcpe_0 hfpe_0
      clear hcB_0 hfB_0
      clear hcB_1 hfB_1
      have hcpx_0 : W5.cell? ⟨px, 0, none⟩ = some (.slice none 0 0) := (blk_cell BKpx.out 0).trans rfl
      have hfpx_0 := blk_frozen BKpx.out 0
      have hcpx_1 : W5.cell? ⟨px, 1, none⟩ = some (.slice none 0 0) := (blk_cell BKpx.out 1).trans rfl
      have hfpx_1 := blk_frozen BKpx.out 1
      have hcpe_0 : W5.cell? ⟨pe, 0, none⟩ = some (.int .i64 0) := (blk_cell BKpe.out 0).trans rfl
      have hfpe_0 := blk_frozen BKpe.out 0
      have hcB_0 : W5.cell? ⟨B, 0, none⟩ = some (.slice Ar rest.length cr) := (blk_cell BKB.out 0).trans rfl
      have hfB_0 := blk_frozen BKB.out 0
      have hcB_1 : W5.cell? ⟨B, 1, none⟩ = some (.int .i64 i1) := (blk_cell BKB.out 1).trans rfl
      have hfB_1 := blk_frozen BKB.out 1
      go_wp2_with fail
      have q_ : Aside0 (Kd.R (Kd.int .u8) 5 (W5.setCell ⟨px, 0, none⟩ (.slice A0_ x0.length c0_)) _ (fun k_ => k_ ≠ B) (.slice Ar rest.length cr) rest) := ⟨(Kd.R_set HOB.out BKpx.out (by decide) 0 _)⟩; clear HOB; have HOB := q_; clear q_
      have q_ : Aside0 (Kd.R k48 48 (W5.setCell ⟨px, 0, none⟩ (.slice A0_ x0.length c0_)) w.heap.size (fun k_ => k_ ≠ B) (.slice A0_ x0.length c0_) x0) := ⟨(Kd.R_set HV0.out BKpx.out (by decide) 0 _)⟩; clear HV0; have HV0 := q_; clear q_
      have n_ : Aside0 ((W5.setCell ⟨px, 0, none⟩ (.slice A0_ x0.length c0_)).heap[px]? = some (.cells #[.slice A0_ x0.length c0_, .slice none 0 0] 25 (0, 0))) := ⟨by refine blk_put (cs := #[.slice none 0 0, .slice none 0 0]) ?_ 0 _ rfl; exact BKpx.out⟩
      have m_ : Aside0 ((W5.setCell ⟨px, 0, none⟩ (.slice A0_ x0.length c0_)).heap[pe]? = some (.cells #[.int .i64 0] 28 (0, 0))) := ⟨(blk_far BKpe.out NBpe_px _)⟩
      clear BKpe; have BKpe := m_; clear m_
      have m_ : Aside0 ((W5.setCell ⟨px, 0, none⟩ (.slice A0_ x0.length c0_)).heap[B]? = some (.cells #[.slice Ar rest.length cr, .int .i64 i1] 78 (0, 0))) := ⟨(blk_far BKB.out NBB_px _)⟩
      clear BKB; have BKB := m_; clear m_
      have b_ : Aside0 (Below w.heap.size w (W5.setCell ⟨px, 0, none⟩ (.slice A0_ x0.length c0_))) := ⟨(below_set HB.out GEpx.out)⟩
      clear BKpx HB; have BKpx := n_; have HB := b_; clear n_ b_
      clear hcpx_0 hfpx_0
      clear hcpx_1 hfpx_1
      clear hcpe_0 hfpe_0
      clear hcB_0 hfB_0
      clear hcB_1 hfB_1
      generalize (W5.setCell ⟨px, 0, none⟩ (.slice A0_ x0.length c0_)) = W6 at *
      have hcpx_0 : W6.cell? ⟨px, 0, none⟩ = some (.slice A0_ x0.length c0_) := (blk_cell BKpx.out 0).trans rfl
      have hfpx_0 := blk_frozen BKpx.out 0
      have hcpx_1 : W6.cell? ⟨px, 1, none⟩ = some (.slice none 0 0) := (blk_cell BKpx.out 1).trans rfl
      have hfpx_1 := blk_frozen BKpx.out 1
      have hcpe_0 : W6.cell? ⟨pe, 0, none⟩ = some (.int .i64 0) := (blk_cell BKpe.out 0).trans rfl
      have hfpe_0 := blk_frozen BKpe.out 0
      have hcB_0 : W6.cell? ⟨B, 0, none⟩ = some (.slice Ar rest.length cr) := (blk_cell BKB.out 0).trans rfl
      have hfB_0 := blk_frozen BKB.out 0
      have hcB_1 : W6.cell? ⟨B, 1, none⟩ = some (.int .i64 i1) := (blk_cell BKB.out 1).trans rfl
      have hfB_1 := blk_frozen BKB.out 1
      have HC := Aside0.mk (fun W' (hk_ : Kept W6 W' (fun k => k = B)) => Kd.C_kept_own HOB.out (fun k h e => h e) W' hk_)
      refine (rd_rows_fn B Ar cr rest i1 64 _ ⟨by decide, by decide⟩ BKB.out HC.out HCR.out HRS.out (by have := HRL.out; have := HBG.out; omega) HI1.out.1 HI1.out.2).mono ?_
      rintro e_ W7 ⟨hk_, h_⟩
      have hb_ := hk_.below_of HB.out GEB.out
      have n_ := Aside0.mk (blk_kept BKpx.out hk_.kept NBpx_B); clear BKpx; have BKpx := n_; clear n_
      have n_ := Aside0.mk (blk_kept BKpe.out hk_.kept NBpe_B); clear BKpe; have BKpe := n_; clear n_
      rcases hR1 : rdRows (rdF rest) 64 rest i1 with _ | ⟨x1, i2⟩
      · rw [hR1] at h_
        obtain ⟨m_, rfl⟩ := h_
        have HR3 : Aside0 (R = badI) := ⟨HR2.out.trans (by simp only [rdAll, HX0.out, hR1, Option.bind_some, Option.bind_none])⟩
        clear HR2 HB; have HR2 := HR3; have HB := Aside0.mk hb_; clear HR3 hk_ hb_ hR1
        clear hcpx_0 hfpx_0
        clear hcpx_1 hfpx_1
        clear hcpe_0 hfpe_0
        have hcpx_0 : W7.cell? ⟨px, 0, none⟩ = some (.slice A0_ x0.length c0_) := (blk_cell BKpx.out 0).trans rfl
        have hfpx_0 := blk_frozen BKpx.out 0
        have hcpx_1 : W7.cell? ⟨px, 1, none⟩ = some (.slice none 0 0) := (blk_cell BKpx.out 1).trans rfl
        have hfpx_1 := blk_frozen BKpx.out 1
        have hcpe_0 : W7.cell? ⟨pe, 0, none⟩ = some (.int .i64 0) := (blk_cell BKpe.out 0).trans rfl
        have hfpe_0 := blk_frozen BKpe.out 0
        go_wp2
        refine leaves_cons (f := 41) (args := #[.pointer (some ⟨px, 0, none⟩), .pointer (some ⟨pe, 0, none⟩)]) (by simp) (by simp [go_sem]) ?_
        refine (catch_panic px pe m_ 0 (.slice A0_ x0.length c0_) (.slice none 0 0) [] _ BKpx.out BKpe.out NBpx_pe).mono ?_
        rintro e_ u_ w_ ⟨rfl, rfl, rfl⟩
        show Leaves _ _ _ _ [] .returning _
        have n_ : Aside0 (((W7.setCell ⟨px, 0, none⟩ (.slice none 0 0)).setCell ⟨px, 1, none⟩ (.slice none 0 0)).heap[px]? = some (.cells #[.slice none 0 0, .slice none 0 0] 25 (0, 0))) := ⟨by refine blk_put (cs := #[.slice none 0 0, .slice none 0 0]) ?_ 1 _ rfl; refine blk_put (cs := #[.slice A0_ x0.length c0_, .slice none 0 0]) ?_ 0 _ rfl; exact BKpx.out⟩
        have m_ : Aside0 (((W7.setCell ⟨px, 0, none⟩ (.slice none 0 0)).setCell ⟨px, 1, none⟩ (.slice none 0 0)).heap[pe]? = some (.cells #[.int .i64 0] 28 (0, 0))) := ⟨(blk_far (blk_far BKpe.out NBpe_px _) NBpe_px _)⟩
        clear BKpe; have BKpe := m_; clear m_
        have b_ : Aside0 (Below w.heap.size w ((W7.setCell ⟨px, 0, none⟩ (.slice none 0 0)).setCell ⟨px, 1, none⟩ (.slice none 0 0))) := ⟨(below_set (below_set HB.out GEpx.out) GEpx.out)⟩
        clear BKpx HB; have BKpx := n_; have HB := b_; clear n_ b_
        clear hcpx_0 hfpx_0
        clear hcpx_1 hfpx_1
        clear hcpe_0 hfpe_0
        generalize ((W7.setCell ⟨px, 0, none⟩ (.slice none 0 0)).setCell ⟨px, 1, none⟩ (.slice none 0 0)) = W8 at *
        have hcpx_0 : W8.cell? ⟨px, 0, none⟩ = some (.slice none 0 0) := (blk_cell BKpx.out 0).trans rfl
        have hfpx_0 := blk_frozen BKpx.out 0
        have hcpx_1 : W8.cell? ⟨px, 1, none⟩ = some (.slice none 0 0) := (blk_cell BKpx.out 1).trans rfl
        have hfpx_1 := blk_frozen BKpx.out 1
        have hcpe_0 : W8.cell? ⟨pe, 0, none⟩ = some (.int .i64 0) := (blk_cell BKpe.out 0).trans rfl
        have hfpe_0 := blk_frozen BKpe.out 0
        have n_ : Aside0 ((W8.setCell ⟨pe, 0, none⟩ (.int .i64 150)).heap[pe]? = some (.cells #[.int .i64 150] 28 (0, 0))) := ⟨by refine blk_put (cs := #[.int .i64 0]) ?_ 0 _ rfl; exact BKpe.out⟩
        have m_ : Aside0 ((W8.setCell ⟨pe, 0, none⟩ (.int .i64 150)).heap[px]? = some (.cells #[.slice none 0 0, .slice none 0 0] 25 (0, 0))) := ⟨(blk_far BKpx.out NBpx_pe _)⟩
        clear BKpx; have BKpx := m_; clear m_
        have b_ : Aside0 (Below w.heap.size w (W8.setCell ⟨pe, 0, none⟩ (.int .i64 150))) := ⟨(below_set HB.out GEpe.out)⟩
        clear BKpe HB; have BKpe := n_; have HB := b_; clear n_ b_
        clear hcpx_0 hfpx_0
        clear hcpx_1 hfpx_1
        clear hcpe_0 hfpe_0
        generalize (W8.setCell ⟨pe, 0, none⟩ (.int .i64 150)) = W9 at *
        have hcpx_0 : W9.cell? ⟨px, 0, none⟩ = some (.slice none 0 0) := (blk_cell BKpx.out 0).trans rfl
        have hfpx_0 := blk_frozen BKpx.out 0
        have hcpx_1 : W9.cell? ⟨px, 1, none⟩ = some (.slice none 0 0) := (blk_cell BKpx.out 1).trans rfl
        have hfpx_1 := blk_frozen BKpx.out 1
        have hcpe_0 : W9.cell? ⟨pe, 0, none⟩ = some (.int .i64 150) := (blk_cell BKpe.out 0).trans rfl
        have hfpe_0 := blk_frozen BKpe.out 0
        refine dec_leave (dec_results _ px pe _ _ _ _ rfl rfl BKpx.out BKpe.out) ?_
        exact ⟨.slice none 0 0, .slice none 0 0, by rw [HR2.out] <;> rfl, by rw [HR2.out]; exact Kd.R_nil _ _ _ _ _, by rw [HR2.out]; exact Kd.S_nil _ _ _ _ _, HB.out⟩
      rw [hR1] at h_
      obtain ⟨⟨v1, rfl, hv1⟩, hb2_⟩ := h_
      obtain ⟨A1_, c1_, rfl⟩ := Kd.S_slice hv1
      have HV1 := Aside0.mk (Kd.S_mono (ok' := fun k_ => k_ ≠ B) (Kd.S_lower (base' := w.heap.size) hv1 (HB.out.size)) (fun k_ h_ e_ => by have h2_ : B < W6.heap.size := blk_lt BKB.out; omega))
      have n_ := Aside0.mk (Kd.R_kept HOB.out hk_.kept (fun k_ h_ => h_)); clear HOB; have HOB := n_; clear n_
      have n_ := Aside0.mk (Kd.R_kept HV0.out hk_.kept (fun k_ h_ => h_)); clear HV0; have HV0 := n_; clear n_
      clear HC
      have HI2 := Aside0.mk (rdRows_rng HRS.out (fun i x j hi_ h => rdF_rng HRS.out h) hR1)
      have HX1 := Aside0.mk hR1; clear BKB HB hR1 hv1; have BKB := Aside0.mk hb2_; have HB := Aside0.mk hb_; clear hk_ hb_ hb2_
      clear hcpx_0 hfpx_0
      clear hcpx_1 hfpx_1
      clear hcpe_0 hfpe_0
      clear hcB_0 hfB_0
      clear hcB_1 hfB_1
      have hcpx_0 : W7.cell? ⟨px, 0, none⟩ = some (.slice A0_ x0.length c0_) := (blk_cell BKpx.out 0).trans rfl
      have hfpx_0 := blk_frozen BKpx.out 0
      have hcpx_1 : W7.cell? ⟨px, 1, none⟩ = some (.slice none 0 0) := (blk_cell BKpx.out 1).trans rfl
      have hfpx_1 := blk_frozen BKpx.out 1
      have hcpe_0 : W7.cell? ⟨pe, 0, none⟩ = some (.int .i64 0) := (blk_cell BKpe.out 0).trans rfl
      have hfpe_0 := blk_frozen BKpe.out 0
      have hcB_0 : W7.cell? ⟨B, 0, none⟩ = some (.slice Ar rest.length cr) := (blk_cell BKB.out 0).trans rfl
      have hfB_0 := blk_frozen BKB.out 0
      have hcB_1 : W7.cell? ⟨B, 1, none⟩ = some (.int .i64 i2) := (blk_cell BKB.out 1).trans rfl
      have hfB_1 := blk_frozen BKB.out 1
      have HR3 : Aside0 (R = if i2 = (rest.length : Int) ∧ okF x0 x1 = true then (x0, x1, 0) else badI) := ⟨HR2.out.trans (by simp only [rdAll, HX0.out, HX1.out, Option.bind_some])⟩
      clear HR2; have HR2 := HR3; clear HR3
      obtain ⟨nr, hnr⟩ : ∃ n : Int, n = (rest.length : Int) := ⟨_, rfl⟩
      by_cases hj : i2 = (rest.length : Int)
      · have b5 : (i2 != (rest.length : Int)) = false := by simp [hj]
        have HJ := Aside0.mk hj; clear hj hnr
        go_wp2_with fail
        have q_ : Aside0 (Kd.R (Kd.int .u8) 5 (W7.setCell ⟨px, 1, none⟩ (.slice A1_ x1.length c1_)) _ (fun k_ => k_ ≠ B) (.slice Ar rest.length cr) rest) := ⟨(Kd.R_set HOB.out BKpx.out (by decide) 1 _)⟩; clear HOB; have HOB := q_; clear q_
        have q_ : Aside0 (Kd.R k48 48 (W7.setCell ⟨px, 1, none⟩ (.slice A1_ x1.length c1_)) w.heap.size (fun k_ => k_ ≠ B) (.slice A0_ x0.length c0_) x0) := ⟨(Kd.R_set HV0.out BKpx.out (by decide) 1 _)⟩; clear HV0; have HV0 := q_; clear q_
        have q_ : Aside0 (Kd.S k54 54 (W7.setCell ⟨px, 1, none⟩ (.slice A1_ x1.length c1_)) w.heap.size (fun k_ => k_ ≠ B) (.slice A1_ x1.length c1_) x1) := ⟨(Kd.S_set HV1.out BKpx.out (by decide) 1 _)⟩; clear HV1; have HV1 := q_; clear q_
        have n_ : Aside0 ((W7.setCell ⟨px, 1, none⟩ (.slice A1_ x1.length c1_)).heap[px]? = some (.cells #[.slice A0_ x0.length c0_, .slice A1_ x1.length c1_] 25 (0, 0))) := ⟨by refine blk_put (cs := #[.slice A0_ x0.length c0_, .slice none 0 0]) ?_ 1 _ rfl; exact BKpx.out⟩
        have m_ : Aside0 ((W7.setCell ⟨px, 1, none⟩ (.slice A1_ x1.length c1_)).heap[pe]? = some (.cells #[.int .i64 0] 28 (0, 0))) := ⟨(blk_far BKpe.out NBpe_px _)⟩
        clear BKpe; have BKpe := m_; clear m_
        have m_ : Aside0 ((W7.setCell ⟨px, 1, none⟩ (.slice A1_ x1.length c1_)).heap[B]? = some (.cells #[.slice Ar rest.length cr, .int .i64 i2] 78 (0, 0))) := ⟨(blk_far BKB.out NBB_px _)⟩
        clear BKB; have BKB := m_; clear m_
        have b_ : Aside0 (Below w.heap.size w (W7.setCell ⟨px, 1, none⟩ (.slice A1_ x1.length c1_))) := ⟨(below_set HB.out GEpx.out)⟩
        clear BKpx HB; have BKpx := n_; have HB := b_; clear n_ b_
        clear hcpx_0 hfpx_0
        clear hcpx_1 hfpx_1
        clear hcpe_0 hfpe_0
        clear hcB_0 hfB_0
        clear hcB_1 hfB_1
        generalize (W7.setCell ⟨px, 1, none⟩ (.slice A1_ x1.length c1_)) = W8 at *
        have hcpx_0 : W8.cell? ⟨px, 0, none⟩ = some (.slice A0_ x0.length c0_) := (blk_cell BKpx.out 0).trans rfl
        have hfpx_0 := blk_frozen BKpx.out 0
        have hcpx_1 : W8.cell? ⟨px, 1, none⟩ = some (.slice A1_ x1.length c1_) := (blk_cell BKpx.out 1).trans rfl
        have hfpx_1 := blk_frozen BKpx.out 1
        have hcpe_0 : W8.cell? ⟨pe, 0, none⟩ = some (.int .i64 0) := (blk_cell BKpe.out 0).trans rfl
        have hfpe_0 := blk_frozen BKpe.out 0
        have hcB_0 : W8.cell? ⟨B, 0, none⟩ = some (.slice Ar rest.length cr) := (blk_cell BKB.out 0).trans rfl
        have hfB_0 := blk_frozen BKB.out 0
        have hcB_1 : W8.cell? ⟨B, 1, none⟩ = some (.int .i64 i2) := (blk_cell BKB.out 1).trans rfl
        have hfB_1 := blk_frozen BKB.out 1
        have hok : image_ok.f x0 x1 = some (okF x0 x1) := ok_f x0 x1 (by have := rdRows_len HRS.out HX0.out; omega) (by have := rdRows_len HRS.out HX1.out; omega) (rdRows_all (fun i x j h => rdF_in HRS.out h) HX1.out)
        refine (image_ok.calls A0_ c0_ x0 A1_ c1_ x1 (okF x0 x1) _ (Kd.R_reads' HV0.out).2.2 (Kd.R_reads' HV0.out).2.1 (Kd.S_reads' HV1.out).2.2 (Kd.S_reads' HV1.out).2.1 hok).mono ?_
        rintro e_ W9 ⟨rfl, hb_⟩
        have n_ := Aside0.mk (Kd.R_below HV0.out hb_); clear HV0; have HV0 := n_; clear n_
        have n_ := Aside0.mk (Kd.S_below HV1.out hb_); clear HV1; have HV1 := n_; clear n_
        clear hcB_0 hfB_0 hcB_1 hfB_1 BKB HOB hok
        have n_ := Aside0.mk (blk_below BKpx.out hb_); clear BKpx; have BKpx := n_; clear n_
        clear hcpx_0 hfpx_0
        clear hcpx_1 hfpx_1
        have n_ := Aside0.mk (blk_below BKpe.out hb_); clear BKpe; have BKpe := n_; clear n_
        clear hcpe_0 hfpe_0
        have n_ := Aside0.mk (below_step HB.out hb_); clear HB; have HB := n_; clear n_
        clear hb_
        have hcpx_0 : W9.cell? ⟨px, 0, none⟩ = some (.slice A0_ x0.length c0_) := (blk_cell BKpx.out 0).trans rfl
        have hfpx_0 := blk_frozen BKpx.out 0
        have hcpx_1 : W9.cell? ⟨px, 1, none⟩ = some (.slice A1_ x1.length c1_) := (blk_cell BKpx.out 1).trans rfl
        have hfpx_1 := blk_frozen BKpx.out 1
        have hcpe_0 : W9.cell? ⟨pe, 0, none⟩ = some (.int .i64 0) := (blk_cell BKpe.out 0).trans rfl
        have hfpe_0 := blk_frozen BKpe.out 0
        by_cases hk : okF x0 x1 = true
        · have HOK := Aside0.mk hk
          rw [hk]
          clear hk
          have HR3 : Aside0 (R = (x0, x1, 0)) := ⟨HR2.out.trans (if_pos ⟨HJ.out, HOK.out⟩)⟩
          clear HR2; have HR2 := HR3; clear HR3
          go_wp2
          have q_ : Aside0 (Kd.R k48 48 ((W9.setCell ⟨px, 0, none⟩ (.slice A0_ x0.length c0_)).setCell ⟨px, 1, none⟩ (.slice A1_ x1.length c1_)) w.heap.size (fun k_ => k_ ≠ B) (.slice A0_ x0.length c0_) x0) := ⟨(Kd.R_set (Kd.R_set HV0.out BKpx.out (by decide) 0 _) (blk_put (cs := #[.slice A0_ x0.length c0_, .slice A1_ x1.length c1_]) BKpx.out 0 _ rfl) (by decide) 1 _)⟩; clear HV0; have HV0 := q_; clear q_
          have q_ : Aside0 (Kd.S k54 54 ((W9.setCell ⟨px, 0, none⟩ (.slice A0_ x0.length c0_)).setCell ⟨px, 1, none⟩ (.slice A1_ x1.length c1_)) w.heap.size (fun k_ => k_ ≠ B) (.slice A1_ x1.length c1_) x1) := ⟨(Kd.S_set (Kd.S_set HV1.out BKpx.out (by decide) 0 _) (blk_put (cs := #[.slice A0_ x0.length c0_, .slice A1_ x1.length c1_]) BKpx.out 0 _ rfl) (by decide) 1 _)⟩; clear HV1; have HV1 := q_; clear q_
          have n_ : Aside0 (((W9.setCell ⟨px, 0, none⟩ (.slice A0_ x0.length c0_)).setCell ⟨px, 1, none⟩ (.slice A1_ x1.length c1_)).heap[px]? = some (.cells #[.slice A0_ x0.length c0_, .slice A1_ x1.length c1_] 25 (0, 0))) := ⟨by refine blk_put (cs := #[.slice A0_ x0.length c0_, .slice A1_ x1.length c1_]) ?_ 1 _ rfl; refine blk_put (cs := #[.slice A0_ x0.length c0_, .slice A1_ x1.length c1_]) ?_ 0 _ rfl; exact BKpx.out⟩
          have m_ : Aside0 (((W9.setCell ⟨px, 0, none⟩ (.slice A0_ x0.length c0_)).setCell ⟨px, 1, none⟩ (.slice A1_ x1.length c1_)).heap[pe]? = some (.cells #[.int .i64 0] 28 (0, 0))) := ⟨(blk_far (blk_far BKpe.out NBpe_px _) NBpe_px _)⟩
          clear BKpe; have BKpe := m_; clear m_
          have b_ : Aside0 (Below w.heap.size w ((W9.setCell ⟨px, 0, none⟩ (.slice A0_ x0.length c0_)).setCell ⟨px, 1, none⟩ (.slice A1_ x1.length c1_))) := ⟨(below_set (below_set HB.out GEpx.out) GEpx.out)⟩
          clear BKpx HB; have BKpx := n_; have HB := b_; clear n_ b_
          clear hcpx_0 hfpx_0
          clear hcpx_1 hfpx_1
          clear hcpe_0 hfpe_0
          generalize ((W9.setCell ⟨px, 0, none⟩ (.slice A0_ x0.length c0_)).setCell ⟨px, 1, none⟩ (.slice A1_ x1.length c1_)) = W10 at *
          have hcpx_0 : W10.cell? ⟨px, 0, none⟩ = some (.slice A0_ x0.length c0_) := (blk_cell BKpx.out 0).trans rfl
          have hfpx_0 := blk_frozen BKpx.out 0
          have hcpx_1 : W10.cell? ⟨px, 1, none⟩ = some (.slice A1_ x1.length c1_) := (blk_cell BKpx.out 1).trans rfl
          have hfpx_1 := blk_frozen BKpx.out 1
          have hcpe_0 : W10.cell? ⟨pe, 0, none⟩ = some (.int .i64 0) := (blk_cell BKpe.out 0).trans rfl
          have hfpe_0 := blk_frozen BKpe.out 0
          have q_ : Aside0 (Kd.R k48 48 (W10.setCell ⟨pe, 0, none⟩ (.int .i64 0)) w.heap.size (fun k_ => k_ ≠ B) (.slice A0_ x0.length c0_) x0) := ⟨(Kd.R_set HV0.out BKpe.out (by decide) 0 _)⟩; clear HV0; have HV0 := q_; clear q_
          have q_ : Aside0 (Kd.S k54 54 (W10.setCell ⟨pe, 0, none⟩ (.int .i64 0)) w.heap.size (fun k_ => k_ ≠ B) (.slice A1_ x1.length c1_) x1) := ⟨(Kd.S_set HV1.out BKpe.out (by decide) 0 _)⟩; clear HV1; have HV1 := q_; clear q_
          have n_ : Aside0 ((W10.setCell ⟨pe, 0, none⟩ (.int .i64 0)).heap[pe]? = some (.cells #[.int .i64 0] 28 (0, 0))) := ⟨by refine blk_put (cs := #[.int .i64 0]) ?_ 0 _ rfl; exact BKpe.out⟩
          have m_ : Aside0 ((W10.setCell ⟨pe, 0, none⟩ (.int .i64 0)).heap[px]? = some (.cells #[.slice A0_ x0.length c0_, .slice A1_ x1.length c1_] 25 (0, 0))) := ⟨(blk_far BKpx.out NBpx_pe _)⟩
          clear BKpx; have BKpx := m_; clear m_
          have b_ : Aside0 (Below w.heap.size w (W10.setCell ⟨pe, 0, none⟩ (.int .i64 0))) := ⟨(below_set HB.out GEpe.out)⟩
          clear BKpe HB; have BKpe := n_; have HB := b_; clear n_ b_
          clear hcpx_0 hfpx_0
          clear hcpx_1 hfpx_1
          clear hcpe_0 hfpe_0
          generalize (W10.setCell ⟨pe, 0, none⟩ (.int .i64 0)) = W11 at *
          have hcpx_0 : W11.cell? ⟨px, 0, none⟩ = some (.slice A0_ x0.length c0_) := (blk_cell BKpx.out 0).trans rfl
          have hfpx_0 := blk_frozen BKpx.out 0
          have hcpx_1 : W11.cell? ⟨px, 1, none⟩ = some (.slice A1_ x1.length c1_) := (blk_cell BKpx.out 1).trans rfl
          have hfpx_1 := blk_frozen BKpx.out 1
          have hcpe_0 : W11.cell? ⟨pe, 0, none⟩ = some (.int .i64 0) := (blk_cell BKpe.out 0).trans rfl
          have hfpe_0 := blk_frozen BKpe.out 0
          refine leaves_cons (f := 41) (args := #[.pointer (some ⟨px, 0, none⟩), .pointer (some ⟨pe, 0, none⟩)]) (by simp) (by simp [go_sem]) ?_
          refine (catch_idle px pe _).mono ?_
          rintro e_ u_ w_ ⟨rfl, rfl, rfl⟩
          refine dec_leave (dec_results _ px pe _ _ _ _ rfl rfl BKpx.out BKpe.out) ?_
          exact ⟨.slice A0_ x0.length c0_, .slice A1_ x1.length c1_, by rw [HR2.out] <;> rfl, by rw [HR2.out]; exact Kd.R_mono HV0.out (fun _ _ => trivial), by rw [HR2.out]; exact Kd.S_mono HV1.out (fun _ _ => trivial), HB.out⟩
        · have HOK := Aside0.mk hk
          have hk2 : okF x0 x1 = false := by simpa using hk
          rw [hk2]
          clear hk hk2
          have HR3 : Aside0 (R = badI) := ⟨HR2.out.trans (if_neg (fun h => HOK.out h.2))⟩
          clear HR2; have HR2 := HR3; clear HR3
          go_wp2
          have q_ : Aside0 (Kd.R k48 48 ((W9.setCell ⟨px, 0, none⟩ (.slice none 0 0)).setCell ⟨px, 1, none⟩ (.slice none 0 0)) w.heap.size (fun k_ => k_ ≠ B) (.slice A0_ x0.length c0_) x0) := ⟨(Kd.R_set (Kd.R_set HV0.out BKpx.out (by decide) 0 _) (blk_put (cs := #[.slice A0_ x0.length c0_, .slice A1_ x1.length c1_]) BKpx.out 0 _ rfl) (by decide) 1 _)⟩; clear HV0; have HV0 := q_; clear q_
          have q_ : Aside0 (Kd.S k54 54 ((W9.setCell ⟨px, 0, none⟩ (.slice none 0 0)).setCell ⟨px, 1, none⟩ (.slice none 0 0)) w.heap.size (fun k_ => k_ ≠ B) (.slice A1_ x1.length c1_) x1) := ⟨(Kd.S_set (Kd.S_set HV1.out BKpx.out (by decide) 0 _) (blk_put (cs := #[.slice A0_ x0.length c0_, .slice A1_ x1.length c1_]) BKpx.out 0 _ rfl) (by decide) 1 _)⟩; clear HV1; have HV1 := q_; clear q_
          have n_ : Aside0 (((W9.setCell ⟨px, 0, none⟩ (.slice none 0 0)).setCell ⟨px, 1, none⟩ (.slice none 0 0)).heap[px]? = some (.cells #[.slice none 0 0, .slice none 0 0] 25 (0, 0))) := ⟨by refine blk_put (cs := #[.slice none 0 0, .slice A1_ x1.length c1_]) ?_ 1 _ rfl; refine blk_put (cs := #[.slice A0_ x0.length c0_, .slice A1_ x1.length c1_]) ?_ 0 _ rfl; exact BKpx.out⟩
          have m_ : Aside0 (((W9.setCell ⟨px, 0, none⟩ (.slice none 0 0)).setCell ⟨px, 1, none⟩ (.slice none 0 0)).heap[pe]? = some (.cells #[.int .i64 0] 28 (0, 0))) := ⟨(blk_far (blk_far BKpe.out NBpe_px _) NBpe_px _)⟩
          clear BKpe; have BKpe := m_; clear m_
          have b_ : Aside0 (Below w.heap.size w ((W9.setCell ⟨px, 0, none⟩ (.slice none 0 0)).setCell ⟨px, 1, none⟩ (.slice none 0 0))) := ⟨(below_set (below_set HB.out GEpx.out) GEpx.out)⟩
          clear BKpx HB; have BKpx := n_; have HB := b_; clear n_ b_
          clear hcpx_0 hfpx_0
          clear hcpx_1 hfpx_1
          clear hcpe_0 hfpe_0
          generalize ((W9.setCell ⟨px, 0, none⟩ (.slice none 0 0)).setCell ⟨px, 1, none⟩ (.slice none 0 0)) = W10 at *
          have hcpx_0 : W10.cell? ⟨px, 0, none⟩ = some (.slice none 0 0) := (blk_cell BKpx.out 0).trans rfl
          have hfpx_0 := blk_frozen BKpx.out 0
          have hcpx_1 : W10.cell? ⟨px, 1, none⟩ = some (.slice none 0 0) := (blk_cell BKpx.out 1).trans rfl
          have hfpx_1 := blk_frozen BKpx.out 1
          have hcpe_0 : W10.cell? ⟨pe, 0, none⟩ = some (.int .i64 0) := (blk_cell BKpe.out 0).trans rfl
          have hfpe_0 := blk_frozen BKpe.out 0
          have q_ : Aside0 (Kd.R k48 48 (W10.setCell ⟨pe, 0, none⟩ (.int .i64 150)) w.heap.size (fun k_ => k_ ≠ B) (.slice A0_ x0.length c0_) x0) := ⟨(Kd.R_set HV0.out BKpe.out (by decide) 0 _)⟩; clear HV0; have HV0 := q_; clear q_
          have q_ : Aside0 (Kd.S k54 54 (W10.setCell ⟨pe, 0, none⟩ (.int .i64 150)) w.heap.size (fun k_ => k_ ≠ B) (.slice A1_ x1.length c1_) x1) := ⟨(Kd.S_set HV1.out BKpe.out (by decide) 0 _)⟩; clear HV1; have HV1 := q_; clear q_
          have n_ : Aside0 ((W10.setCell ⟨pe, 0, none⟩ (.int .i64 150)).heap[pe]? = some (.cells #[.int .i64 150] 28 (0, 0))) := ⟨by refine blk_put (cs := #[.int .i64 0]) ?_ 0 _ rfl; exact BKpe.out⟩
          have m_ : Aside0 ((W10.setCell ⟨pe, 0, none⟩ (.int .i64 150)).heap[px]? = some (.cells #[.slice none 0 0, .slice none 0 0] 25 (0, 0))) := ⟨(blk_far BKpx.out NBpx_pe _)⟩
          clear BKpx; have BKpx := m_; clear m_
          have b_ : Aside0 (Below w.heap.size w (W10.setCell ⟨pe, 0, none⟩ (.int .i64 150))) := ⟨(below_set HB.out GEpe.out)⟩
          clear BKpe HB; have BKpe := n_; have HB := b_; clear n_ b_
          clear hcpx_0 hfpx_0
          clear hcpx_1 hfpx_1
          clear hcpe_0 hfpe_0
          generalize (W10.setCell ⟨pe, 0, none⟩ (.int .i64 150)) = W11 at *
          have hcpx_0 : W11.cell? ⟨px, 0, none⟩ = some (.slice none 0 0) := (blk_cell BKpx.out 0).trans rfl
          have hfpx_0 := blk_frozen BKpx.out 0
          have hcpx_1 : W11.cell? ⟨px, 1, none⟩ = some (.slice none 0 0) := (blk_cell BKpx.out 1).trans rfl
          have hfpx_1 := blk_frozen BKpx.out 1
          have hcpe_0 : W11.cell? ⟨pe, 0, none⟩ = some (.int .i64 150) := (blk_cell BKpe.out 0).trans rfl
          have hfpe_0 := blk_frozen BKpe.out 0
          refine leaves_cons (f := 41) (args := #[.pointer (some ⟨px, 0, none⟩), .pointer (some ⟨pe, 0, none⟩)]) (by simp) (by simp [go_sem]) ?_
          refine (catch_idle px pe _).mono ?_
          rintro e_ u_ w_ ⟨rfl, rfl, rfl⟩
          refine dec_leave (dec_results _ px pe _ _ _ _ rfl rfl BKpx.out BKpe.out) ?_
          exact ⟨.slice none 0 0, .slice none 0 0, by rw [HR2.out] <;> rfl, by rw [HR2.out]; exact Kd.R_nil _ _ _ _ _, by rw [HR2.out]; exact Kd.S_nil _ _ _ _ _, HB.out⟩
      · have b5 : (i2 != (rest.length : Int)) = true := bne_iff_ne.mpr hj
        have HJ := Aside0.mk hj; clear hj hnr
        have HR3 : Aside0 (R = badI) := ⟨HR2.out.trans (if_neg (fun h => HJ.out h.1))⟩
        clear HR2; have HR2 := HR3; clear HR3
        go_wp2
        have q_ : Aside0 (Kd.R (Kd.int .u8) 5 (W7.setCell ⟨px, 1, none⟩ (.slice A1_ x1.length c1_)) _ (fun k_ => k_ ≠ B) (.slice Ar rest.length cr) rest) := ⟨(Kd.R_set HOB.out BKpx.out (by decide) 1 _)⟩; clear HOB; have HOB := q_; clear q_
        have q_ : Aside0 (Kd.R k48 48 (W7.setCell ⟨px, 1, none⟩ (.slice A1_ x1.length c1_)) w.heap.size (fun k_ => k_ ≠ B) (.slice A0_ x0.length c0_) x0) := ⟨(Kd.R_set HV0.out BKpx.out (by decide) 1 _)⟩; clear HV0; have HV0 := q_; clear q_
        have q_ : Aside0 (Kd.S k54 54 (W7.setCell ⟨px, 1, none⟩ (.slice A1_ x1.length c1_)) w.heap.size (fun k_ => k_ ≠ B) (.slice A1_ x1.length c1_) x1) := ⟨(Kd.S_set HV1.out BKpx.out (by decide) 1 _)⟩; clear HV1; have HV1 := q_; clear q_
        have n_ : Aside0 ((W7.setCell ⟨px, 1, none⟩ (.slice A1_ x1.length c1_)).heap[px]? = some (.cells #[.slice A0_ x0.length c0_, .slice A1_ x1.length c1_] 25 (0, 0))) := ⟨by refine blk_put (cs := #[.slice A0_ x0.length c0_, .slice none 0 0]) ?_ 1 _ rfl; exact BKpx.out⟩
        have m_ : Aside0 ((W7.setCell ⟨px, 1, none⟩ (.slice A1_ x1.length c1_)).heap[pe]? = some (.cells #[.int .i64 0] 28 (0, 0))) := ⟨(blk_far BKpe.out NBpe_px _)⟩
        clear BKpe; have BKpe := m_; clear m_
        have m_ : Aside0 ((W7.setCell ⟨px, 1, none⟩ (.slice A1_ x1.length c1_)).heap[B]? = some (.cells #[.slice Ar rest.length cr, .int .i64 i2] 78 (0, 0))) := ⟨(blk_far BKB.out NBB_px _)⟩
        clear BKB; have BKB := m_; clear m_
        have b_ : Aside0 (Below w.heap.size w (W7.setCell ⟨px, 1, none⟩ (.slice A1_ x1.length c1_))) := ⟨(below_set HB.out GEpx.out)⟩
        clear BKpx HB; have BKpx := n_; have HB := b_; clear n_ b_
        clear hcpx_0 hfpx_0
        clear hcpx_1 hfpx_1
        clear hcpe_0 hfpe_0
        clear hcB_0 hfB_0
        clear hcB_1 hfB_1
        generalize (W7.setCell ⟨px, 1, none⟩ (.slice A1_ x1.length c1_)) = W8 at *
        have hcpx_0 : W8.cell? ⟨px, 0, none⟩ = some (.slice A0_ x0.length c0_) := (blk_cell BKpx.out 0).trans rfl
        have hfpx_0 := blk_frozen BKpx.out 0
        have hcpx_1 : W8.cell? ⟨px, 1, none⟩ = some (.slice A1_ x1.length c1_) := (blk_cell BKpx.out 1).trans rfl
        have hfpx_1 := blk_frozen BKpx.out 1
        have hcpe_0 : W8.cell? ⟨pe, 0, none⟩ = some (.int .i64 0) := (blk_cell BKpe.out 0).trans rfl
        have hfpe_0 := blk_frozen BKpe.out 0
        have hcB_0 : W8.cell? ⟨B, 0, none⟩ = some (.slice Ar rest.length cr) := (blk_cell BKB.out 0).trans rfl
        have hfB_0 := blk_frozen BKB.out 0
        have hcB_1 : W8.cell? ⟨B, 1, none⟩ = some (.int .i64 i2) := (blk_cell BKB.out 1).trans rfl
        have hfB_1 := blk_frozen BKB.out 1
        have n_ : Aside0 (((W8.setCell ⟨px, 0, none⟩ (.slice none 0 0)).setCell ⟨px, 1, none⟩ (.slice none 0 0)).heap[px]? = some (.cells #[.slice none 0 0, .slice none 0 0] 25 (0, 0))) := ⟨by refine blk_put (cs := #[.slice none 0 0, .slice A1_ x1.length c1_]) ?_ 1 _ rfl; refine blk_put (cs := #[.slice A0_ x0.length c0_, .slice A1_ x1.length c1_]) ?_ 0 _ rfl; exact BKpx.out⟩
        have m_ : Aside0 (((W8.setCell ⟨px, 0, none⟩ (.slice none 0 0)).setCell ⟨px, 1, none⟩ (.slice none 0 0)).heap[pe]? = some (.cells #[.int .i64 0] 28 (0, 0))) := ⟨(blk_far (blk_far BKpe.out NBpe_px _) NBpe_px _)⟩
        clear BKpe; have BKpe := m_; clear m_
        have m_ : Aside0 (((W8.setCell ⟨px, 0, none⟩ (.slice none 0 0)).setCell ⟨px, 1, none⟩ (.slice none 0 0)).heap[B]? = some (.cells #[.slice Ar rest.length cr, .int .i64 i2] 78 (0, 0))) := ⟨(blk_far (blk_far BKB.out NBB_px _) NBB_px _)⟩
        clear BKB; have BKB := m_; clear m_
        have b_ : Aside0 (Below w.heap.size w ((W8.setCell ⟨px, 0, none⟩ (.slice none 0 0)).setCell ⟨px, 1, none⟩ (.slice none 0 0))) := ⟨(below_set (below_set HB.out GEpx.out) GEpx.out)⟩
        clear BKpx HB; have BKpx := n_; have HB := b_; clear n_ b_
        clear hcpx_0 hfpx_0
        clear hcpx_1 hfpx_1
        clear hcpe_0 hfpe_0
        clear hcB_0 hfB_0
        clear hcB_1 hfB_1
        generalize ((W8.setCell ⟨px, 0, none⟩ (.slice none 0 0)).setCell ⟨px, 1, none⟩ (.slice none 0 0)) = W9 at *
        have hcpx_0 : W9.cell? ⟨px, 0, none⟩ = some (.slice none 0 0) := (blk_cell BKpx.out 0).trans rfl
        have hfpx_0 := blk_frozen BKpx.out 0
        have hcpx_1 : W9.cell? ⟨px, 1, none⟩ = some (.slice none 0 0) := (blk_cell BKpx.out 1).trans rfl
        have hfpx_1 := blk_frozen BKpx.out 1
        have hcpe_0 : W9.cell? ⟨pe, 0, none⟩ = some (.int .i64 0) := (blk_cell BKpe.out 0).trans rfl
        have hfpe_0 := blk_frozen BKpe.out 0
        have hcB_0 : W9.cell? ⟨B, 0, none⟩ = some (.slice Ar rest.length cr) := (blk_cell BKB.out 0).trans rfl
        have hfB_0 := blk_frozen BKB.out 0
        have hcB_1 : W9.cell? ⟨B, 1, none⟩ = some (.int .i64 i2) := (blk_cell BKB.out 1).trans rfl
        have hfB_1 := blk_frozen BKB.out 1
        have n_ : Aside0 ((W9.setCell ⟨pe, 0, none⟩ (.int .i64 150)).heap[pe]? = some (.cells #[.int .i64 150] 28 (0, 0))) := ⟨by refine blk_put (cs := #[.int .i64 0]) ?_ 0 _ rfl; exact BKpe.out⟩
        have m_ : Aside0 ((W9.setCell ⟨pe, 0, none⟩ (.int .i64 150)).heap[px]? = some (.cells #[.slice none 0 0, .slice none 0 0] 25 (0, 0))) := ⟨(blk_far BKpx.out NBpx_pe _)⟩
        clear BKpx; have BKpx := m_; clear m_
        have m_ : Aside0 ((W9.setCell ⟨pe, 0, none⟩ (.int .i64 150)).heap[B]? = some (.cells #[.slice Ar rest.length cr, .int .i64 i2] 78 (0, 0))) := ⟨(blk_far BKB.out NBB_pe _)⟩
        clear BKB; have BKB := m_; clear m_
        have b_ : Aside0 (Below w.heap.size w (W9.setCell ⟨pe, 0, none⟩ (.int .i64 150))) := ⟨(below_set HB.out GEpe.out)⟩
        clear BKpe HB; have BKpe := n_; have HB := b_; clear n_ b_
        clear hcpx_0 hfpx_0
        clear hcpx_1 hfpx_1
        clear hcpe_0 hfpe_0
        clear hcB_0 hfB_0
        clear hcB_1 hfB_1
        generalize (W9.setCell ⟨pe, 0, none⟩ (.int .i64 150)) = W10 at *
        have hcpx_0 : W10.cell? ⟨px, 0, none⟩ = some (.slice none 0 0) := (blk_cell BKpx.out 0).trans rfl
        have hfpx_0 := blk_frozen BKpx.out 0
        have hcpx_1 : W10.cell? ⟨px, 1, none⟩ = some (.slice none 0 0) := (blk_cell BKpx.out 1).trans rfl
        have hfpx_1 := blk_frozen BKpx.out 1
        have hcpe_0 : W10.cell? ⟨pe, 0, none⟩ = some (.int .i64 150) := (blk_cell BKpe.out 0).trans rfl
        have hfpe_0 := blk_frozen BKpe.out 0
        have hcB_0 : W10.cell? ⟨B, 0, none⟩ = some (.slice Ar rest.length cr) := (blk_cell BKB.out 0).trans rfl
        have hfB_0 := blk_frozen BKB.out 0
        have hcB_1 : W10.cell? ⟨B, 1, none⟩ = some (.int .i64 i2) := (blk_cell BKB.out 1).trans rfl
        have hfB_1 := blk_frozen BKB.out 1
        refine leaves_cons (f := 41) (args := #[.pointer (some ⟨px, 0, none⟩), .pointer (some ⟨pe, 0, none⟩)]) (by simp) (by simp [go_sem]) ?_
        refine (catch_idle px pe _).mono ?_
        rintro e_ u_ w_ ⟨rfl, rfl, rfl⟩
        refine dec_leave (dec_results _ px pe _ _ _ _ rfl rfl BKpx.out BKpe.out) ?_
        exact ⟨.slice none 0 0, .slice none 0 0, by rw [HR2.out] <;> rfl, by rw [HR2.out]; exact Kd.R_nil _ _ _ _ _, by rw [HR2.out]; exact Kd.S_nil _ _ _ _ _, HB.out⟩
    · have b4 : (s4.toList == [84, 73, 76, 84]) = false := beq_eq_false_iff_ne.mpr hm
      have HTK := Aside0.mk (fun h => hm (hiff.2 h)); clear hm hiff
      have HR3 : Aside0 (R = badI) := ⟨HR2.out.trans (if_pos (.inr (.inr HTK.out)))⟩
      clear HR2; have HR2 := HR3; clear HR3
      go_wp2
      have n_ : Aside0 (((W3.setCell ⟨px, 0, none⟩ (.slice none 0 0)).setCell ⟨px, 1, none⟩ (.slice none 0 0)).heap[px]? = some (.cells #[.slice none 0 0, .slice none 0 0] 25 (0, 0))) := ⟨by refine blk_put (cs := #[.slice none 0 0, .slice none 0 0]) ?_ 1 _ rfl; refine blk_put (cs := #[.slice none 0 0, .slice none 0 0]) ?_ 0 _ rfl; exact BKpx.out⟩
      have m_ : Aside0 (((W3.setCell ⟨px, 0, none⟩ (.slice none 0 0)).setCell ⟨px, 1, none⟩ (.slice none 0 0)).heap[pe]? = some (.cells #[.int .i64 0] 28 (0, 0))) := ⟨(blk_far (blk_far BKpe.out NBpe_px _) NBpe_px _)⟩
      clear BKpe; have BKpe := m_; clear m_
      have b_ : Aside0 (Below w.heap.size w ((W3.setCell ⟨px, 0, none⟩ (.slice none 0 0)).setCell ⟨px, 1, none⟩ (.slice none 0 0))) := ⟨(below_set (below_set HB.out GEpx.out) GEpx.out)⟩
      clear BKpx HB; have BKpx := n_; have HB := b_; clear n_ b_
      clear hcpx_0 hfpx_0
      clear hcpx_1 hfpx_1
      clear hcpe_0 hfpe_0
      generalize ((W3.setCell ⟨px, 0, none⟩ (.slice none 0 0)).setCell ⟨px, 1, none⟩ (.slice none 0 0)) = W4 at *
      have hcpx_0 : W4.cell? ⟨px, 0, none⟩ = some (.slice none 0 0) := (blk_cell BKpx.out 0).trans rfl
      have hfpx_0 := blk_frozen BKpx.out 0
      have hcpx_1 : W4.cell? ⟨px, 1, none⟩ = some (.slice none 0 0) := (blk_cell BKpx.out 1).trans rfl
      have hfpx_1 := blk_frozen BKpx.out 1
      have hcpe_0 : W4.cell? ⟨pe, 0, none⟩ = some (.int .i64 0) := (blk_cell BKpe.out 0).trans rfl
      have hfpe_0 := blk_frozen BKpe.out 0
      have n_ : Aside0 ((W4.setCell ⟨pe, 0, none⟩ (.int .i64 150)).heap[pe]? = some (.cells #[.int .i64 150] 28 (0, 0))) := ⟨by refine blk_put (cs := #[.int .i64 0]) ?_ 0 _ rfl; exact BKpe.out⟩
      have m_ : Aside0 ((W4.setCell ⟨pe, 0, none⟩ (.int .i64 150)).heap[px]? = some (.cells #[.slice none 0 0, .slice none 0 0] 25 (0, 0))) := ⟨(blk_far BKpx.out NBpx_pe _)⟩
      clear BKpx; have BKpx := m_; clear m_
      have b_ : Aside0 (Below w.heap.size w (W4.setCell ⟨pe, 0, none⟩ (.int .i64 150))) := ⟨(below_set HB.out GEpe.out)⟩
      clear BKpe HB; have BKpe := n_; have HB := b_; clear n_ b_
      clear hcpx_0 hfpx_0
      clear hcpx_1 hfpx_1
      clear hcpe_0 hfpe_0
      generalize (W4.setCell ⟨pe, 0, none⟩ (.int .i64 150)) = W5 at *
      have hcpx_0 : W5.cell? ⟨px, 0, none⟩ = some (.slice none 0 0) := (blk_cell BKpx.out 0).trans rfl
      have hfpx_0 := blk_frozen BKpx.out 0
      have hcpx_1 : W5.cell? ⟨px, 1, none⟩ = some (.slice none 0 0) := (blk_cell BKpx.out 1).trans rfl
      have hfpx_1 := blk_frozen BKpx.out 1
      have hcpe_0 : W5.cell? ⟨pe, 0, none⟩ = some (.int .i64 150) := (blk_cell BKpe.out 0).trans rfl
      have hfpe_0 := blk_frozen BKpe.out 0
      refine dec_post rfl (dec_results _ px pe _ _ _ _ rfl rfl BKpx.out BKpe.out) ?_
      exact ⟨.slice none 0 0, .slice none 0 0, by rw [HR2.out] <;> rfl, by rw [HR2.out]; exact Kd.R_nil _ _ _ _ _, by rw [HR2.out]; exact Kd.S_nil _ _ _ _ _, HB.out⟩
end Go.Proofs.YteidgpaakoeefaaDoor
namespace Go.Proofs.YteidgpaakoeefaaDoor
open Go.RowKit Go.Proofs.YteidgpaakoeefaaDoorW.PrintWords Go.Proofs.YteidgpaakoeefaaDoorW.PrintLast Go.Proofs.YteidgpaakoeefaaDoorW.PrintMore
set_option linter.unusedVariables false
set_option linter.unusedSimpArgs false
open PIm
def Db (w : World) (B : Nat) (A : Option Addr) (n c : Nat) (i : Int) (f : Bool) : Prop := w.heap[B]? = some (.cells #[.slice A n c, .int .i64 i, .bool f] 85 (0, 0))
def stI : Option Int → Int → Bool → Prop
  | some j, i, f => f = false ∧ i = j
  | none, _, f => f = true
def Ds (w : World) (B : Nat) (A : Option Addr) (n c : Nat) (s : Option Int) : Prop := ∃ i f, Db w B A n c i f ∧ stI s i f
def Vs {α : Type} (r : Option (α × Int)) (x : α) : Prop := ∀ p, r = some p → p.1 = x
def Sr (l : List Int) (s : Option Int) : Prop := ∀ i, s = some i → 0 ≤ i ∧ i ≤ (l.length : Int)
def pl {α : Type} (r : Option (α × Int)) : Option Int := r.map (·.2)
theorem Ds.lt {w : World} {B : Nat} {A : Option Addr} {n c : Nat} {s : Option Int} (h : Ds w B A n c s) : B < w.heap.size := by
  obtain ⟨i, f, hb, _⟩ := h; exact blk_lt hb
theorem Ds.keep {w w1 : World} {B : Nat} {A : Option Addr} {n c : Nat} {s : Option Int} (h : Ds w B A n c s) (hk : w1.heap[B]? = w.heap[B]?) : Ds w1 B A n c s := by
  obtain ⟨i, f, hb, hs⟩ := h; exact ⟨i, f, hk.trans hb, hs⟩
theorem Ds.below {w w1 : World} {B : Nat} {A : Option Addr} {n c : Nat} {s : Option Int} (h : Ds w B A n c s) (hb : Below w.heap.size w w1) : Ds w1 B A n c s := h.keep (hb.block B h.lt)
theorem Ds.far {w : World} {B : Nat} {A : Option Addr} {n c : Nat} {s : Option Int} (h : Ds w B A n c s) {p : Addr} (hp : B ≠ p.block) (u : Value) : Ds (w.setCell p u) B A n c s := h.keep (Below.heap_setCell w p u B hp)
theorem Db.put {w : World} {B : Nat} {A : Option Addr} {n c : Nat} {i : Int} {f : Bool} (h : Db w B A n c i f) (j : Int) (g : Bool) : Db ((w.setCell ⟨B, 2, none⟩ (.bool g)).setCell ⟨B, 1, none⟩ (.int .i64 j)) B A n c j g :=
  blk_put (cs := #[.slice A n c, .int .i64 i, .bool g]) (blk_put (cs := #[.slice A n c, .int .i64 i, .bool f]) h 2 _ rfl) 1 _ rfl
theorem Db.flag {w : World} {B : Nat} {A : Option Addr} {n c : Nat} {i : Int} {f : Bool} (h : Db w B A n c i f) (g : Bool) : Db (w.setCell ⟨B, 2, none⟩ (.bool g)) B A n c i g :=
  blk_put (cs := #[.slice A n c, .int .i64 i, .bool f]) h 2 _ rfl
theorem Ds.good {w : World} {B : Nat} {A : Option Addr} {n c : Nat} {i : Int} (h : Ds w B A n c (some i)) : Db w B A n c i false := by
  obtain ⟨j, f, hb, rfl, rfl⟩ := h; exact hb
theorem Ds.bad {w : World} {B : Nat} {A : Option Addr} {n c : Nat} (h : Ds w B A n c none) : ∃ i, Db w B A n c i true := by
  obtain ⟨j, f, hb, h_⟩ := h
  have hf : f = true := h_
  subst hf
  exact ⟨j, hb⟩
theorem Ds.of_good {w : World} {B : Nat} {A : Option Addr} {n c : Nat} {i : Int} (h : Db w B A n c i false) : Ds w B A n c (some i) := ⟨i, false, h, rfl, rfl⟩
theorem Ds.of_bad {w : World} {B : Nat} {A : Option Addr} {n c : Nat} {i : Int} (h : Db w B A n c i true) : Ds w B A n c none := ⟨i, true, h, rfl⟩
theorem Sr.nat {l : List Int} {s : Option Int} (hbt : ∀ x ∈ l, 0 ≤ x ∧ x < 256) : Sr l (pl (s.bind (rdN l))) := by
  intro i h
  cases s with
  | none => cases h
  | some j =>
    rcases h1 : rdN l j with _ | ⟨a, i1⟩
    · simp [pl, h1] at h
    · simp [pl, h1] at h; subst h; exact rdN_rng hbt h1
theorem Sr.num {l : List Int} {s : Option Int} (hbt : ∀ x ∈ l, 0 ≤ x ∧ x < 256) : Sr l (pl (s.bind (rdW l))) := by
  intro i h
  cases s with
  | none => cases h
  | some j =>
    rcases h1 : rdW l j with _ | ⟨a, i1⟩
    · simp [pl, h1] at h
    · simp [pl, h1] at h; subst h; exact rdW_rng hbt h1
def rM (most : Int) (r : Option (Int × Int)) : Option (Int × Int) := r.bind fun a => if most < a.1 then none else some a
theorem Sr.many {l : List Int} {r : Option (Int × Int)} {most : Int} (h : Sr l (pl r)) : Sr l (pl (rM most r)) := by
  intro i hi
  rcases r with _ | ⟨a, j⟩
  · cases hi
  · unfold rM pl at hi
    simp only [Option.bind_some] at hi
    split at hi
    · cases hi
    · exact h i hi
set_option maxHeartbeats 4000000 in
set_option maxRecDepth 100000 in
theorem dr_nat (B : Nat) (A : Option Addr) (c : Nat) (l : List Int) (s : Option Int) (w : World) (hb : Ds w B A l.length c s)
    (hr : Kd.C (Kd.int .u8) w A l.length l) (hc : l.length ≤ c) (hbt : ∀ x ∈ l, 0 ≤ x ∧ x < 256) (hl : l.length ≤ 140737488355318) (hs : Sr l s) :
    Calls Tryd.prog 48 #[.pointer (some ⟨B, 0, none⟩)] w fun e w' => ∃ x : Int, e = .returned (.int .i64 x) ∧ Kp w w' (fun k => k = B) ∧ Ds w' B A l.length c (pl (s.bind (rdN l))) ∧ Vs (s.bind (rdN l)) x := by
  cases s with
  | none =>
    obtain ⟨i, hb⟩ := hb.bad
    have hc2 : w.cell? ⟨B, 2, none⟩ = some (.bool true) := (blk_cell hb 2).trans rfl
    have HBk := Aside0.mk hb
    clear hr hbt hc hl hs hb
    go_enter Tryd.func48, Tryd.ntmps48
    go_wp2
    go_ret
    exact ⟨0, rfl, Kp.refl _ _, Ds.of_bad HBk.out, fun p h => by cases h⟩
  | some i =>
    have hi := hs i rfl
    have hb := hb.good
    have hc0 : w.cell? ⟨B, 0, none⟩ = some (.slice A l.length c) := (blk_cell hb 0).trans rfl
    have hc1 : w.cell? ⟨B, 1, none⟩ = some (.int .i64 i) := (blk_cell hb 1).trans rfl
    have hc2 : w.cell? ⟨B, 2, none⟩ = some (.bool false) := (blk_cell hb 2).trans rfl
    have hf1 := blk_frozen hb 1
    have hf2 := blk_frozen hb 2
    obtain ⟨T, hT⟩ : ∃ T, T = tk l i 9 := ⟨_, rfl⟩
    have HC := Aside0.mk (fun n => rReadNum_calls A c l i (w.drewN n) (Kd.C_drewN hr n) hc hbt hl (by omega) (by omega))
    rw [← hT] at HC
    have HR : Aside0 ((some i).bind (rdN l) = if T.2.2 = 0 then some (T.1, T.2.1) else none) := ⟨by rw [hT]; rfl⟩
    have HBk := Aside0.mk hb
    clear hr hbt hc hl hs hi hb hT
    obtain ⟨x, j, e2⟩ := T
    by_cases hx : e2 = 0
    · have ze : (e2 != 0) = false := by simp [hx]
      have HX := Aside0.mk hx
      clear hx
      go_enter Tryd.func48, Tryd.ntmps48
      go_wp2_with fail
      go_quiet ((go_at_call 75; refine (HC.out _).mono ?_; rintro e_ w_ ⟨rfl, rfl⟩; exact ⟨rfl, _, rfl⟩))
      go_wp2
      go_ret
      refine ⟨_, rfl, Kp.setCell (p := ⟨B, 1, none⟩) (Kp.setCell (p := ⟨B, 2, none⟩) ((Kp.refl w (fun k => k = B)).below (pw_below_drewN (Below.refl _ _) _)) (.inl rfl) _) (.inl rfl) _, ?_, ?_⟩
      · rw [HR.out, if_pos HX.out]
        exact Ds.of_good (Db.put (blk_drewN HBk.out _) _ _)
      · rw [HR.out, if_pos HX.out]
        rintro p h
        cases h; rfl
    · have ze : (e2 != 0) = true := by simp [hx]
      have HX := Aside0.mk hx
      clear hx
      go_enter Tryd.func48, Tryd.ntmps48
      go_wp2_with fail
      go_quiet ((go_at_call 75; refine (HC.out _).mono ?_; rintro e_ w_ ⟨rfl, rfl⟩; exact ⟨rfl, _, rfl⟩))
      go_wp2
      go_ret
      refine ⟨_, rfl, Kp.setCell (p := ⟨B, 1, none⟩) (Kp.setCell (p := ⟨B, 2, none⟩) ((Kp.refl w (fun k => k = B)).below (pw_below_drewN (Below.refl _ _) _)) (.inl rfl) _) (.inl rfl) _, ?_, ?_⟩
      · rw [HR.out, if_neg HX.out]
        exact Ds.of_bad (Db.put (blk_drewN HBk.out _) _ _)
      · rw [HR.out, if_neg HX.out]
        rintro p h
        cases h
set_option maxHeartbeats 4000000 in
set_option maxRecDepth 100000 in
theorem dr_num (B : Nat) (A : Option Addr) (c : Nat) (l : List Int) (s : Option Int) (w : World) (hb : Ds w B A l.length c s)
    (hr : Kd.C (Kd.int .u8) w A l.length l) (hc : l.length ≤ c) (hbt : ∀ x ∈ l, 0 ≤ x ∧ x < 256) (hl : l.length ≤ 140737488355318) (hs : Sr l s) :
    Calls Tryd.prog 49 #[.pointer (some ⟨B, 0, none⟩)] w fun e w' => ∃ x : Int, e = .returned (.int .i64 x) ∧ Kp w w' (fun k => k = B) ∧ Ds w' B A l.length c (pl (s.bind (rdW l))) ∧ Vs (s.bind (rdW l)) x := by
  cases s with
  | none =>
    obtain ⟨i, hb⟩ := hb.bad
    have hc2 : w.cell? ⟨B, 2, none⟩ = some (.bool true) := (blk_cell hb 2).trans rfl
    have HBk := Aside0.mk hb
    clear hr hbt hc hl hs hb
    go_enter Tryd.func49, Tryd.ntmps49
    go_wp2
    go_ret
    exact ⟨0, rfl, Kp.refl _ _, Ds.of_bad HBk.out, fun p h => by cases h⟩
  | some i =>
    have hi := hs i rfl
    have hb := hb.good
    have hc0 : w.cell? ⟨B, 0, none⟩ = some (.slice A l.length c) := (blk_cell hb 0).trans rfl
    have hc1 : w.cell? ⟨B, 1, none⟩ = some (.int .i64 i) := (blk_cell hb 1).trans rfl
    have hc2 : w.cell? ⟨B, 2, none⟩ = some (.bool false) := (blk_cell hb 2).trans rfl
    have hf1 := blk_frozen hb 1
    have hf2 := blk_frozen hb 2
    obtain ⟨T, hT⟩ : ∃ T, T = tk l i 10 := ⟨_, rfl⟩
    have HC := Aside0.mk (fun n => rReadInt_calls A c l i (w.drewN n) (Kd.C_drewN hr n) hbt hl (by omega) (by omega))
    rw [← hT] at HC
    have HR : Aside0 ((some i).bind (rdW l) = if T.2.2 = 0 then some (uz T.1, T.2.1) else none) := ⟨by rw [hT]; rfl⟩
    have HBk := Aside0.mk hb
    clear hr hbt hc hl hs hi hb hT
    obtain ⟨x, j, e2⟩ := T
    by_cases hx : e2 = 0
    · have ze : (e2 != 0) = false := by simp [hx]
      have HX := Aside0.mk hx
      clear hx
      go_enter Tryd.func49, Tryd.ntmps49
      go_wp2_with fail
      go_quiet ((go_at_call 76; refine (HC.out _).mono ?_; rintro e_ w_ ⟨rfl, rfl⟩; exact ⟨rfl, _, rfl⟩))
      go_wp2
      go_ret
      refine ⟨_, rfl, Kp.setCell (p := ⟨B, 1, none⟩) (Kp.setCell (p := ⟨B, 2, none⟩) ((Kp.refl w (fun k => k = B)).below (pw_below_drewN (Below.refl _ _) _)) (.inl rfl) _) (.inl rfl) _, ?_, ?_⟩
      · rw [HR.out, if_pos HX.out]
        exact Ds.of_good (Db.put (blk_drewN HBk.out _) _ _)
      · rw [HR.out, if_pos HX.out]
        rintro p h
        cases h; rfl
    · have ze : (e2 != 0) = true := by simp [hx]
      have HX := Aside0.mk hx
      clear hx
      go_enter Tryd.func49, Tryd.ntmps49
      go_wp2_with fail
      go_quiet ((go_at_call 76; refine (HC.out _).mono ?_; rintro e_ w_ ⟨rfl, rfl⟩; exact ⟨rfl, _, rfl⟩))
      go_wp2
      go_ret
      refine ⟨_, rfl, Kp.setCell (p := ⟨B, 1, none⟩) (Kp.setCell (p := ⟨B, 2, none⟩) ((Kp.refl w (fun k => k = B)).below (pw_below_drewN (Below.refl _ _) _)) (.inl rfl) _) (.inl rfl) _, ?_, ?_⟩
      · rw [HR.out, if_neg HX.out]
        exact Ds.of_bad (Db.put (blk_drewN HBk.out _) _ _)
      · rw [HR.out, if_neg HX.out]
        rintro p h
        cases h
set_option maxHeartbeats 4000000 in
set_option maxRecDepth 100000 in
theorem dr_many (B : Nat) (A : Option Addr) (c : Nat) (l : List Int) (s : Option Int) (most : Int) (w : World) (hm : 0 ≤ most ∧ most ≤ 32768) (hb : Ds w B A l.length c s)
    (hr : Kd.C (Kd.int .u8) w A l.length l) (hc : l.length ≤ c) (hbt : ∀ x ∈ l, 0 ≤ x ∧ x < 256) (hl : l.length ≤ 140737488355318) (hs : Sr l s) :
    Calls Tryd.prog 47 #[.pointer (some ⟨B, 0, none⟩), .int .i64 most] w fun e w' => ∃ n : Int, e = .returned (.int .i64 n) ∧ (0 ≤ n ∧ n ≤ most) ∧ Kp w w' (fun k => k = B) ∧ Ds w' B A l.length c (pl (rM most (s.bind (rdN l)))) ∧ Vs (rM most (s.bind (rdN l))) n ∧ (rM most (s.bind (rdN l)) = none → n = 0) := by
  have HC := Aside0.mk (dr_nat B A c l s w hb hr hc hbt hl hs)
  have HM := Aside0.mk hm
  have HV : Aside0 (∀ x j, s.bind (rdN l) = some (x, j) → 0 ≤ x) := ⟨fun x j h => by
    cases s with
    | none => cases h
    | some i => exact (rdN_val hbt h).1⟩
  clear hb hr hc hbt hl hs hm
  go_enter Tryd.func47, Tryd.ntmps47
  go_wp2_with fail
  refine HC.out.mono ?_
  clear HC
  rintro e_ W1 ⟨x, rfl, hk_, hd_, hv_⟩
  have HK := Aside0.mk hk_; have HVV := Aside0.mk hv_
  clear hk_ hv_
  rcases hR : s.bind (rdN l) with _ | ⟨y, j⟩
  · rw [hR] at hd_
    obtain ⟨i, hb⟩ := Ds.bad hd_
    have hc2 : W1.cell? ⟨B, 2, none⟩ = some (.bool true) := (blk_cell hb 2).trans rfl
    have hf2 := blk_frozen hb 2
    have HBk := Aside0.mk hb; have HRR := Aside0.mk hR
    clear hb hd_ hR
    go_wp2
    go_ret
    rw [HRR.out]
    refine ⟨0, rfl, ⟨Int.le_refl 0, HM.out.1⟩, HK.out.setCell (p := ⟨B, 2, none⟩) (.inl rfl) _, Ds.of_bad (Db.flag HBk.out _), (fun p h => by cases h), fun _ => rfl⟩
  rw [hR] at hd_
  have hb := Ds.good hd_
  have hc2 : W1.cell? ⟨B, 2, none⟩ = some (.bool false) := (blk_cell hb 2).trans rfl
  have hf2 := blk_frozen hb 2
  have HBk := Aside0.mk hb
  obtain rfl : y = x := HVV.out _ hR
  have h0 := Aside0.mk (HV.out _ _ hR); have HRR := Aside0.mk hR
  clear hb hd_ hR HVV HV
  by_cases hlt : most < y
  · have d1 : decide (y > most) = true := decide_eq_true hlt
    have HLT := Aside0.mk hlt
    clear hlt
    go_wp2
    go_ret
    have e : rM most (some (y, j)) = none := by simp only [rM, Option.bind_some]; rw [if_pos HLT.out]
    rw [HRR.out, e]
    exact ⟨0, rfl, ⟨Int.le_refl 0, HM.out.1⟩, HK.out.setCell (p := ⟨B, 2, none⟩) (.inl rfl) _, Ds.of_bad (Db.flag HBk.out _), (fun p h => by cases h), fun _ => rfl⟩
  · have d1 : decide (y > most) = false := decide_eq_false hlt
    have HLT := Aside0.mk hlt
    clear hlt
    go_wp2
    go_ret
    have e : rM most (some (y, j)) = some (y, j) := by simp only [rM, Option.bind_some]; rw [if_neg (by have := HLT.out; omega)]
    rw [HRR.out, e]
    exact ⟨y, rfl, ⟨h0.out, by have := HLT.out; omega⟩, HK.out, Ds.of_good HBk.out, (fun p h => by cases h; rfl), fun h => by cases h⟩
end Go.Proofs.YteidgpaakoeefaaDoor
namespace Go.Proofs.YteidgpaakoeefaaDoor
open Go.RowKit Go.Proofs.YteidgpaakoeefaaDoorW.PrintWords Go.Proofs.YteidgpaakoeefaaDoorW.PrintLast Go.Proofs.YteidgpaakoeefaaDoorW.PrintMore
set_option linter.unusedVariables false
set_option linter.unusedSimpArgs false
open PIm
def RowSt {α : Type} (one : Int → Option (α × Int)) (m : Nat) (R : Option (List α × Int)) (s : Option Int) (done : List α) : Prop :=
  match s with
  | some j => R = (rdRow one m j).map fun b => (done ++ b.1, b.2)
  | none => R = none
theorem RowSt.start {α : Type} {one : Int → Option (α × Int)} {m : Nat} {s : Option Int} : RowSt one m (s.bind (rdRow one m)) s [] := by
  cases s with
  | none => rfl
  | some j => show rdRow one m j = _; simp
theorem RowSt.step {α : Type} {one : Int → Option (α × Int)} {m : Nat} {R : Option (List α × Int)} {j : Int} {done : List α} {x : α} (h : RowSt one (m + 1) R (some j) done) (hv : Vs (one j) x) : RowSt one m R (pl (one j)) (done ++ [x]) := by
  have h1 : R = (rdRow one (m + 1) j).map fun b => (done ++ b.1, b.2) := h
  rw [rdRow] at h1
  rcases ho : one j with _ | ⟨a, i1⟩
  · rw [ho] at h1; exact h1
  · have := hv _ ho
    simp only at this
    subst this
    rw [ho, Option.bind_some] at h1
    show R = (rdRow one m i1).map fun b => ((done ++ [a]) ++ b.1, b.2)
    rw [h1]
    cases rdRow one m i1 with
    | none => rfl
    | some b => simp
theorem RowSt.last {α : Type} {one : Int → Option (α × Int)} {R : Option (List α × Int)} {s : Option Int} {done : List α} (h : RowSt one 0 R s done) : pl R = s ∧ Vs R done := by
  cases s with
  | none => have h1 : R = none := h; subst h1; exact ⟨rfl, fun p h => by cases h⟩
  | some j =>
    have h1 : R = (rdRow one 0 j).map fun b => (done ++ b.1, b.2) := h
    rw [rdRow] at h1
    have h2 : R = some (done, j) := by rw [h1]; simp
    subst h2
    exact ⟨rfl, fun p h => by cases h; rfl⟩
theorem RowSt.bad {α : Type} {one : Int → Option (α × Int)} {m : Nat} {R : Option (List α × Int)} {done : List α} (h : RowSt one m R none done) : pl R = none ∧ Vs R done := by
  have h1 : R = none := h
  subst h1
  exact ⟨rfl, fun p h => by cases h⟩
theorem rows_link {α : Type} {one : Int → Option (α × Int)} {l : List Int} {s : Option Int} {most n : Int} (hv : Vs (rM most (s.bind (rdN l))) n) :
    s.bind (rdRows one most l) = (pl (rM most (s.bind (rdN l)))).bind (rdRow one n.toNat) := by
  cases s with
  | none => rfl
  | some i =>
    rw [Option.bind_some, Option.bind_some] at *
    unfold rdRows
    rcases h : rdN l i with _ | ⟨a, j⟩
    · rfl
    · rw [h] at hv
      simp only [rM, Option.bind_some] at hv ⊢
      split
      · rfl
      · next hm =>
        rw [if_neg hm] at hv
        have := hv _ rfl
        simp only at this
        subst this
        rfl
theorem Sr.row {α : Type} {one : Int → Option (α × Int)} {l : List Int} {s : Option Int} {most : Int} (hbt : ∀ x ∈ l, 0 ≤ x ∧ x < 256) (hs : Sr l s)
    (ho : ∀ i x j, 0 ≤ i ∧ i ≤ (l.length : Int) → one i = some (x, j) → 0 ≤ j ∧ j ≤ (l.length : Int)) : Sr l (pl (s.bind (rdRows one most l))) := by
  intro i h
  cases s with
  | none => cases h
  | some j =>
    rw [Option.bind_some] at h
    rcases h1 : rdRows one most l j with _ | ⟨a, i1⟩
    · rw [h1] at h; cases h
    · rw [h1] at h
      cases h
      exact rdRows_rng hbt ho h1
set_option maxHeartbeats 4000000 in
set_option maxRecDepth 100000 in
theorem dr_row (B : Nat) (A : Option Addr) (c : Nat) (l : List Int) (s : Option Int) (most : Int) (w : World) (hm : 0 ≤ most ∧ most ≤ 32768) (hb : Ds w B A l.length c s)
    (hr : ∀ W', Kept w W' (fun k => k = B) → Kd.C (Kd.int .u8) W' A l.length l) (hc : l.length ≤ c) (hbt : ∀ x ∈ l, 0 ≤ x ∧ x < 256) (hl : l.length ≤ 140737488355318) (hs : Sr l s) :
    Calls Tryd.prog 78 #[.pointer (some ⟨B, 0, none⟩), .int .i64 most] w fun e w' => ∃ (v : Value) (y : List Int), e = .returned v ∧ Kd.R (Kd.int .i64) 3 w' w.heap.size (fun k => w.heap.size ≤ k) v y ∧ (y.length : Int) ≤ most ∧ Kp w w' (fun k => k = B) ∧ Ds w' B A l.length c (pl (s.bind (rdRows (rdN l) most l))) ∧ Vs (s.bind (rdRows (rdN l) most l)) y := by
  have HM := Aside0.mk hm; have HC := Aside0.mk hr; have HCC := Aside0.mk hc; have HBT := Aside0.mk hbt; have HL := Aside0.mk hl
  have HBw : Aside0 (B < w.heap.size) := ⟨hb.lt⟩
  have hcall := dr_many B A c l s most w hm hb (hr w (Kept.refl _ _)) hc hbt hl hs
  have HSM := Aside0.mk (Sr.many (most := most) (Sr.nat hbt : Sr l (pl (s.bind (rdN l)))))
  have HLK := Aside0.mk (fun n => rows_link (one := rdN l) (l := l) (s := s) (most := most) (n := n))
  clear hb hr hc hbt hl hs hm
  obtain ⟨R, hR⟩ : ∃ R, R = s.bind (rdRows (rdN l) most l) := ⟨_, rfl⟩
  rw [← hR] at HLK ⊢
  clear hR
  obtain ⟨s0, hs0⟩ : ∃ s0, s0 = rM most (s.bind (rdN l)) := ⟨_, rfl⟩
  rw [← hs0] at hcall HSM HLK
  clear hs0
  go_enter Tryd.func78, Tryd.ntmps78
  go_wp2_with fail
  refine hcall.mono ?_
  clear hcall
  rintro e_ W1 ⟨n, rfl, hn_, hk_, hd_, hv_, hz_⟩
  have HN := Aside0.mk hn_; have HK1 := Aside0.mk hk_; have HD1 := Aside0.mk hd_
  have HRW : Aside0 (RowSt (rdN l) n.toNat R (pl s0) []) := ⟨by rw [HLK.out n hv_]; exact RowSt.start⟩
  clear hn_ hk_ hd_ hv_ hz_ HLK
  go_wp2_with fail
  go_loopw [5, 7] (fun vb vi wr => ∃ (k : Nat) (done : List Int) (sk : Option Int), vi = .int .i64 k ∧ Aside0 (k ≤ n.toNat ∧ done.length = k) ∧ Aside0 (RowSt (rdN l) (n.toNat - k) R sk done) ∧ Aside0 (Sr l sk) ∧ Aside0 (Kd.R (Kd.int .i64) 3 wr w.heap.size (fun k_ => w.heap.size ≤ k_) vb done) ∧ Aside0 (Ds wr B A l.length c sk) ∧ Aside0 (Kp w wr (fun k_ => k_ = B))) (fun _ v _ => n.toNat - (intOf v).toNat)
  case atStart => exact ⟨0, [], _, rfl, ⟨Nat.zero_le _, rfl⟩, HRW, HSM, ⟨Kd.R_nil _ _ _ _ _⟩, HD1, HK1⟩
  case round =>
    clear HRW HD1 HK1 HSM
    obtain ⟨k, done, sk, rfl, HKN, HRk, HSk, HO, HDk, HKr⟩ := hrel
    have hk := HKN.out
    have hnn := HN.out
    by_cases hlt : k < n.toNat
    · have z1 : decide ((k : Int) < n) = true := decide_eq_true (by omega)
      have HLT := Aside0.mk hlt
      cases sk with
      | none =>
        obtain ⟨i_, hb_⟩ := HDk.out.bad
        have hc2 : wr.cell? ⟨B, 2, none⟩ = some (.bool true) := (blk_cell hb_ 2).trans rfl
        clear hlt hk hnn hb_
        go_wp2
        go_ret
        have h_ := HRk.out.bad
        refine ⟨_, done, rfl, HO.out, by have := HKN.out; have := HN.out; have := HM.out; omega, HKr.out, ?_, h_.2⟩
        rw [h_.1]; exact HDk.out
      | some j =>
        have hb_ := HDk.out.good
        have hc2 : wr.cell? ⟨B, 2, none⟩ = some (.bool false) := (blk_cell hb_ 2).trans rfl
        have hcall := dr_nat B A c l (some j) wr HDk.out (HC.out _ HKr.out.kept) HCC.out HBT.out HL.out HSk.out
        rw [Option.bind_some] at hcall
        have HLT2 := Aside0.mk (fun k_ => own_lt (Kd.R_own HO.out).choose_spec k_)
        obtain ⟨Ao_, co_, hvo_⟩ := Kd.R_slice HO.out
        subst hvo_
        clear hlt hk hnn hb_
        go_wp2_with fail
        refine hcall.mono ?_
        clear hcall hc2
        rintro e_ W2 ⟨x, rfl, hk_, hd_, hv_⟩
        have HD2 := Aside0.mk hd_; have HV2 := Aside0.mk hv_; have HK2 := Aside0.mk (HKr.out.then_ hk_ (fun _ h => .inl h))
        have HO2 := Aside0.mk (Kd.R_kept HO.out hk_.kept (fun k_ h_ e_ => by have := HBw.out; omega))
        have HSR2 : Aside0 (Sr l (pl (rdN l j))) := ⟨Sr.nat (s := some j) HBT.out⟩
        clear hk_ hd_ hv_
        go_wp2_with (((with_reducible refine gate_builtin (b := .append) (xs := #[.tmp 26, .tmp 28]) rfl ?_); at_builtin; refine Kd.R_append (Kd.int .i64) (w0 := W2) w.heap.size rfl (.tmp 26) (.tmp 28) 52 3 (.int .i64 0) 8 rfl Tryd.underlying52 info3 rfl (by decide) (by omega) (.slice Ao_ done.length co_) done x [.int .i64 x] (fun k_ => w.heap.size ≤ k_) (fun _ => False) rfl rfl ?aP ?aK ?aF ?aO ?aB ?aS ?aL ?_; (case aP => exact rfl); (case aK => exact fun _ h => h.elim); (case aF => exact fun k_ h_ => Nat.le_trans HK2.out.1 h_); (case aO => exact HO2.out); (case aB => exact Below.refl _ _); (case aS => exact HK2.out.1); (case aL => have h1_ := HKN.out; have h2_ := HLT.out; have h3_ := HM.out; have h4_ := HN.out; omega); intro v1 w1 hR1 hb1 hg1 hat1))
        have HO3 := Aside0.mk hR1
        have hlt_ : B < W2.heap.size := Nat.lt_of_lt_of_le HBw.out HK2.out.1
        have hne_ : ∀ k_, (Value.slice Ao_ done.length co_).ownBlock = some k_ → w.heap.size ≤ k_ := fun k_ h_ => Kd.R_base HO2.out k_ h_
        have HK3 : Aside0 (Kp w w1 (fun k_ => k_ = B)) := ⟨Kp.of_grown hg1 HK2.out (fun k_ h_ => .inr (hne_ k_ h_))⟩
        have HD3 : Aside0 (Ds w1 B A l.length c (pl (rdN l j))) := ⟨HD2.out.keep (hg1.block B hlt_ (fun e_ => by have := hne_ B e_.symm; have := HBw.out; omega))⟩
        clear hR1 hb1 hg1 hat1 hlt_ hne_
        have hkn_ : (k : Int) + 1 ≤ 9223372036854775807 := by have := HLT.out; have := HN.out; have := HM.out; omega
        have HKNX := Aside0.mk hkn_
        clear hkn_
        go_wp2
        rw [w64_succ k HKNX.out]
        exact ⟨⟨k + 1, done ++ [x], _, rfl, ⟨HLT.out, by rw [List.length_append, HKN.out.2]; rfl⟩, ⟨RowSt.step (by rw [show n.toNat - (k + 1) + 1 = n.toNat - k by have := HLT.out; omega]; exact HRk.out) HV2.out⟩, HSR2, HO3, HD3, HK3⟩, by have := HLT.out; simp only [intOf, Int.toNat_natCast]; omega⟩
    · have z1 : decide ((k : Int) < n) = false := decide_eq_false (by omega)
      have HLT := Aside0.mk hlt
      clear hlt hk hnn
      go_wp2
      go_ret
      have h_ := RowSt.last (by have := HRk.out; rw [show n.toNat - k = 0 by have := HLT.out; omega] at this; exact this)
      refine ⟨_, done, rfl, HO.out, by have := HKN.out; have := HN.out; have := HM.out; omega, HKr.out, ?_, h_.2⟩
      rw [h_.1]; exact HDk.out
end Go.Proofs.YteidgpaakoeefaaDoor
namespace Go.Proofs.YteidgpaakoeefaaDoor
open Go.RowKit Go.Proofs.YteidgpaakoeefaaDoorW.PrintWords Go.Proofs.YteidgpaakoeefaaDoorW.PrintLast Go.Proofs.YteidgpaakoeefaaDoorW.PrintMore
set_option linter.unusedVariables false
set_option linter.unusedSimpArgs false
open PIm
theorem rtF_size {l : List Int} (hb : ∀ x ∈ l, 0 ≤ x ∧ x < 256) (i : Int) : (rtF l i).1.size ≤ 65536 := by
  have hr := tk_range l i 9 (by decide) (by decide) hb
  unfold rtF
  generalize tk l i 9 = t at hr ⊢
  obtain ⟨z, p, e⟩ := t
  simp only [] at hr ⊢
  by_cases q1 : e ≠ 0
  · rw [if_pos q1]; exact Nat.zero_le _
  rw [if_neg q1]
  by_cases q2 : 65536 < z
  · rw [if_pos q2]; exact Nat.zero_le _
  rw [if_neg q2]
  by_cases q3 : (l.length : Int) - p < z
  · rw [if_pos q3]; exact Nat.zero_le _
  rw [if_neg q3]
  show (strOfNums ((l.take (p + z).toNat).drop p.toNat)).size ≤ 65536
  rw [strOfNums_size]
  simp only [List.length_drop, List.length_take]
  omega
theorem Sr.text {l : List Int} (hbt : ∀ x ∈ l, 0 ≤ x ∧ x < 256) {j : Int} : Sr l (pl (rdT l j)) := by
  intro i h
  rcases h1 : rdT l j with _ | ⟨a, i1⟩
  · rw [h1] at h; cases h
  · rw [h1] at h; cases h; exact rdT_rng hbt h1
theorem ins_comp {l : List Int} {j x y z : Int} {s1 s2 s3 : Option Int} (e1 : s1 = pl (rdN l j)) (v1 : Vs (rdN l j) x) (e2 : s2 = pl (Option.bind s1 (rdW l))) (v2 : Vs (Option.bind s1 (rdW l)) y) (e3 : s3 = pl (Option.bind s2 (rdN l))) (v3 : Vs (Option.bind s2 (rdN l)) z) :
    s3 = pl (rdC l j) ∧ Vs (rdC l j) ⟨x, y, z⟩ := by
  subst e1; unfold rdC
  rcases h1 : rdN l j with _ | ⟨a, i1⟩
  · rw [h1] at e2 v2; subst e2; subst e3; exact ⟨rfl, fun p h => by cases h⟩
  rw [h1] at e2 v2
  have a1 : a = x := v1 _ h1
  subst a1
  rcases h2 : rdW l i1 with _ | ⟨b, i2⟩
  · simp only [pl, Option.map_some, Option.bind_some, h2] at e2 v2; subst e2; subst e3; simp only [Option.bind_some, h2, Option.bind_none]; exact ⟨rfl, fun p h => by cases h⟩
  simp only [pl, Option.map_some, Option.bind_some, h2] at e2 v2
  have a2 : b = y := v2 _ rfl
  subst a2; subst e2
  rcases h3 : rdN l i2 with _ | ⟨c, i3⟩
  · simp only [pl, Option.map_some, Option.bind_some, h3] at e3 v3; subst e3; simp only [Option.bind_some, h2, h3, Option.bind_none]; exact ⟨rfl, fun p h => by cases h⟩
  simp only [pl, Option.map_some, Option.bind_some, h3] at e3 v3
  have a3 : c = z := v3 _ rfl
  subst a3; subst e3
  simp only [Option.bind_some, h2, h3]
  exact ⟨rfl, fun p h => by cases h; rfl⟩
theorem fn_comp {l : List Int} {i n : Int} {t : ByteArray} {p m : List Int} {d : List S50} {s1 s2 s3 s4 s6 : Option Int} (e1 : s1 = pl (rdT l i)) (v1 : Vs (rdT l i) t) (e2 : s2 = pl (Option.bind s1 (rdRows (rdN l) 8 l))) (v2 : Vs (Option.bind s1 (rdRows (rdN l) 8 l)) p)
    (e3 : s3 = pl (Option.bind s2 (rdN l))) (v3 : Vs (Option.bind s2 (rdN l)) n) (e4 : s4 = pl (Option.bind s3 (rdRows (rdN l) 32 l))) (v4 : Vs (Option.bind s3 (rdRows (rdN l) 32 l)) m)
    (e6 : s6 = pl (Option.bind s4 (rdRows (rdC l) 32768 l))) (v6 : Vs (Option.bind s4 (rdRows (rdC l) 32768 l)) d) : s6 = pl (rdF l i) ∧ Vs (rdF l i) ⟨t, p, n, p ++ m, d⟩ := by
  subst e1; unfold rdF
  rcases h1 : rdT l i with _ | ⟨a, i1⟩
  · rw [h1] at e2 v2; subst e2; subst e3; subst e4; subst e6; exact ⟨rfl, fun p h => by cases h⟩
  rw [h1] at e2 v2
  have a1 : a = t := v1 _ h1
  subst a1
  rcases h2 : rdRows (rdN l) 8 l i1 with _ | ⟨b, i2⟩
  · simp only [pl, Option.map_some, Option.bind_some, h2] at e2 v2; subst e2; subst e3; subst e4; subst e6; simp only [Option.bind_some, h2, Option.bind_none]; exact ⟨rfl, fun p h => by cases h⟩
  simp only [pl, Option.map_some, Option.bind_some, h2] at e2 v2
  have a2 : b = p := v2 _ rfl
  subst a2; subst e2
  rcases h3 : rdN l i2 with _ | ⟨c, i3⟩
  · simp only [pl, Option.map_some, Option.bind_some, h3] at e3 v3; subst e3; subst e4; subst e6; simp only [Option.bind_some, h2, h3, Option.bind_none]; exact ⟨rfl, fun p h => by cases h⟩
  simp only [pl, Option.map_some, Option.bind_some, h3] at e3 v3
  have a3 : c = n := v3 _ rfl
  subst a3; subst e3
  rcases h4 : rdRows (rdN l) 32 l i3 with _ | ⟨q, i4⟩
  · simp only [pl, Option.map_some, Option.bind_some, h4] at e4 v4; subst e4; subst e6; simp only [Option.bind_some, h2, h3, h4, Option.bind_none]; exact ⟨rfl, fun p h => by cases h⟩
  simp only [pl, Option.map_some, Option.bind_some, h4] at e4 v4
  have a4 : q = m := v4 _ rfl
  subst a4; subst e4
  rcases h5 : rdRows (rdC l) 32768 l i4 with _ | ⟨r, i5⟩
  · simp only [pl, Option.map_some, Option.bind_some, h5] at e6 v6; subst e6; simp only [Option.bind_some, h2, h3, h4, h5, Option.bind_none]; exact ⟨rfl, fun p h => by cases h⟩
  simp only [pl, Option.map_some, Option.bind_some, h5] at e6 v6
  have a5 : r = d := v6 _ rfl
  subst a5; subst e6
  simp only [Option.bind_some, h2, h3, h4, h5]
  exact ⟨rfl, fun p h => by cases h; rfl⟩
set_option maxHeartbeats 8000000 in
set_option maxRecDepth 100000 in
theorem dr_fn (B : Nat) (A : Option Addr) (c : Nat) (l : List Int) (i : Int) (w : World) (hb : Ds w B A l.length c (some i))
    (hr : ∀ W', Kept w W' (fun k => k = B) → Kd.C (Kd.int .u8) W' A l.length l) (hc : l.length ≤ c) (hbt : ∀ x ∈ l, 0 ≤ x ∧ x < 256) (hl : l.length ≤ 140737488355318) (hs : Sr l (some i)) :
    Calls Tryd.prog 50 #[.pointer (some ⟨B, 0, none⟩)] w fun e w' => ∃ (A1 : Option Addr) (c1 : Nat) (A3 : Option Addr) (c3 : Nat) (A4 : Option Addr) (c4 : Nat) (y : S54), e = .returned (.agg #[.string y.f0, .slice A1 y.f1.length c1, .int .i64 y.f2, .slice A3 y.f3.length c3, .slice A4 y.f4.length c4]) ∧
      Kd.R (Kd.int .i64) 3 w' w.heap.size (fun k => w.heap.size ≤ k) (.slice A1 y.f1.length c1) y.f1 ∧ Kd.R (Kd.int .i64) 3 w' w.heap.size (fun k => w.heap.size ≤ k) (.slice A3 y.f3.length c3) y.f3 ∧ Kd.R k50 50 w' w.heap.size (fun k => w.heap.size ≤ k) (.slice A4 y.f4.length c4) y.f4 ∧
      fnIn y ∧ Kp w w' (fun k => k = B) ∧ Ds w' B A l.length c (pl (rdF l i)) ∧ Vs (rdF l i) y := by
  have RB := Aside0.mk hb; have HC := Aside0.mk hr; have HCC := Aside0.mk hc; have HBT := Aside0.mk hbt; have HL := Aside0.mk hl; have HSr := Aside0.mk hs
  have HBw : Aside0 (B < w.heap.size) := ⟨hb.lt⟩
  have HK : Aside0 (Kp w w (fun k => k = B)) := ⟨Kp.refl _ _⟩
  have hi := hs i rfl
  obtain ⟨T, hT⟩ : ∃ T, T = rtF l i := ⟨_, rfl⟩
  have HCT := Aside0.mk (fun W h => rReadText_calls A c l i W h hc hbt hl (by omega) (by omega))
  rw [← hT] at HCT
  have HTS : Aside0 (T.1.size ≤ 65536) := ⟨by rw [hT]; exact rtF_size hbt i⟩
  have HT : Aside0 (rdT l i = if T.2.2 = 0 then some (T.1, T.2.1) else none) := ⟨by rw [hT]; rfl⟩
  clear hb hr hc hbt hl hs hi hT
  obtain ⟨t, j2, e2⟩ := T
  obtain ⟨fb, zfb⟩ : ∃ fb, (e2 != 0) = fb := ⟨_, rfl⟩
  go_enter Tryd.func50, Tryd.ntmps50
  go_wp2_with (first | ((with_reducible refine gate_dst (N := 2) rfl ?_); refine box_event ?hg (N := 2) ?hd (cs := #[.string (⟨#[]⟩ : ByteArray), .slice none 0 0, .int .i64 0, .slice none 0 0, .slice none 0 0]) (t := 54) ?hr ?_; (case hd => rfl); (case hg => rfl); (case hr => first | (go_simp; done) | (go_simp; rfl)); intro g hg_ W1 hbox_ hb_; have GEg := Aside0.mk (by rw [hg_]; exact HK.out.1 : w.heap.size ≤ g); have NBg : Aside0 (g ≠ B) := ⟨(by rw [hg_]; exact Ne.symm (Nat.ne_of_lt (Ds.lt RB.out)))⟩; clear hg_; have n_ := Aside0.mk (Ds.below RB.out hb_); clear RB; have RB := n_; clear n_; have n_ := Aside0.mk (Kp.below HK.out hb_); clear HK; have HK := n_; clear n_; (try clear hcB0 hcB1 hcB2 hfB1 hfB2); have hcB0 : W1.cell? ⟨B, 0, none⟩ = some (.slice A l.length c) := (blk_cell (Ds.good RB.out) 0).trans rfl; have hcB1 : W1.cell? ⟨B, 1, none⟩ = some (.int .i64 i) := (blk_cell (Ds.good RB.out) 1).trans rfl; have hcB2 : W1.cell? ⟨B, 2, none⟩ = some (.bool false) := (blk_cell (Ds.good RB.out) 2).trans rfl; have hfB1 := blk_frozen (Ds.good RB.out) 1; have hfB2 := blk_frozen (Ds.good RB.out) 2; have BKg := Aside0.mk hbox_; clear hbox_ hb_) | ((with_reducible refine gate_dst (N := 3) rfl ?_); refine box_event ?hg (N := 3) ?hd (cs := #[.string (⟨#[]⟩ : ByteArray), .slice none 0 0, .int .i64 0, .slice none 0 0, .slice none 0 0]) (t := 54) ?hr ?_; (case hd => rfl); (case hg => rfl); (case hr => first | (go_simp; done) | (go_simp; rfl)); intro h hg_ W2 hbox_ hb_; have GEh := Aside0.mk (by rw [hg_]; exact HK.out.1 : w.heap.size ≤ h); have NBh : Aside0 (h ≠ B) := ⟨(by rw [hg_]; exact Ne.symm (Nat.ne_of_lt (Ds.lt RB.out)))⟩; have NEg_h : Aside0 (g ≠ h) := ⟨by rw [hg_]; exact Nat.ne_of_lt (blk_lt BKg.out)⟩; have n_ := Aside0.mk (blk_below BKg.out hb_); clear BKg; have BKg := n_; clear n_; clear hg_; have n_ := Aside0.mk (Ds.below RB.out hb_); clear RB; have RB := n_; clear n_; have n_ := Aside0.mk (Kp.below HK.out hb_); clear HK; have HK := n_; clear n_; (try clear hcB0 hcB1 hcB2 hfB1 hfB2); have hcB0 : W2.cell? ⟨B, 0, none⟩ = some (.slice A l.length c) := (blk_cell (Ds.good RB.out) 0).trans rfl; have hcB1 : W2.cell? ⟨B, 1, none⟩ = some (.int .i64 i) := (blk_cell (Ds.good RB.out) 1).trans rfl; have hcB2 : W2.cell? ⟨B, 2, none⟩ = some (.bool false) := (blk_cell (Ds.good RB.out) 2).trans rfl; have hfB1 := blk_frozen (Ds.good RB.out) 1; have hfB2 := blk_frozen (Ds.good RB.out) 2; have BKh := Aside0.mk hbox_; clear hbox_ hb_; have hch_0 : W2.cell? ⟨h, 0, none⟩ = some (.string (⟨#[]⟩ : ByteArray)) := (blk_cell BKh.out 0).trans rfl; have hfh_0 := blk_frozen BKh.out 0; have hch_1 : W2.cell? ⟨h, 1, none⟩ = some (.slice none 0 0) := (blk_cell BKh.out 1).trans rfl; have hfh_1 := blk_frozen BKh.out 1; have hch_2 : W2.cell? ⟨h, 2, none⟩ = some (.int .i64 0) := (blk_cell BKh.out 2).trans rfl; have hfh_2 := blk_frozen BKh.out 2; have hch_3 : W2.cell? ⟨h, 3, none⟩ = some (.slice none 0 0) := (blk_cell BKh.out 3).trans rfl; have hfh_3 := blk_frozen BKh.out 3; have hch_4 : W2.cell? ⟨h, 4, none⟩ = some (.slice none 0 0) := (blk_cell BKh.out 4).trans rfl; have hfh_4 := blk_frozen BKh.out 4))
  go_quiet ((go_at_call 77; refine (HCT.out _ (by (try (with_reducible refine Kd.C_drewN ?_ _)); exact HC.out _ HK.out.kept)).mono ?_; rintro e_ w_ ⟨rfl, rfl⟩; exact ⟨rfl, _, rfl⟩))
  go_wp2_with fail
  have n_ : Aside0 (((((W2.drewN nq).setCell ⟨B, 2, none⟩ (.bool fb)).setCell ⟨B, 1, none⟩ (.int .i64 j2)).setCell ⟨h, 0, none⟩ (.string t)).heap[h]? = some (.cells #[.string t, .slice none 0 0, .int .i64 0, .slice none 0 0, .slice none 0 0] 54 (0, 0))) := ⟨by refine blk_put (cs := #[.string (⟨#[]⟩ : ByteArray), .slice none 0 0, .int .i64 0, .slice none 0 0, .slice none 0 0]) ?_ 0 _ rfl; exact blk_far (blk_far (blk_drewN BKh.out _) NBh.out _) NBh.out _⟩
  have m_ : Aside0 (((((W2.drewN nq).setCell ⟨B, 2, none⟩ (.bool fb)).setCell ⟨B, 1, none⟩ (.int .i64 j2)).setCell ⟨h, 0, none⟩ (.string t)).heap[g]? = some (.cells #[.string (⟨#[]⟩ : ByteArray), .slice none 0 0, .int .i64 0, .slice none 0 0, .slice none 0 0] 54 (0, 0))) := ⟨blk_far (blk_far (blk_far (blk_drewN BKg.out _) NBg.out _) NBg.out _) NEg_h.out _⟩
  have o_ : Aside0 (Ds ((((W2.drewN nq).setCell ⟨B, 2, none⟩ (.bool fb)).setCell ⟨B, 1, none⟩ (.int .i64 j2)).setCell ⟨h, 0, none⟩ (.string t)) B A l.length c (pl (rdT l i))) := ⟨by
    refine Ds.far (p := ⟨h, 0, none⟩) ⟨j2, fb, Db.put (blk_drewN (Ds.good RB.out) _) _ _, ?_⟩ NBh.out.symm _
    rw [HT.out]
    by_cases hx : e2 = 0
    · rw [if_pos hx]; exact ⟨by rw [← zfb, hx]; rfl, rfl⟩
    · rw [if_neg hx]; show fb = true; rw [← zfb]; simp [hx]⟩
  have q_ : Aside0 (Kp w ((((W2.drewN nq).setCell ⟨B, 2, none⟩ (.bool fb)).setCell ⟨B, 1, none⟩ (.int .i64 j2)).setCell ⟨h, 0, none⟩ (.string t)) (fun k => k = B)) := ⟨Kp.setCell (p := ⟨h, 0, none⟩) (Kp.setCell (p := ⟨B, 1, none⟩) (Kp.setCell (p := ⟨B, 2, none⟩) (HK.out.below (pw_below_drewN (Below.refl _ _) _)) (.inl rfl) _) (.inl rfl) _) (.inr GEh.out) _⟩
  have HVt : Aside0 (Vs (rdT l i) t) := ⟨by rw [HT.out]; intro p hp; split at hp <;> cases hp; rfl⟩
  clear hcB0 hcB1 hcB2 hfB1 hfB2 BKh BKg RB HK zfb; have BKh := n_; have BKg := m_; have RB := o_; have HK := q_; clear n_ m_ o_ q_
  clear hch_0 hfh_0
  clear hch_1 hfh_1
  clear hch_2 hfh_2
  clear hch_3 hfh_3
  clear hch_4 hfh_4
  generalize (((W2.drewN nq).setCell ⟨B, 2, none⟩ (.bool fb)).setCell ⟨B, 1, none⟩ (.int .i64 j2)).setCell ⟨h, 0, none⟩ (.string t) = W3 at *
  obtain ⟨s1, hs1⟩ : ∃ s_, s_ = pl (rdT l i) := ⟨_, rfl⟩
  rw [← hs1] at RB
  have n_ : Aside0 (Sr l s1) := ⟨by rw [hs1]; exact Sr.text HBT.out⟩
  have HSs1 := Aside0.mk hs1; clear hs1 HSr; have HSr := n_; clear n_ HT HCT
  have hch_0 : W3.cell? ⟨h, 0, none⟩ = some (.string t) := (blk_cell BKh.out 0).trans rfl
  have hfh_0 := blk_frozen BKh.out 0
  have hch_1 : W3.cell? ⟨h, 1, none⟩ = some (.slice none 0 0) := (blk_cell BKh.out 1).trans rfl
  have hfh_1 := blk_frozen BKh.out 1
  have hch_2 : W3.cell? ⟨h, 2, none⟩ = some (.int .i64 0) := (blk_cell BKh.out 2).trans rfl
  have hfh_2 := blk_frozen BKh.out 2
  have hch_3 : W3.cell? ⟨h, 3, none⟩ = some (.slice none 0 0) := (blk_cell BKh.out 3).trans rfl
  have hfh_3 := blk_frozen BKh.out 3
  have hch_4 : W3.cell? ⟨h, 4, none⟩ = some (.slice none 0 0) := (blk_cell BKh.out 4).trans rfl
  have hfh_4 := blk_frozen BKh.out 4
  refine (dr_row B A c l s1 8 _ ⟨by decide, by decide⟩ RB.out (fun W' hk_ => HC.out W' (Kept.then_ HK.out.kept hk_ (fun _ h => .inl h))) HCC.out HBT.out HL.out HSr.out).mono ?_
  rintro e_ W4 ⟨v_, x0, rfl, ho_, hlen_, hk_, hd_, hv_⟩
  obtain ⟨A0_, c0_, rfl⟩ := Kd.R_slice ho_
  have HV0 := Aside0.mk hv_; have HLE0 := Aside0.mk hlen_; have HO1_ := Aside0.mk (Kd.R_mono (Kd.R_lower ho_ HK.out.1) (fun k_ h_ => (Nat.le_trans HK.out.1 h_ : w.heap.size ≤ k_))); clear hv_ hlen_ ho_
  obtain ⟨s2, hs2⟩ : ∃ s_, s_ = pl (Option.bind s1 (rdRows (rdN l) 8 l)) := ⟨_, rfl⟩
  rw [← hs2] at hd_
  have n_ : Aside0 (Sr l s2) := ⟨by rw [hs2]; exact Sr.row HBT.out HSr.out (fun i x j _ h => rdN_rng HBT.out h)⟩
  have HSs2 := Aside0.mk hs2; clear hs2 HSr; have HSr := n_; clear n_
  have n_ := Aside0.mk (blk_kept BKg.out hk_.kept NBg.out); clear BKg; have BKg := n_; clear n_
  have n_ := Aside0.mk (blk_kept BKh.out hk_.kept NBh.out); clear BKh; have BKh := n_; clear n_
  clear hch_0 hfh_0
  clear hch_1 hfh_1
  clear hch_2 hfh_2
  clear hch_3 hfh_3
  clear hch_4 hfh_4
  have n_ := Aside0.mk (HK.out.then_ hk_ (fun _ h => .inl h)); clear HK RB; have HK := n_; have RB := Aside0.mk hd_; clear n_ hk_ hd_
  have hch_1 : W4.cell? ⟨h, 1, none⟩ = some (.slice none 0 0) := (blk_cell BKh.out 1).trans rfl
  have hfh_1 := blk_frozen BKh.out 1
  have HO1 := HO1_; clear HO1_
  go_wp2_with fail
  have n_ : Aside0 ((W4.setCell ⟨h, 1, none⟩ (.slice A0_ x0.length c0_)).heap[h]? = some (.cells #[.string t, .slice A0_ x0.length c0_, .int .i64 0, .slice none 0 0, .slice none 0 0] 54 (0, 0))) := ⟨by refine blk_put (cs := #[.string t, .slice none 0 0, .int .i64 0, .slice none 0 0, .slice none 0 0]) ?_ 1 _ rfl; exact BKh.out⟩
  have m_ : Aside0 ((W4.setCell ⟨h, 1, none⟩ (.slice A0_ x0.length c0_)).heap[g]? = some (.cells #[.string (⟨#[]⟩ : ByteArray), .slice none 0 0, .int .i64 0, .slice none 0 0, .slice none 0 0] 54 (0, 0))) := ⟨(blk_far BKg.out NEg_h.out _)⟩; clear BKg; have BKg := m_; clear m_
  have m_ : Aside0 (Ds (W4.setCell ⟨h, 1, none⟩ (.slice A0_ x0.length c0_)) B A l.length c s2) := ⟨(Ds.far (p := ⟨h, 1, none⟩) RB.out NBh.out.symm _)⟩; have o_ : Aside0 (Kp w (W4.setCell ⟨h, 1, none⟩ (.slice A0_ x0.length c0_)) (fun k => k = B)) := ⟨(Kp.setCell (p := ⟨h, 1, none⟩) HK.out (.inr GEh.out) _)⟩
  have q_ : Aside0 (Kd.R (Kd.int .i64) 3 (W4.setCell ⟨h, 1, none⟩ (.slice A0_ x0.length c0_)) w.heap.size (fun k => w.heap.size ≤ k) (.slice A0_ x0.length c0_) x0) := ⟨(Kd.R_set HO1.out BKh.out (by decide) 1 _)⟩; clear HO1; have HO1 := q_; clear q_
  clear BKh RB HK; have BKh := n_; have RB := m_; have HK := o_; clear n_ m_ o_
  clear hch_1 hfh_1
  generalize (W4.setCell ⟨h, 1, none⟩ (.slice A0_ x0.length c0_)) = W5 at *
  have hch_2 : W5.cell? ⟨h, 2, none⟩ = some (.int .i64 0) := (blk_cell BKh.out 2).trans rfl
  have hfh_2 := blk_frozen BKh.out 2
  refine (dr_nat B A c l s2 _ RB.out (HC.out _ HK.out.kept) HCC.out HBT.out HL.out HSr.out).mono ?_
  rintro e_ W6 ⟨x1, rfl, hk_, hd_, hv_⟩
  have HV1 := Aside0.mk hv_; clear hv_
  obtain ⟨s3, hs3⟩ : ∃ s_, s_ = pl (Option.bind s2 (rdN l)) := ⟨_, rfl⟩
  rw [← hs3] at hd_
  have n_ : Aside0 (Sr l s3) := ⟨by rw [hs3]; exact Sr.nat HBT.out⟩
  have HSs3 := Aside0.mk hs3; clear hs3 HSr; have HSr := n_; clear n_
  have n_ := Aside0.mk (blk_kept BKg.out hk_.kept NBg.out); clear BKg; have BKg := n_; clear n_
  have n_ := Aside0.mk (blk_kept BKh.out hk_.kept NBh.out); clear BKh; have BKh := n_; clear n_
  clear hch_2 hfh_2
  have n_ := Aside0.mk (Kd.R_kept HO1.out hk_.kept (fun k_ h_ e_ => by have := HBw.out; have := (show w.heap.size ≤ k_ from by first | exact h_ | exact h_.1); omega)); clear HO1; have HO1 := n_; clear n_
  have n_ := Aside0.mk (HK.out.then_ hk_ (fun _ h => .inl h)); clear HK RB; have HK := n_; have RB := Aside0.mk hd_; clear n_ hk_ hd_
  have hch_2 : W6.cell? ⟨h, 2, none⟩ = some (.int .i64 0) := (blk_cell BKh.out 2).trans rfl
  have hfh_2 := blk_frozen BKh.out 2
  go_wp2_with fail
  have n_ : Aside0 ((W6.setCell ⟨h, 2, none⟩ (.int .i64 x1)).heap[h]? = some (.cells #[.string t, .slice A0_ x0.length c0_, .int .i64 x1, .slice none 0 0, .slice none 0 0] 54 (0, 0))) := ⟨by refine blk_put (cs := #[.string t, .slice A0_ x0.length c0_, .int .i64 0, .slice none 0 0, .slice none 0 0]) ?_ 2 _ rfl; exact BKh.out⟩
  have m_ : Aside0 ((W6.setCell ⟨h, 2, none⟩ (.int .i64 x1)).heap[g]? = some (.cells #[.string (⟨#[]⟩ : ByteArray), .slice none 0 0, .int .i64 0, .slice none 0 0, .slice none 0 0] 54 (0, 0))) := ⟨(blk_far BKg.out NEg_h.out _)⟩; clear BKg; have BKg := m_; clear m_
  have m_ : Aside0 (Ds (W6.setCell ⟨h, 2, none⟩ (.int .i64 x1)) B A l.length c s3) := ⟨(Ds.far (p := ⟨h, 2, none⟩) RB.out NBh.out.symm _)⟩; have o_ : Aside0 (Kp w (W6.setCell ⟨h, 2, none⟩ (.int .i64 x1)) (fun k => k = B)) := ⟨(Kp.setCell (p := ⟨h, 2, none⟩) HK.out (.inr GEh.out) _)⟩
  have q_ : Aside0 (Kd.R (Kd.int .i64) 3 (W6.setCell ⟨h, 2, none⟩ (.int .i64 x1)) w.heap.size (fun k => w.heap.size ≤ k) (.slice A0_ x0.length c0_) x0) := ⟨(Kd.R_set HO1.out BKh.out (by decide) 2 _)⟩; clear HO1; have HO1 := q_; clear q_
  clear BKh RB HK; have BKh := n_; have RB := m_; have HK := o_; clear n_ m_ o_
  clear hch_2 hfh_2
  generalize (W6.setCell ⟨h, 2, none⟩ (.int .i64 x1)) = W7 at *
  have hch_1 : W7.cell? ⟨h, 1, none⟩ = some (.slice A0_ x0.length c0_) := (blk_cell BKh.out 1).trans rfl
  have hfh_1 := blk_frozen BKh.out 1
  have hch_3 : W7.cell? ⟨h, 3, none⟩ = some (.slice none 0 0) := (blk_cell BKh.out 3).trans rfl
  have hfh_3 := blk_frozen BKh.out 3
  refine (dr_row B A c l s3 32 _ ⟨by decide, by decide⟩ RB.out (fun W' hk_ => HC.out W' (Kept.then_ HK.out.kept hk_ (fun _ h => .inl h))) HCC.out HBT.out HL.out HSr.out).mono ?_
  rintro e_ W8 ⟨v_, x2, rfl, ho_, hlen_, hk_, hd_, hv_⟩
  obtain ⟨A2_, c2_, rfl⟩ := Kd.R_slice ho_
  have HV2 := Aside0.mk hv_; have HLE2 := Aside0.mk hlen_; have HO3_ := Aside0.mk (Kd.R_mono (Kd.R_lower ho_ HK.out.1) (fun k_ h_ => (Nat.le_trans HK.out.1 h_ : w.heap.size ≤ k_))); clear hv_ hlen_ ho_
  obtain ⟨s4, hs4⟩ : ∃ s_, s_ = pl (Option.bind s3 (rdRows (rdN l) 32 l)) := ⟨_, rfl⟩
  rw [← hs4] at hd_
  have n_ : Aside0 (Sr l s4) := ⟨by rw [hs4]; exact Sr.row HBT.out HSr.out (fun i x j _ h => rdN_rng HBT.out h)⟩
  have HSs4 := Aside0.mk hs4; clear hs4 HSr; have HSr := n_; clear n_
  have n_ := Aside0.mk (blk_kept BKg.out hk_.kept NBg.out); clear BKg; have BKg := n_; clear n_
  have n_ := Aside0.mk (blk_kept BKh.out hk_.kept NBh.out); clear BKh; have BKh := n_; clear n_
  clear hch_1 hfh_1
  clear hch_3 hfh_3
  have n_ := Aside0.mk (Kd.R_kept HO1.out hk_.kept (fun k_ h_ e_ => by have := HBw.out; have := (show w.heap.size ≤ k_ from by first | exact h_ | exact h_.1); omega)); clear HO1; have HO1 := n_; clear n_
  have n_ := Aside0.mk (HK.out.then_ hk_ (fun _ h => .inl h)); clear HK RB; have HK := n_; have RB := Aside0.mk hd_; clear n_ hk_ hd_
  have hch_1 : W8.cell? ⟨h, 1, none⟩ = some (.slice A0_ x0.length c0_) := (blk_cell BKh.out 1).trans rfl
  have hfh_1 := blk_frozen BKh.out 1
  have hch_3 : W8.cell? ⟨h, 3, none⟩ = some (.slice none 0 0) := (blk_cell BKh.out 3).trans rfl
  have hfh_3 := blk_frozen BKh.out 3
  have HO3 := HO3_; clear HO3_
  have q_ := Aside0.mk (Kd.R_mono (Kd.R_bound HO1.out) (fun k_ h_ => (⟨h_.1, h_.2.2.1⟩ : w.heap.size ≤ k_ ∧ k_ < W8.heap.size))); clear HO1; have HO1 := q_; clear q_
  have q_ := Aside0.mk (Kd.R_mono (Kd.R_bound HO3.out) (fun k_ h_ => (⟨h_.1, h_.2.2.1⟩ : w.heap.size ≤ k_ ∧ k_ < W8.heap.size))); clear HO3; have HO3 := q_; clear q_
  have HK0 := Aside0.mk HK.out.1
  go_wp2_with (first | ((with_reducible refine gate_dst (N := 48) rfl ?_); refine Kd.R_lit (Kd.int .i64) _ 3 ?hg (N := 48) ?hd (xs := ([] : List Int)) (inner := []) (ok := fun _ => True) (okp := fun _ => True) ?hr ?hp (fun _ hk => hk) trivial (Below.refl _ _) (Nat.le_refl _) (by simp) ?_; (case hd => rfl); (case hg => rfl); (case hr => first | (go_simp; done) | (go_simp; rfl)); (case hp => exact (Reps.none _ _)); intro v5 WA ho_ hb_ hg_ hnew_; clear hg_ hnew_; have n_ := Aside0.mk (blk_below BKg.out hb_); clear BKg; have BKg := n_; clear n_; have n_ := Aside0.mk (blk_below BKh.out hb_); clear BKh; have BKh := n_; clear n_; clear hch_1 hfh_1; clear hch_3 hfh_3; have n_ := Aside0.mk (Kd.R_below HO1.out hb_); clear HO1; have HO1 := n_; clear n_; have n_ := Aside0.mk (Kd.R_below HO3.out hb_); clear HO3; have HO3 := n_; clear n_; have n_ := Aside0.mk (Ds.below RB.out hb_); have m_ := Aside0.mk (Kp.below HK.out hb_); clear RB HK; have RB := n_; have HK := m_; clear n_ m_; have hch_1 : WA.cell? ⟨h, 1, none⟩ = some (.slice A0_ x0.length c0_) := (blk_cell BKh.out 1).trans rfl; have hfh_1 := blk_frozen BKh.out 1; have hch_3 : WA.cell? ⟨h, 3, none⟩ = some (.slice none 0 0) := (blk_cell BKh.out 3).trans rfl; have hfh_3 := blk_frozen BKh.out 3; have HSA := Aside0.mk hb_.size; have HO5 := Aside0.mk ho_; clear ho_ hb_) | ((with_reducible refine gate_builtin (b := .append) (xs := #[.tmp 48, .tmp 50]) rfl ?_); at_builtin; refine Kd.R_append_rows (Kd.int .i64) (w0 := WA) W8.heap.size rfl (.tmp 48) (.tmp 50) 52 3 (.int .i64 0) 8 rfl Tryd.underlying52 info3 rfl (by decide) (by omega) v5 [] x0 _ _ _ (fun _ => True) (fun _ => False) rfl rfl ?aO ?aR (fun _ _ h => h) (fun _ h => h.elim) (fun _ _ => trivial) ?aB ?aS ?aL ?_; (case aR => exact (Kd.R_reads' HO1.out).2.2); (case aB => exact Below.refl _ _); (case aO => exact HO5.out); (case aS => exact Nat.le_trans (Nat.le_refl _) HSA.out); (case aL => (have h1_ := HLE0.out; have h2_ := HLE2.out; simp only [List.length_nil, List.length_append]; omega)); intro v6 WC ho_ hb_ hg_ hat_; have HSC := Aside0.mk (Nat.le_trans HSA.out hb_.size); clear hb_ hat_; have n_ := Aside0.mk (blk_grown BKg.out hg_ (Kd.R_ne HO5.out BKg.out (by decide))); clear BKg; have BKg := n_; clear n_; have n_ := Aside0.mk (blk_grown BKh.out hg_ (Kd.R_ne HO5.out BKh.out (by decide))); clear BKh; have BKh := n_; clear n_; clear hch_1 hfh_1; clear hch_3 hfh_3; have n_ := Aside0.mk (Kd.R_grown HO1.out hg_ (fun k_ h_ e_ => by have := Kd.R_base HO5.out k_ e_.symm; have := h_.2; omega)); clear HO1; have HO1 := n_; clear n_; have n_ := Aside0.mk (Kd.R_grown HO3.out hg_ (fun k_ h_ e_ => by have := Kd.R_base HO5.out k_ e_.symm; have := h_.2; omega)); clear HO3; have HO3 := n_; clear n_; have n_ := Aside0.mk (Ds.keep RB.out (hg_.block B (Ds.lt RB.out) (fun e_ => by have := Kd.R_base HO5.out B e_.symm; have := HBw.out; have := HK0.out; omega))); have m_ := Aside0.mk (Kp.of_grown hg_ HK.out (fun k_ h_ => .inr (Nat.le_trans HK0.out (Kd.R_base HO5.out k_ h_)))); clear RB HK; have RB := n_; have HK := m_; clear n_ m_; have hch_1 : WC.cell? ⟨h, 1, none⟩ = some (.slice A0_ x0.length c0_) := (blk_cell BKh.out 1).trans rfl; have hfh_1 := blk_frozen BKh.out 1; have hch_3 : WC.cell? ⟨h, 3, none⟩ = some (.slice none 0 0) := (blk_cell BKh.out 3).trans rfl; have hfh_3 := blk_frozen BKh.out 3; clear HO5; have HO5 := Aside0.mk ho_; clear ho_ hg_) | ((with_reducible refine gate_builtin (b := .append) (xs := #[.tmp 51, .tmp 52]) rfl ?_); at_builtin; refine Kd.R_append_rows (Kd.int .i64) (w0 := WC) W8.heap.size rfl (.tmp 51) (.tmp 52) 52 3 (.int .i64 0) 8 rfl Tryd.underlying52 info3 rfl (by decide) (by omega) v6 ([] ++ x0) x2 _ _ _ (fun _ => True) (fun _ => False) rfl rfl ?aO ?aR (fun _ _ h => h) (fun _ h => h.elim) (fun _ _ => trivial) ?aB ?aS ?aL ?_; (case aR => exact (Kd.R_reads' HO3.out).2.2); (case aB => exact Below.refl _ _); (case aO => exact HO5.out); (case aS => exact Nat.le_trans (Nat.le_refl _) HSC.out); (case aL => (have h1_ := HLE0.out; have h2_ := HLE2.out; simp only [List.length_nil, List.length_append]; omega)); intro v7 WD ho_ hb_ hg_ hat_; clear hb_ hat_; have n_ := Aside0.mk (blk_grown BKg.out hg_ (Kd.R_ne HO5.out BKg.out (by decide))); clear BKg; have BKg := n_; clear n_; have n_ := Aside0.mk (blk_grown BKh.out hg_ (Kd.R_ne HO5.out BKh.out (by decide))); clear BKh; have BKh := n_; clear n_; clear hch_1 hfh_1; clear hch_3 hfh_3; have n_ := Aside0.mk (Kd.R_grown HO1.out hg_ (fun k_ h_ e_ => by have := Kd.R_base HO5.out k_ e_.symm; have := h_.2; omega)); clear HO1; have HO1 := n_; clear n_; have n_ := Aside0.mk (Kd.R_grown HO3.out hg_ (fun k_ h_ e_ => by have := Kd.R_base HO5.out k_ e_.symm; have := h_.2; omega)); clear HO3; have HO3 := n_; clear n_; have n_ := Aside0.mk (Ds.keep RB.out (hg_.block B (Ds.lt RB.out) (fun e_ => by have := Kd.R_base HO5.out B e_.symm; have := HBw.out; have := HK0.out; omega))); have m_ := Aside0.mk (Kp.of_grown hg_ HK.out (fun k_ h_ => .inr (Nat.le_trans HK0.out (Kd.R_base HO5.out k_ h_)))); clear RB HK; have RB := n_; have HK := m_; clear n_ m_; have hch_1 : WD.cell? ⟨h, 1, none⟩ = some (.slice A0_ x0.length c0_) := (blk_cell BKh.out 1).trans rfl; have hfh_1 := blk_frozen BKh.out 1; have hch_3 : WD.cell? ⟨h, 3, none⟩ = some (.slice none 0 0) := (blk_cell BKh.out 3).trans rfl; have hfh_3 := blk_frozen BKh.out 3; obtain ⟨y5, hy5⟩ : ∃ y, y = x0 ++ x2 := ⟨_, rfl⟩; rw [List.nil_append, ← hy5] at ho_; have HY5 := Aside0.mk hy5; clear hy5; obtain ⟨A5_, c5_, hv5_⟩ := Kd.R_slice ho_; subst hv5_; clear HO5; have HO5 := Aside0.mk ho_; clear ho_ hg_))
  have q_ : Aside0 (Kd.R (Kd.int .i64) 3 WD w.heap.size (fun k => w.heap.size ≤ k) (.slice A5_ y5.length c5_) y5) := ⟨Kd.R_lower (Kd.R_mono (Kd.R_bound HO5.out) (fun k_ h_ => Nat.le_trans HK0.out h_.2.1)) HK0.out⟩; clear HO5; have HO5 := q_; clear q_
  have n_ : Aside0 ((WD.setCell ⟨h, 3, none⟩ (.slice A5_ y5.length c5_)).heap[h]? = some (.cells #[.string t, .slice A0_ x0.length c0_, .int .i64 x1, .slice A5_ y5.length c5_, .slice none 0 0] 54 (0, 0))) := ⟨by refine blk_put (cs := #[.string t, .slice A0_ x0.length c0_, .int .i64 x1, .slice none 0 0, .slice none 0 0]) ?_ 3 _ rfl; exact BKh.out⟩
  have m_ : Aside0 ((WD.setCell ⟨h, 3, none⟩ (.slice A5_ y5.length c5_)).heap[g]? = some (.cells #[.string (⟨#[]⟩ : ByteArray), .slice none 0 0, .int .i64 0, .slice none 0 0, .slice none 0 0] 54 (0, 0))) := ⟨(blk_far BKg.out NEg_h.out _)⟩; clear BKg; have BKg := m_; clear m_
  have m_ : Aside0 (Ds (WD.setCell ⟨h, 3, none⟩ (.slice A5_ y5.length c5_)) B A l.length c s4) := ⟨(Ds.far (p := ⟨h, 3, none⟩) RB.out NBh.out.symm _)⟩; have o_ : Aside0 (Kp w (WD.setCell ⟨h, 3, none⟩ (.slice A5_ y5.length c5_)) (fun k => k = B)) := ⟨(Kp.setCell (p := ⟨h, 3, none⟩) HK.out (.inr GEh.out) _)⟩
  have q_ : Aside0 (Kd.R (Kd.int .i64) 3 (WD.setCell ⟨h, 3, none⟩ (.slice A5_ y5.length c5_)) w.heap.size (fun k => w.heap.size ≤ k ∧ k < W8.heap.size) (.slice A0_ x0.length c0_) x0) := ⟨(Kd.R_set HO1.out BKh.out (by decide) 3 _)⟩; clear HO1; have HO1 := q_; clear q_
  have q_ : Aside0 (Kd.R (Kd.int .i64) 3 (WD.setCell ⟨h, 3, none⟩ (.slice A5_ y5.length c5_)) w.heap.size (fun k => w.heap.size ≤ k ∧ k < W8.heap.size) (.slice A2_ x2.length c2_) x2) := ⟨(Kd.R_set HO3.out BKh.out (by decide) 3 _)⟩; clear HO3; have HO3 := q_; clear q_
  have q_ : Aside0 (Kd.R (Kd.int .i64) 3 (WD.setCell ⟨h, 3, none⟩ (.slice A5_ y5.length c5_)) w.heap.size (fun k => w.heap.size ≤ k) (.slice A5_ y5.length c5_) y5) := ⟨(Kd.R_set HO5.out BKh.out (by decide) 3 _)⟩; clear HO5; have HO5 := q_; clear q_
  clear BKh RB HK; have BKh := n_; have RB := m_; have HK := o_; clear n_ m_ o_
  clear hch_1 hfh_1
  clear hch_3 hfh_3
  generalize (WD.setCell ⟨h, 3, none⟩ (.slice A5_ y5.length c5_)) = W9 at *
  refine (dr_many B A c l s4 32768 _ ⟨by decide, by decide⟩ RB.out (HC.out _ HK.out.kept) HCC.out HBT.out HL.out HSr.out).mono ?_
  rintro e_ W10 ⟨x3, rfl, hn_, hk_, hd_, hv_, hz_⟩
  have HV3 := Aside0.mk hv_; have HN3 := Aside0.mk hn_; clear hv_ hz_ hn_
  obtain ⟨s5, hs5⟩ : ∃ s_, s_ = pl (rM 32768 (Option.bind s4 (rdN l))) := ⟨_, rfl⟩
  rw [← hs5] at hd_
  have n_ : Aside0 (Sr l s5) := ⟨by rw [hs5]; exact Sr.many (Sr.nat HBT.out)⟩
  have HSs5 := Aside0.mk hs5; clear hs5 HSr; have HSr := n_; clear n_
  have n_ := Aside0.mk (blk_kept BKg.out hk_.kept NBg.out); clear BKg; have BKg := n_; clear n_
  have n_ := Aside0.mk (blk_kept BKh.out hk_.kept NBh.out); clear BKh; have BKh := n_; clear n_
  have n_ := Aside0.mk (Kd.R_kept HO1.out hk_.kept (fun k_ h_ e_ => by have := HBw.out; have := (show w.heap.size ≤ k_ from by first | exact h_ | exact h_.1); omega)); clear HO1; have HO1 := n_; clear n_
  have n_ := Aside0.mk (Kd.R_kept HO3.out hk_.kept (fun k_ h_ e_ => by have := HBw.out; have := (show w.heap.size ≤ k_ from by first | exact h_ | exact h_.1); omega)); clear HO3; have HO3 := n_; clear n_
  have n_ := Aside0.mk (Kd.R_kept HO5.out hk_.kept (fun k_ h_ e_ => by have := HBw.out; have := (show w.heap.size ≤ k_ from by first | exact h_ | exact h_.1); omega)); clear HO5; have HO5 := n_; clear n_
  have n_ := Aside0.mk (HK.out.then_ hk_ (fun _ h => .inl h)); clear HK RB; have HK := n_; have RB := Aside0.mk hd_; clear n_ hk_ hd_
  have HRW : Aside0 (RowSt (rdC l) x3.toNat (Option.bind s4 (rdRows (rdC l) 32768 l)) s5 []) := ⟨by rw [rows_link HV3.out, ← HSs5.out]; exact RowSt.start⟩
  obtain ⟨R6, hR6⟩ : ∃ R, R = Option.bind s4 (rdRows (rdC l) 32768 l) := ⟨_, rfl⟩
  rw [← hR6] at HRW
  have HR6 := Aside0.mk hR6; clear hR6
  go_wp2_with fail
  clear HO3
  go_loopw [9] (fun vi wr => ∃ (k : Nat) (done : List S50) (A4 : Option Addr) (c4 : Nat) (sk : Option Int), vi = .int .i64 k ∧ Aside0 (k ≤ x3.toNat ∧ done.length = k) ∧ Aside0 (RowSt (rdC l) (x3.toNat - k) R6 sk done) ∧ Aside0 (Sr l sk) ∧ Aside0 (Kd.R k50 50 wr w.heap.size (fun k_ => w.heap.size ≤ k_) (.slice A4 done.length c4) done) ∧ Aside0 (Ds wr B A l.length c sk) ∧ Aside0 (Kp w wr (fun k_ => k_ = B)) ∧ Aside0 (wr.heap[g]? = some (.cells #[.string (⟨#[]⟩ : ByteArray), .slice none 0 0, .int .i64 0, .slice none 0 0, .slice none 0 0] 54 (0, 0))) ∧ Aside0 (wr.heap[h]? = some (.cells #[.string t, .slice A0_ x0.length c0_, .int .i64 x1, .slice A5_ y5.length c5_, .slice A4 done.length c4] 54 (0, 0))) ∧ Aside0 (Kd.R (Kd.int .i64) 3 wr w.heap.size (fun k => w.heap.size ≤ k ∧ k < W8.heap.size) (.slice A0_ x0.length c0_) x0) ∧ Aside0 (Kd.R (Kd.int .i64) 3 wr w.heap.size (fun k => w.heap.size ≤ k) (.slice A5_ y5.length c5_) y5)) (fun v _ => x3.toNat - (intOf v).toNat)
  case atStart => exact ⟨0, [], none, 0, _, rfl, ⟨Nat.zero_le _, rfl⟩, HRW, HSr, ⟨Kd.R_nil _ _ _ _ _⟩, RB, HK, BKg, BKh, HO1, HO5⟩
  case round =>
    clear HRW HSr RB HK BKg BKh HO1 HO5
    obtain ⟨k, done, A4, c4, sk, rfl, HKN, HRk, HSr, HO, RB, HK, BKg, BKh, HO1, HO5⟩ := hrel
    have hk := HKN.out
    have hnn := HN3.out
    have hch_0 : wr.cell? ⟨h, 0, none⟩ = some (.string t) := (blk_cell BKh.out 0).trans rfl
    have hfh_0 := blk_frozen BKh.out 0
    have hch_1 : wr.cell? ⟨h, 1, none⟩ = some (.slice A0_ x0.length c0_) := (blk_cell BKh.out 1).trans rfl
    have hfh_1 := blk_frozen BKh.out 1
    have hch_2 : wr.cell? ⟨h, 2, none⟩ = some (.int .i64 x1) := (blk_cell BKh.out 2).trans rfl
    have hfh_2 := blk_frozen BKh.out 2
    have hch_3 : wr.cell? ⟨h, 3, none⟩ = some (.slice A5_ y5.length c5_) := (blk_cell BKh.out 3).trans rfl
    have hfh_3 := blk_frozen BKh.out 3
    have hch_4 : wr.cell? ⟨h, 4, none⟩ = some (.slice A4 done.length c4) := (blk_cell BKh.out 4).trans rfl
    have hfh_4 := blk_frozen BKh.out 4
    by_cases hlt : k < x3.toNat
    · have z1 : decide ((k : Int) < x3) = true := decide_eq_true (by omega)
      have HLT := Aside0.mk hlt
      cases sk with
      | none =>
        obtain ⟨i_, hb_⟩ := RB.out.bad
        have hcB2 : wr.cell? ⟨B, 2, none⟩ = some (.bool true) := (blk_cell hb_ 2).trans rfl
        clear hlt hk hnn hb_
        skip
        have hcg_0 : wr.cell? ⟨g, 0, none⟩ = some (.string (⟨#[]⟩ : ByteArray)) := (blk_cell BKg.out 0).trans rfl
        have hfg_0 := blk_frozen BKg.out 0
        have hcg_1 : wr.cell? ⟨g, 1, none⟩ = some (.slice none 0 0) := (blk_cell BKg.out 1).trans rfl
        have hfg_1 := blk_frozen BKg.out 1
        have hcg_2 : wr.cell? ⟨g, 2, none⟩ = some (.int .i64 0) := (blk_cell BKg.out 2).trans rfl
        have hfg_2 := blk_frozen BKg.out 2
        have hcg_3 : wr.cell? ⟨g, 3, none⟩ = some (.slice none 0 0) := (blk_cell BKg.out 3).trans rfl
        have hfg_3 := blk_frozen BKg.out 3
        have hcg_4 : wr.cell? ⟨g, 4, none⟩ = some (.slice none 0 0) := (blk_cell BKg.out 4).trans rfl
        have hfg_4 := blk_frozen BKg.out 4
        go_wp2
        have n_ : Aside0 ((((((wr.setCell ⟨g, 0, none⟩ (.string t)).setCell ⟨g, 1, none⟩ (.slice A0_ x0.length c0_)).setCell ⟨g, 2, none⟩ (.int .i64 x1)).setCell ⟨g, 3, none⟩ (.slice A5_ y5.length c5_)).setCell ⟨g, 4, none⟩ (.slice A4 done.length c4)).heap[g]? = some (.cells #[.string t, .slice A0_ x0.length c0_, .int .i64 x1, .slice A5_ y5.length c5_, .slice A4 done.length c4] 54 (0, 0))) := ⟨by refine blk_put (cs := #[.string t, .slice A0_ x0.length c0_, .int .i64 x1, .slice A5_ y5.length c5_, .slice none 0 0]) ?_ 4 _ rfl; refine blk_put (cs := #[.string t, .slice A0_ x0.length c0_, .int .i64 x1, .slice none 0 0, .slice none 0 0]) ?_ 3 _ rfl; refine blk_put (cs := #[.string t, .slice A0_ x0.length c0_, .int .i64 0, .slice none 0 0, .slice none 0 0]) ?_ 2 _ rfl; refine blk_put (cs := #[.string t, .slice none 0 0, .int .i64 0, .slice none 0 0, .slice none 0 0]) ?_ 1 _ rfl; refine blk_put (cs := #[.string (⟨#[]⟩ : ByteArray), .slice none 0 0, .int .i64 0, .slice none 0 0, .slice none 0 0]) ?_ 0 _ rfl; exact BKg.out⟩
        have m_ : Aside0 ((((((wr.setCell ⟨g, 0, none⟩ (.string t)).setCell ⟨g, 1, none⟩ (.slice A0_ x0.length c0_)).setCell ⟨g, 2, none⟩ (.int .i64 x1)).setCell ⟨g, 3, none⟩ (.slice A5_ y5.length c5_)).setCell ⟨g, 4, none⟩ (.slice A4 done.length c4)).heap[h]? = some (.cells #[.string t, .slice A0_ x0.length c0_, .int .i64 x1, .slice A5_ y5.length c5_, .slice A4 done.length c4] 54 (0, 0))) := ⟨(blk_far (blk_far (blk_far (blk_far (blk_far BKh.out NEg_h.out.symm _) NEg_h.out.symm _) NEg_h.out.symm _) NEg_h.out.symm _) NEg_h.out.symm _)⟩; clear BKh; have BKh := m_; clear m_
        have m_ : Aside0 (Ds (((((wr.setCell ⟨g, 0, none⟩ (.string t)).setCell ⟨g, 1, none⟩ (.slice A0_ x0.length c0_)).setCell ⟨g, 2, none⟩ (.int .i64 x1)).setCell ⟨g, 3, none⟩ (.slice A5_ y5.length c5_)).setCell ⟨g, 4, none⟩ (.slice A4 done.length c4)) B A l.length c none) := ⟨(Ds.far (p := ⟨g, 4, none⟩) (Ds.far (p := ⟨g, 3, none⟩) (Ds.far (p := ⟨g, 2, none⟩) (Ds.far (p := ⟨g, 1, none⟩) (Ds.far (p := ⟨g, 0, none⟩) RB.out NBg.out.symm _) NBg.out.symm _) NBg.out.symm _) NBg.out.symm _) NBg.out.symm _)⟩; have o_ : Aside0 (Kp w (((((wr.setCell ⟨g, 0, none⟩ (.string t)).setCell ⟨g, 1, none⟩ (.slice A0_ x0.length c0_)).setCell ⟨g, 2, none⟩ (.int .i64 x1)).setCell ⟨g, 3, none⟩ (.slice A5_ y5.length c5_)).setCell ⟨g, 4, none⟩ (.slice A4 done.length c4)) (fun k => k = B)) := ⟨(Kp.setCell (p := ⟨g, 4, none⟩) (Kp.setCell (p := ⟨g, 3, none⟩) (Kp.setCell (p := ⟨g, 2, none⟩) (Kp.setCell (p := ⟨g, 1, none⟩) (Kp.setCell (p := ⟨g, 0, none⟩) HK.out (.inr GEg.out) _) (.inr GEg.out) _) (.inr GEg.out) _) (.inr GEg.out) _) (.inr GEg.out) _)⟩
        have q_ : Aside0 (Kd.R (Kd.int .i64) 3 (((((wr.setCell ⟨g, 0, none⟩ (.string t)).setCell ⟨g, 1, none⟩ (.slice A0_ x0.length c0_)).setCell ⟨g, 2, none⟩ (.int .i64 x1)).setCell ⟨g, 3, none⟩ (.slice A5_ y5.length c5_)).setCell ⟨g, 4, none⟩ (.slice A4 done.length c4)) w.heap.size (fun k => w.heap.size ≤ k ∧ k < W8.heap.size) (.slice A0_ x0.length c0_) x0) := ⟨(Kd.R_set (Kd.R_set (Kd.R_set (Kd.R_set (Kd.R_set HO1.out BKg.out (by decide) 0 _) (blk_put (cs := #[.string (⟨#[]⟩ : ByteArray), .slice none 0 0, .int .i64 0, .slice none 0 0, .slice none 0 0]) BKg.out 0 _ rfl) (by decide) 1 _) (blk_put (cs := #[.string t, .slice none 0 0, .int .i64 0, .slice none 0 0, .slice none 0 0]) (blk_put (cs := #[.string (⟨#[]⟩ : ByteArray), .slice none 0 0, .int .i64 0, .slice none 0 0, .slice none 0 0]) BKg.out 0 _ rfl) 1 _ rfl) (by decide) 2 _) (blk_put (cs := #[.string t, .slice A0_ x0.length c0_, .int .i64 0, .slice none 0 0, .slice none 0 0]) (blk_put (cs := #[.string t, .slice none 0 0, .int .i64 0, .slice none 0 0, .slice none 0 0]) (blk_put (cs := #[.string (⟨#[]⟩ : ByteArray), .slice none 0 0, .int .i64 0, .slice none 0 0, .slice none 0 0]) BKg.out 0 _ rfl) 1 _ rfl) 2 _ rfl) (by decide) 3 _) (blk_put (cs := #[.string t, .slice A0_ x0.length c0_, .int .i64 x1, .slice none 0 0, .slice none 0 0]) (blk_put (cs := #[.string t, .slice A0_ x0.length c0_, .int .i64 0, .slice none 0 0, .slice none 0 0]) (blk_put (cs := #[.string t, .slice none 0 0, .int .i64 0, .slice none 0 0, .slice none 0 0]) (blk_put (cs := #[.string (⟨#[]⟩ : ByteArray), .slice none 0 0, .int .i64 0, .slice none 0 0, .slice none 0 0]) BKg.out 0 _ rfl) 1 _ rfl) 2 _ rfl) 3 _ rfl) (by decide) 4 _)⟩; clear HO1; have HO1 := q_; clear q_
        have q_ : Aside0 (Kd.R (Kd.int .i64) 3 (((((wr.setCell ⟨g, 0, none⟩ (.string t)).setCell ⟨g, 1, none⟩ (.slice A0_ x0.length c0_)).setCell ⟨g, 2, none⟩ (.int .i64 x1)).setCell ⟨g, 3, none⟩ (.slice A5_ y5.length c5_)).setCell ⟨g, 4, none⟩ (.slice A4 done.length c4)) w.heap.size (fun k => w.heap.size ≤ k) (.slice A5_ y5.length c5_) y5) := ⟨(Kd.R_set (Kd.R_set (Kd.R_set (Kd.R_set (Kd.R_set HO5.out BKg.out (by decide) 0 _) (blk_put (cs := #[.string (⟨#[]⟩ : ByteArray), .slice none 0 0, .int .i64 0, .slice none 0 0, .slice none 0 0]) BKg.out 0 _ rfl) (by decide) 1 _) (blk_put (cs := #[.string t, .slice none 0 0, .int .i64 0, .slice none 0 0, .slice none 0 0]) (blk_put (cs := #[.string (⟨#[]⟩ : ByteArray), .slice none 0 0, .int .i64 0, .slice none 0 0, .slice none 0 0]) BKg.out 0 _ rfl) 1 _ rfl) (by decide) 2 _) (blk_put (cs := #[.string t, .slice A0_ x0.length c0_, .int .i64 0, .slice none 0 0, .slice none 0 0]) (blk_put (cs := #[.string t, .slice none 0 0, .int .i64 0, .slice none 0 0, .slice none 0 0]) (blk_put (cs := #[.string (⟨#[]⟩ : ByteArray), .slice none 0 0, .int .i64 0, .slice none 0 0, .slice none 0 0]) BKg.out 0 _ rfl) 1 _ rfl) 2 _ rfl) (by decide) 3 _) (blk_put (cs := #[.string t, .slice A0_ x0.length c0_, .int .i64 x1, .slice none 0 0, .slice none 0 0]) (blk_put (cs := #[.string t, .slice A0_ x0.length c0_, .int .i64 0, .slice none 0 0, .slice none 0 0]) (blk_put (cs := #[.string t, .slice none 0 0, .int .i64 0, .slice none 0 0, .slice none 0 0]) (blk_put (cs := #[.string (⟨#[]⟩ : ByteArray), .slice none 0 0, .int .i64 0, .slice none 0 0, .slice none 0 0]) BKg.out 0 _ rfl) 1 _ rfl) 2 _ rfl) 3 _ rfl) (by decide) 4 _)⟩; clear HO5; have HO5 := q_; clear q_
        have q_ : Aside0 (Kd.R k50 50 (((((wr.setCell ⟨g, 0, none⟩ (.string t)).setCell ⟨g, 1, none⟩ (.slice A0_ x0.length c0_)).setCell ⟨g, 2, none⟩ (.int .i64 x1)).setCell ⟨g, 3, none⟩ (.slice A5_ y5.length c5_)).setCell ⟨g, 4, none⟩ (.slice A4 done.length c4)) w.heap.size (fun k => w.heap.size ≤ k) (.slice A4 done.length c4) done) := ⟨(Kd.R_set (Kd.R_set (Kd.R_set (Kd.R_set (Kd.R_set HO.out BKg.out (by decide) 0 _) (blk_put (cs := #[.string (⟨#[]⟩ : ByteArray), .slice none 0 0, .int .i64 0, .slice none 0 0, .slice none 0 0]) BKg.out 0 _ rfl) (by decide) 1 _) (blk_put (cs := #[.string t, .slice none 0 0, .int .i64 0, .slice none 0 0, .slice none 0 0]) (blk_put (cs := #[.string (⟨#[]⟩ : ByteArray), .slice none 0 0, .int .i64 0, .slice none 0 0, .slice none 0 0]) BKg.out 0 _ rfl) 1 _ rfl) (by decide) 2 _) (blk_put (cs := #[.string t, .slice A0_ x0.length c0_, .int .i64 0, .slice none 0 0, .slice none 0 0]) (blk_put (cs := #[.string t, .slice none 0 0, .int .i64 0, .slice none 0 0, .slice none 0 0]) (blk_put (cs := #[.string (⟨#[]⟩ : ByteArray), .slice none 0 0, .int .i64 0, .slice none 0 0, .slice none 0 0]) BKg.out 0 _ rfl) 1 _ rfl) 2 _ rfl) (by decide) 3 _) (blk_put (cs := #[.string t, .slice A0_ x0.length c0_, .int .i64 x1, .slice none 0 0, .slice none 0 0]) (blk_put (cs := #[.string t, .slice A0_ x0.length c0_, .int .i64 0, .slice none 0 0, .slice none 0 0]) (blk_put (cs := #[.string t, .slice none 0 0, .int .i64 0, .slice none 0 0, .slice none 0 0]) (blk_put (cs := #[.string (⟨#[]⟩ : ByteArray), .slice none 0 0, .int .i64 0, .slice none 0 0, .slice none 0 0]) BKg.out 0 _ rfl) 1 _ rfl) 2 _ rfl) 3 _ rfl) (by decide) 4 _)⟩; clear HO; have HO := q_; clear q_
        clear BKg RB HK; have BKg := n_; have RB := m_; have HK := o_; clear n_ m_ o_
        clear hcg_0 hfg_0
        clear hcg_1 hfg_1
        clear hcg_2 hfg_2
        clear hcg_3 hfg_3
        clear hcg_4 hfg_4
        clear hch_0 hfh_0
        clear hch_1 hfh_1
        clear hch_2 hfh_2
        clear hch_3 hfh_3
        clear hch_4 hfh_4
        generalize (((((wr.setCell ⟨g, 0, none⟩ (.string t)).setCell ⟨g, 1, none⟩ (.slice A0_ x0.length c0_)).setCell ⟨g, 2, none⟩ (.int .i64 x1)).setCell ⟨g, 3, none⟩ (.slice A5_ y5.length c5_)).setCell ⟨g, 4, none⟩ (.slice A4 done.length c4)) = W11 at *
        have hcg_0 : W11.cell? ⟨g, 0, none⟩ = some (.string t) := (blk_cell BKg.out 0).trans rfl
        have hfg_0 := blk_frozen BKg.out 0
        have hcg_1 : W11.cell? ⟨g, 1, none⟩ = some (.slice A0_ x0.length c0_) := (blk_cell BKg.out 1).trans rfl
        have hfg_1 := blk_frozen BKg.out 1
        have hcg_2 : W11.cell? ⟨g, 2, none⟩ = some (.int .i64 x1) := (blk_cell BKg.out 2).trans rfl
        have hfg_2 := blk_frozen BKg.out 2
        have hcg_3 : W11.cell? ⟨g, 3, none⟩ = some (.slice A5_ y5.length c5_) := (blk_cell BKg.out 3).trans rfl
        have hfg_3 := blk_frozen BKg.out 3
        have hcg_4 : W11.cell? ⟨g, 4, none⟩ = some (.slice A4 done.length c4) := (blk_cell BKg.out 4).trans rfl
        have hfg_4 := blk_frozen BKg.out 4
        have hch_0 : W11.cell? ⟨h, 0, none⟩ = some (.string t) := (blk_cell BKh.out 0).trans rfl
        have hfh_0 := blk_frozen BKh.out 0
        have hch_1 : W11.cell? ⟨h, 1, none⟩ = some (.slice A0_ x0.length c0_) := (blk_cell BKh.out 1).trans rfl
        have hfh_1 := blk_frozen BKh.out 1
        have hch_2 : W11.cell? ⟨h, 2, none⟩ = some (.int .i64 x1) := (blk_cell BKh.out 2).trans rfl
        have hfh_2 := blk_frozen BKh.out 2
        have hch_3 : W11.cell? ⟨h, 3, none⟩ = some (.slice A5_ y5.length c5_) := (blk_cell BKh.out 3).trans rfl
        have hfh_3 := blk_frozen BKh.out 3
        have hch_4 : W11.cell? ⟨h, 4, none⟩ = some (.slice A4 done.length c4) := (blk_cell BKh.out 4).trans rfl
        have hfh_4 := blk_frozen BKh.out 4
        refine bodyPost_ret (results_cell_row rfl _ _ g 54 #[.string t, .slice A0_ x0.length c0_, .int .i64 x1, .slice A5_ y5.length c5_, .slice A4 done.length c4] (0, 0) _ rfl BKg.out Tryd.underlying54 rfl (by kernel_rfl)) rfl ?_
        have h_ := HRk.out.bad
        have f_ := fn_comp HSs1.out HVt.out HSs2.out HV0.out HSs3.out HV1.out HSs4.out HV2.out (s6 := none) (by rw [← HR6.out]; exact h_.1.symm) (by rw [← HR6.out]; exact h_.2)
        rw [← HY5.out] at f_
        refine ⟨A0_, c0_, A5_, c5_, A4, c4, ⟨t, x0, x1, y5, done⟩, rfl, Kd.R_mono HO1.out (fun _ h => h.1), HO5.out, HO.out, ⟨by show t.size ≤ _; have h_ : t.size ≤ 65536 := HTS.out; omega, by show x0.length ≤ _; have := HLE0.out; omega, by show y5.length ≤ _; rw [HY5.out, List.length_append]; have := HLE0.out; have := HLE2.out; omega, by show done.length ≤ _; have := HKN.out; have := HN3.out; omega⟩, HK.out, ?_, f_.2⟩
        rw [← f_.1]; exact RB.out
      | some j =>
        have hb_ := RB.out.good
        have hcB2 : wr.cell? ⟨B, 2, none⟩ = some (.bool false) := (blk_cell hb_ 2).trans rfl
        have HBw2 := Aside0.mk (fun k_ => own_lt (Kd.R_own HO.out).choose_spec k_)
        clear hlt hk hnn hb_
        have q_ := Aside0.mk (Kd.R_mono (Kd.R_bound HO.out) (fun k_ h_ => (⟨h_.1, h_.2.2.1⟩ : w.heap.size ≤ k_ ∧ k_ < wr.heap.size))); clear HO; have HO := q_; clear q_
        go_wp2_with (first | ((with_reducible refine gate_dst (N := 10) rfl ?_); refine box_event ?hg (N := 10) ?hd (cs := #[.int .i64 0, .int .i64 0, .int .i64 0]) (t := 50) ?hr ?_; (case hd => rfl); (case hg => rfl); (case hr => first | (go_simp; done) | (go_simp; rfl)); intro q hg_ W12 hbox_ hb_; have GEq := Aside0.mk (by rw [hg_]; exact HK.out.1 : w.heap.size ≤ q); have NBq : Aside0 (q ≠ B) := ⟨(by rw [hg_]; exact Ne.symm (Nat.ne_of_lt (Ds.lt RB.out)))⟩; have NEg_q : Aside0 (g ≠ q) := ⟨by rw [hg_]; exact Nat.ne_of_lt (blk_lt BKg.out)⟩; have NEh_q : Aside0 (h ≠ q) := ⟨by rw [hg_]; exact Nat.ne_of_lt (blk_lt BKh.out)⟩; have n_ := Aside0.mk (blk_below BKg.out hb_); clear BKg; have BKg := n_; clear n_; have n_ := Aside0.mk (blk_below BKh.out hb_); clear BKh; have BKh := n_; clear n_; clear hch_0 hfh_0; clear hch_1 hfh_1; clear hch_2 hfh_2; clear hch_3 hfh_3; clear hch_4 hfh_4; have GWq := Aside0.mk (by rw [hg_]; exact Nat.le_refl _ : wr.heap.size ≤ q); clear hg_; have n_ := Aside0.mk (Ds.below RB.out hb_); clear RB; have RB := n_; clear n_; have n_ := Aside0.mk (Kp.below HK.out hb_); clear HK; have HK := n_; clear n_; have n_ := Aside0.mk (Kd.R_below HO1.out hb_); clear HO1; have HO1 := n_; clear n_; have n_ := Aside0.mk (Kd.R_below HO5.out hb_); clear HO5; have HO5 := n_; clear n_; have n_ := Aside0.mk (Kd.R_below HO.out hb_); clear HO; have HO := n_; clear n_; clear hcB2; have BKq := Aside0.mk hbox_; clear hbox_ hb_; have hch_4 : W12.cell? ⟨h, 4, none⟩ = some (.slice A4 done.length c4) := (blk_cell BKh.out 4).trans rfl; have hfh_4 := blk_frozen BKh.out 4; have hcq_0 : W12.cell? ⟨q, 0, none⟩ = some (.int .i64 0) := (blk_cell BKq.out 0).trans rfl; have hfq_0 := blk_frozen BKq.out 0; have hcq_1 : W12.cell? ⟨q, 1, none⟩ = some (.int .i64 0) := (blk_cell BKq.out 1).trans rfl; have hfq_1 := blk_frozen BKq.out 1; have hcq_2 : W12.cell? ⟨q, 2, none⟩ = some (.int .i64 0) := (blk_cell BKq.out 2).trans rfl; have hfq_2 := blk_frozen BKq.out 2))
        refine (dr_nat B A c l (some j) _ RB.out (HC.out _ HK.out.kept) HCC.out HBT.out HL.out HSr.out).mono ?_
        rintro e_ W13 ⟨x4, rfl, hk_, hd_, hv_⟩
        have HV4 := Aside0.mk hv_; clear hv_
        obtain ⟨s6, hs6⟩ : ∃ s_, s_ = pl (Option.bind (some j) (rdN l)) := ⟨_, rfl⟩
        rw [← hs6] at hd_
        have n_ : Aside0 (Sr l s6) := ⟨by rw [hs6]; exact Sr.nat HBT.out⟩
        have HSs6 := Aside0.mk hs6; clear hs6 HSr; have HSr := n_; clear n_
        have n_ := Aside0.mk (blk_kept BKg.out hk_.kept NBg.out); clear BKg; have BKg := n_; clear n_
        have n_ := Aside0.mk (blk_kept BKh.out hk_.kept NBh.out); clear BKh; have BKh := n_; clear n_
        clear hch_4 hfh_4
        have n_ := Aside0.mk (blk_kept BKq.out hk_.kept NBq.out); clear BKq; have BKq := n_; clear n_
        clear hcq_0 hfq_0
        clear hcq_1 hfq_1
        clear hcq_2 hfq_2
        have n_ := Aside0.mk (Kd.R_kept HO1.out hk_.kept (fun k_ h_ e_ => by have := HBw.out; have := (show w.heap.size ≤ k_ from by first | exact h_ | exact h_.1); omega)); clear HO1; have HO1 := n_; clear n_
        have n_ := Aside0.mk (Kd.R_kept HO5.out hk_.kept (fun k_ h_ e_ => by have := HBw.out; have := (show w.heap.size ≤ k_ from by first | exact h_ | exact h_.1); omega)); clear HO5; have HO5 := n_; clear n_
        have n_ := Aside0.mk (Kd.R_kept HO.out hk_.kept (fun k_ h_ e_ => by have := HBw.out; have := (show w.heap.size ≤ k_ from by first | exact h_ | exact h_.1); omega)); clear HO; have HO := n_; clear n_
        have n_ := Aside0.mk (HK.out.then_ hk_ (fun _ h => .inl h)); clear HK RB; have HK := n_; have RB := Aside0.mk hd_; clear n_ hk_ hd_
        have hch_4 : W13.cell? ⟨h, 4, none⟩ = some (.slice A4 done.length c4) := (blk_cell BKh.out 4).trans rfl
        have hfh_4 := blk_frozen BKh.out 4
        have hcq_0 : W13.cell? ⟨q, 0, none⟩ = some (.int .i64 0) := (blk_cell BKq.out 0).trans rfl
        have hfq_0 := blk_frozen BKq.out 0
        have hcq_1 : W13.cell? ⟨q, 1, none⟩ = some (.int .i64 0) := (blk_cell BKq.out 1).trans rfl
        have hfq_1 := blk_frozen BKq.out 1
        have hcq_2 : W13.cell? ⟨q, 2, none⟩ = some (.int .i64 0) := (blk_cell BKq.out 2).trans rfl
        have hfq_2 := blk_frozen BKq.out 2
        go_wp2_with fail
        have n_ : Aside0 ((W13.setCell ⟨q, 0, none⟩ (.int .i64 x4)).heap[q]? = some (.cells #[.int .i64 x4, .int .i64 0, .int .i64 0] 50 (0, 0))) := ⟨by refine blk_put (cs := #[.int .i64 0, .int .i64 0, .int .i64 0]) ?_ 0 _ rfl; exact BKq.out⟩
        have m_ : Aside0 ((W13.setCell ⟨q, 0, none⟩ (.int .i64 x4)).heap[g]? = some (.cells #[.string (⟨#[]⟩ : ByteArray), .slice none 0 0, .int .i64 0, .slice none 0 0, .slice none 0 0] 54 (0, 0))) := ⟨(blk_far BKg.out NEg_q.out _)⟩; clear BKg; have BKg := m_; clear m_
        have m_ : Aside0 ((W13.setCell ⟨q, 0, none⟩ (.int .i64 x4)).heap[h]? = some (.cells #[.string t, .slice A0_ x0.length c0_, .int .i64 x1, .slice A5_ y5.length c5_, .slice A4 done.length c4] 54 (0, 0))) := ⟨(blk_far BKh.out NEh_q.out _)⟩; clear BKh; have BKh := m_; clear m_
        have m_ : Aside0 (Ds (W13.setCell ⟨q, 0, none⟩ (.int .i64 x4)) B A l.length c s6) := ⟨(Ds.far (p := ⟨q, 0, none⟩) RB.out NBq.out.symm _)⟩; have o_ : Aside0 (Kp w (W13.setCell ⟨q, 0, none⟩ (.int .i64 x4)) (fun k => k = B)) := ⟨(Kp.setCell (p := ⟨q, 0, none⟩) HK.out (.inr GEq.out) _)⟩
        have q_ : Aside0 (Kd.R (Kd.int .i64) 3 (W13.setCell ⟨q, 0, none⟩ (.int .i64 x4)) w.heap.size (fun k => w.heap.size ≤ k ∧ k < W8.heap.size) (.slice A0_ x0.length c0_) x0) := ⟨(Kd.R_set HO1.out BKq.out (by decide) 0 _)⟩; clear HO1; have HO1 := q_; clear q_
        have q_ : Aside0 (Kd.R (Kd.int .i64) 3 (W13.setCell ⟨q, 0, none⟩ (.int .i64 x4)) w.heap.size (fun k => w.heap.size ≤ k) (.slice A5_ y5.length c5_) y5) := ⟨(Kd.R_set HO5.out BKq.out (by decide) 0 _)⟩; clear HO5; have HO5 := q_; clear q_
        have q_ : Aside0 (Kd.R k50 50 (W13.setCell ⟨q, 0, none⟩ (.int .i64 x4)) w.heap.size (fun k => w.heap.size ≤ k ∧ k < wr.heap.size) (.slice A4 done.length c4) done) := ⟨(Kd.R_far (p := ⟨q, 0, none⟩) HO.out (fun k_ h_ (e_ : k_ = q) => by have := h_.2; have := GWq.out; omega) _)⟩; clear HO; have HO := q_; clear q_
        clear BKq RB HK; have BKq := n_; have RB := m_; have HK := o_; clear n_ m_ o_
        clear hch_4 hfh_4
        clear hcq_0 hfq_0
        clear hcq_1 hfq_1
        clear hcq_2 hfq_2
        generalize (W13.setCell ⟨q, 0, none⟩ (.int .i64 x4)) = W14 at *
        have hch_4 : W14.cell? ⟨h, 4, none⟩ = some (.slice A4 done.length c4) := (blk_cell BKh.out 4).trans rfl
        have hfh_4 := blk_frozen BKh.out 4
        have hcq_0 : W14.cell? ⟨q, 0, none⟩ = some (.int .i64 x4) := (blk_cell BKq.out 0).trans rfl
        have hfq_0 := blk_frozen BKq.out 0
        have hcq_1 : W14.cell? ⟨q, 1, none⟩ = some (.int .i64 0) := (blk_cell BKq.out 1).trans rfl
        have hfq_1 := blk_frozen BKq.out 1
        have hcq_2 : W14.cell? ⟨q, 2, none⟩ = some (.int .i64 0) := (blk_cell BKq.out 2).trans rfl
        have hfq_2 := blk_frozen BKq.out 2
        refine (dr_num B A c l s6 _ RB.out (HC.out _ HK.out.kept) HCC.out HBT.out HL.out HSr.out).mono ?_
        rintro e_ W15 ⟨x5, rfl, hk_, hd_, hv_⟩
        have HV5 := Aside0.mk hv_; clear hv_
        obtain ⟨s7, hs7⟩ : ∃ s_, s_ = pl (Option.bind s6 (rdW l)) := ⟨_, rfl⟩
        rw [← hs7] at hd_
        have n_ : Aside0 (Sr l s7) := ⟨by rw [hs7]; exact Sr.num HBT.out⟩
        have HSs7 := Aside0.mk hs7; clear hs7 HSr; have HSr := n_; clear n_
        have n_ := Aside0.mk (blk_kept BKg.out hk_.kept NBg.out); clear BKg; have BKg := n_; clear n_
        have n_ := Aside0.mk (blk_kept BKh.out hk_.kept NBh.out); clear BKh; have BKh := n_; clear n_
        clear hch_4 hfh_4
        have n_ := Aside0.mk (blk_kept BKq.out hk_.kept NBq.out); clear BKq; have BKq := n_; clear n_
        clear hcq_0 hfq_0
        clear hcq_1 hfq_1
        clear hcq_2 hfq_2
        have n_ := Aside0.mk (Kd.R_kept HO1.out hk_.kept (fun k_ h_ e_ => by have := HBw.out; have := (show w.heap.size ≤ k_ from by first | exact h_ | exact h_.1); omega)); clear HO1; have HO1 := n_; clear n_
        have n_ := Aside0.mk (Kd.R_kept HO5.out hk_.kept (fun k_ h_ e_ => by have := HBw.out; have := (show w.heap.size ≤ k_ from by first | exact h_ | exact h_.1); omega)); clear HO5; have HO5 := n_; clear n_
        have n_ := Aside0.mk (Kd.R_kept HO.out hk_.kept (fun k_ h_ e_ => by have := HBw.out; have := (show w.heap.size ≤ k_ from by first | exact h_ | exact h_.1); omega)); clear HO; have HO := n_; clear n_
        have n_ := Aside0.mk (HK.out.then_ hk_ (fun _ h => .inl h)); clear HK RB; have HK := n_; have RB := Aside0.mk hd_; clear n_ hk_ hd_
        have hch_4 : W15.cell? ⟨h, 4, none⟩ = some (.slice A4 done.length c4) := (blk_cell BKh.out 4).trans rfl
        have hfh_4 := blk_frozen BKh.out 4
        have hcq_0 : W15.cell? ⟨q, 0, none⟩ = some (.int .i64 x4) := (blk_cell BKq.out 0).trans rfl
        have hfq_0 := blk_frozen BKq.out 0
        have hcq_1 : W15.cell? ⟨q, 1, none⟩ = some (.int .i64 0) := (blk_cell BKq.out 1).trans rfl
        have hfq_1 := blk_frozen BKq.out 1
        have hcq_2 : W15.cell? ⟨q, 2, none⟩ = some (.int .i64 0) := (blk_cell BKq.out 2).trans rfl
        have hfq_2 := blk_frozen BKq.out 2
        go_wp2_with fail
        have n_ : Aside0 ((W15.setCell ⟨q, 1, none⟩ (.int .i64 x5)).heap[q]? = some (.cells #[.int .i64 x4, .int .i64 x5, .int .i64 0] 50 (0, 0))) := ⟨by refine blk_put (cs := #[.int .i64 x4, .int .i64 0, .int .i64 0]) ?_ 1 _ rfl; exact BKq.out⟩
        have m_ : Aside0 ((W15.setCell ⟨q, 1, none⟩ (.int .i64 x5)).heap[g]? = some (.cells #[.string (⟨#[]⟩ : ByteArray), .slice none 0 0, .int .i64 0, .slice none 0 0, .slice none 0 0] 54 (0, 0))) := ⟨(blk_far BKg.out NEg_q.out _)⟩; clear BKg; have BKg := m_; clear m_
        have m_ : Aside0 ((W15.setCell ⟨q, 1, none⟩ (.int .i64 x5)).heap[h]? = some (.cells #[.string t, .slice A0_ x0.length c0_, .int .i64 x1, .slice A5_ y5.length c5_, .slice A4 done.length c4] 54 (0, 0))) := ⟨(blk_far BKh.out NEh_q.out _)⟩; clear BKh; have BKh := m_; clear m_
        have m_ : Aside0 (Ds (W15.setCell ⟨q, 1, none⟩ (.int .i64 x5)) B A l.length c s7) := ⟨(Ds.far (p := ⟨q, 1, none⟩) RB.out NBq.out.symm _)⟩; have o_ : Aside0 (Kp w (W15.setCell ⟨q, 1, none⟩ (.int .i64 x5)) (fun k => k = B)) := ⟨(Kp.setCell (p := ⟨q, 1, none⟩) HK.out (.inr GEq.out) _)⟩
        have q_ : Aside0 (Kd.R (Kd.int .i64) 3 (W15.setCell ⟨q, 1, none⟩ (.int .i64 x5)) w.heap.size (fun k => w.heap.size ≤ k ∧ k < W8.heap.size) (.slice A0_ x0.length c0_) x0) := ⟨(Kd.R_set HO1.out BKq.out (by decide) 1 _)⟩; clear HO1; have HO1 := q_; clear q_
        have q_ : Aside0 (Kd.R (Kd.int .i64) 3 (W15.setCell ⟨q, 1, none⟩ (.int .i64 x5)) w.heap.size (fun k => w.heap.size ≤ k) (.slice A5_ y5.length c5_) y5) := ⟨(Kd.R_set HO5.out BKq.out (by decide) 1 _)⟩; clear HO5; have HO5 := q_; clear q_
        have q_ : Aside0 (Kd.R k50 50 (W15.setCell ⟨q, 1, none⟩ (.int .i64 x5)) w.heap.size (fun k => w.heap.size ≤ k ∧ k < wr.heap.size) (.slice A4 done.length c4) done) := ⟨(Kd.R_far (p := ⟨q, 1, none⟩) HO.out (fun k_ h_ (e_ : k_ = q) => by have := h_.2; have := GWq.out; omega) _)⟩; clear HO; have HO := q_; clear q_
        clear BKq RB HK; have BKq := n_; have RB := m_; have HK := o_; clear n_ m_ o_
        clear hch_4 hfh_4
        clear hcq_0 hfq_0
        clear hcq_1 hfq_1
        clear hcq_2 hfq_2
        generalize (W15.setCell ⟨q, 1, none⟩ (.int .i64 x5)) = W16 at *
        have hch_4 : W16.cell? ⟨h, 4, none⟩ = some (.slice A4 done.length c4) := (blk_cell BKh.out 4).trans rfl
        have hfh_4 := blk_frozen BKh.out 4
        have hcq_0 : W16.cell? ⟨q, 0, none⟩ = some (.int .i64 x4) := (blk_cell BKq.out 0).trans rfl
        have hfq_0 := blk_frozen BKq.out 0
        have hcq_1 : W16.cell? ⟨q, 1, none⟩ = some (.int .i64 x5) := (blk_cell BKq.out 1).trans rfl
        have hfq_1 := blk_frozen BKq.out 1
        have hcq_2 : W16.cell? ⟨q, 2, none⟩ = some (.int .i64 0) := (blk_cell BKq.out 2).trans rfl
        have hfq_2 := blk_frozen BKq.out 2
        refine (dr_nat B A c l s7 _ RB.out (HC.out _ HK.out.kept) HCC.out HBT.out HL.out HSr.out).mono ?_
        rintro e_ W17 ⟨x6, rfl, hk_, hd_, hv_⟩
        have HV6 := Aside0.mk hv_; clear hv_
        obtain ⟨s8, hs8⟩ : ∃ s_, s_ = pl (Option.bind s7 (rdN l)) := ⟨_, rfl⟩
        rw [← hs8] at hd_
        have n_ : Aside0 (Sr l s8) := ⟨by rw [hs8]; exact Sr.nat HBT.out⟩
        have HSs8 := Aside0.mk hs8; clear hs8 HSr; have HSr := n_; clear n_
        have n_ := Aside0.mk (blk_kept BKg.out hk_.kept NBg.out); clear BKg; have BKg := n_; clear n_
        have n_ := Aside0.mk (blk_kept BKh.out hk_.kept NBh.out); clear BKh; have BKh := n_; clear n_
        clear hch_4 hfh_4
        have n_ := Aside0.mk (blk_kept BKq.out hk_.kept NBq.out); clear BKq; have BKq := n_; clear n_
        clear hcq_0 hfq_0
        clear hcq_1 hfq_1
        clear hcq_2 hfq_2
        have n_ := Aside0.mk (Kd.R_kept HO1.out hk_.kept (fun k_ h_ e_ => by have := HBw.out; have := (show w.heap.size ≤ k_ from by first | exact h_ | exact h_.1); omega)); clear HO1; have HO1 := n_; clear n_
        have n_ := Aside0.mk (Kd.R_kept HO5.out hk_.kept (fun k_ h_ e_ => by have := HBw.out; have := (show w.heap.size ≤ k_ from by first | exact h_ | exact h_.1); omega)); clear HO5; have HO5 := n_; clear n_
        have n_ := Aside0.mk (Kd.R_kept HO.out hk_.kept (fun k_ h_ e_ => by have := HBw.out; have := (show w.heap.size ≤ k_ from by first | exact h_ | exact h_.1); omega)); clear HO; have HO := n_; clear n_
        have n_ := Aside0.mk (HK.out.then_ hk_ (fun _ h => .inl h)); clear HK RB; have HK := n_; have RB := Aside0.mk hd_; clear n_ hk_ hd_
        have hch_4 : W17.cell? ⟨h, 4, none⟩ = some (.slice A4 done.length c4) := (blk_cell BKh.out 4).trans rfl
        have hfh_4 := blk_frozen BKh.out 4
        have hcq_0 : W17.cell? ⟨q, 0, none⟩ = some (.int .i64 x4) := (blk_cell BKq.out 0).trans rfl
        have hfq_0 := blk_frozen BKq.out 0
        have hcq_1 : W17.cell? ⟨q, 1, none⟩ = some (.int .i64 x5) := (blk_cell BKq.out 1).trans rfl
        have hfq_1 := blk_frozen BKq.out 1
        have hcq_2 : W17.cell? ⟨q, 2, none⟩ = some (.int .i64 0) := (blk_cell BKq.out 2).trans rfl
        have hfq_2 := blk_frozen BKq.out 2
        skip
        go_wp2_with (((with_reducible refine gate_builtin (b := .append) (xs := #[.tmp 79, .tmp 81]) rfl ?_); at_builtin; have n_ : Aside0 ((W17.setCell ⟨q, 2, none⟩ (.int .i64 x6)).heap[q]? = some (.cells #[.int .i64 x4, .int .i64 x5, .int .i64 x6] 50 (0, 0))) := ⟨by refine blk_put (cs := #[.int .i64 x4, .int .i64 x5, .int .i64 0]) ?_ 2 _ rfl; exact BKq.out⟩; have m_ : Aside0 ((W17.setCell ⟨q, 2, none⟩ (.int .i64 x6)).heap[g]? = some (.cells #[.string (⟨#[]⟩ : ByteArray), .slice none 0 0, .int .i64 0, .slice none 0 0, .slice none 0 0] 54 (0, 0))) := ⟨(blk_far BKg.out NEg_q.out _)⟩; clear BKg; have BKg := m_; clear m_; have m_ : Aside0 ((W17.setCell ⟨q, 2, none⟩ (.int .i64 x6)).heap[h]? = some (.cells #[.string t, .slice A0_ x0.length c0_, .int .i64 x1, .slice A5_ y5.length c5_, .slice A4 done.length c4] 54 (0, 0))) := ⟨(blk_far BKh.out NEh_q.out _)⟩; clear BKh; have BKh := m_; clear m_; have m_ : Aside0 (Ds (W17.setCell ⟨q, 2, none⟩ (.int .i64 x6)) B A l.length c s8) := ⟨(Ds.far (p := ⟨q, 2, none⟩) RB.out NBq.out.symm _)⟩; have o_ : Aside0 (Kp w (W17.setCell ⟨q, 2, none⟩ (.int .i64 x6)) (fun k => k = B)) := ⟨(Kp.setCell (p := ⟨q, 2, none⟩) HK.out (.inr GEq.out) _)⟩; have q_ : Aside0 (Kd.R (Kd.int .i64) 3 (W17.setCell ⟨q, 2, none⟩ (.int .i64 x6)) w.heap.size (fun k => w.heap.size ≤ k ∧ k < W8.heap.size) (.slice A0_ x0.length c0_) x0) := ⟨(Kd.R_set HO1.out BKq.out (by decide) 2 _)⟩; clear HO1; have HO1 := q_; clear q_; have q_ : Aside0 (Kd.R (Kd.int .i64) 3 (W17.setCell ⟨q, 2, none⟩ (.int .i64 x6)) w.heap.size (fun k => w.heap.size ≤ k) (.slice A5_ y5.length c5_) y5) := ⟨(Kd.R_set HO5.out BKq.out (by decide) 2 _)⟩; clear HO5; have HO5 := q_; clear q_; have q_ : Aside0 (Kd.R k50 50 (W17.setCell ⟨q, 2, none⟩ (.int .i64 x6)) w.heap.size (fun k => w.heap.size ≤ k ∧ k < wr.heap.size) (.slice A4 done.length c4) done) := ⟨(Kd.R_far (p := ⟨q, 2, none⟩) HO.out (fun k_ h_ (e_ : k_ = q) => by have := h_.2; have := GWq.out; omega) _)⟩; clear HO; have HO := q_; clear q_; clear BKq RB HK; have BKq := n_; have RB := m_; have HK := o_; clear n_ m_ o_; clear hch_4 hfh_4; clear hcq_0 hfq_0; clear hcq_1 hfq_1; clear hcq_2 hfq_2; have hsz_ : ((W17.setCell ⟨q, 2, none⟩ (.int .i64 x6))).heap.size = W17.heap.size := (by simp only [World.size_setCell]); generalize (W17.setCell ⟨q, 2, none⟩ (.int .i64 x6)) = W18 at *; have hch_4 : W18.cell? ⟨h, 4, none⟩ = some (.slice A4 done.length c4) := (blk_cell BKh.out 4).trans rfl; have hfh_4 := blk_frozen BKh.out 4; have hcq_0 : W18.cell? ⟨q, 0, none⟩ = some (.int .i64 x4) := (blk_cell BKq.out 0).trans rfl; have hfq_0 := blk_frozen BKq.out 0; have hcq_1 : W18.cell? ⟨q, 1, none⟩ = some (.int .i64 x5) := (blk_cell BKq.out 1).trans rfl; have hfq_1 := blk_frozen BKq.out 1; have hcq_2 : W18.cell? ⟨q, 2, none⟩ = some (.int .i64 x6) := (blk_cell BKq.out 2).trans rfl; have hfq_2 := blk_frozen BKq.out 2; refine Kd.R_append k50 (w0 := W18) w.heap.size rfl (.tmp 79) (.tmp 81) 51 50 (.agg #[(.int .i64 0), (.int .i64 0), (.int .i64 0)]) 24 rfl Tryd.underlying51 info50 rfl (by decide) (by omega) (.slice A4 done.length c4) done (⟨x4, x5, x6⟩ : S50) [.int .i64 x4, .int .i64 x5, .int .i64 x6] (fun k_ => w.heap.size ≤ k_) (fun _ => False) rfl (by show Value.slice (some ⟨W17.heap.size, 0, none⟩) 1 1 = _; rw [hsz_]) ?aP ?aK ?aF ?aO ?aB ?aS ?aL ?_; (case aP => exact k50_mkM _ _ _ _); (case aK => exact fun _ h => h.elim); (case aF => exact fun k_ h_ => Nat.le_trans HK.out.1 h_); (case aO => exact Kd.R_mono HO.out (fun _ h => h.1)); (case aB => exact Below.refl _ _); (case aS => exact HK.out.1); (case aL => have h1_ := HKN.out; have h2_ := HLT.out; have h4_ := HN3.out; omega); intro v1 WR ho_ hb_ hg_ hat_; clear hb_ hat_ hsz_; have n_ := Aside0.mk (blk_grown BKg.out hg_ (Kd.R_ne HO.out BKg.out (by decide))); clear BKg; have BKg := n_; clear n_; have n_ := Aside0.mk (blk_grown BKh.out hg_ (Kd.R_ne HO.out BKh.out (by decide))); clear BKh; have BKh := n_; clear n_; clear hch_4 hfh_4; clear hcq_0 hfq_0; clear hcq_1 hfq_1; clear hcq_2 hfq_2; clear BKq; have n_ := Aside0.mk (Kd.R_over' HO1.out (Kd.R_typed HO.out) (by decide) hg_); clear HO1; have HO1 := n_; clear n_; have n_ := Aside0.mk (Kd.R_over' HO5.out (Kd.R_typed HO.out) (by decide) hg_); clear HO5; have HO5 := n_; clear n_; have n_ := Aside0.mk (Ds.keep RB.out (hg_.block B (Ds.lt RB.out) (fun e_ => by have := Kd.R_base HO.out B e_.symm; have := HBw.out; omega))); have m_ := Aside0.mk (Kp.of_grown hg_ HK.out (fun k_ h_ => .inr (Kd.R_base HO.out k_ h_))); clear RB HK; have RB := n_; have HK := m_; clear n_ m_; clear HO; obtain ⟨d9, hd9⟩ : ∃ d, d = done ++ [(⟨x4, x5, x6⟩ : S50)] := ⟨_, rfl⟩; rw [← hd9] at ho_; have HD9 := Aside0.mk hd9; clear hd9; obtain ⟨A9_, c9_, hv9_⟩ := Kd.R_slice ho_; subst hv9_; have HO := Aside0.mk ho_; clear ho_ hg_; have hch_4 : WR.cell? ⟨h, 4, none⟩ = some (.slice A4 done.length c4) := (blk_cell BKh.out 4).trans rfl; have hfh_4 := blk_frozen BKh.out 4; have hkn_ : (k : Int) + 1 ≤ 9223372036854775807 := (by have := HLT.out; have := HN3.out; omega); have HKNX := Aside0.mk hkn_; clear hkn_))
        rw [w64_succ k HKNX.out]
        have n_ : Aside0 ((WR.setCell ⟨h, 4, none⟩ (.slice A9_ d9.length c9_)).heap[h]? = some (.cells #[.string t, .slice A0_ x0.length c0_, .int .i64 x1, .slice A5_ y5.length c5_, .slice A9_ d9.length c9_] 54 (0, 0))) := ⟨by refine blk_put (cs := #[.string t, .slice A0_ x0.length c0_, .int .i64 x1, .slice A5_ y5.length c5_, .slice A4 done.length c4]) ?_ 4 _ rfl; exact BKh.out⟩
        have m_ : Aside0 ((WR.setCell ⟨h, 4, none⟩ (.slice A9_ d9.length c9_)).heap[g]? = some (.cells #[.string (⟨#[]⟩ : ByteArray), .slice none 0 0, .int .i64 0, .slice none 0 0, .slice none 0 0] 54 (0, 0))) := ⟨(blk_far BKg.out NEg_h.out _)⟩; clear BKg; have BKg := m_; clear m_
        have m_ : Aside0 (Ds (WR.setCell ⟨h, 4, none⟩ (.slice A9_ d9.length c9_)) B A l.length c s8) := ⟨(Ds.far (p := ⟨h, 4, none⟩) RB.out NBh.out.symm _)⟩; have o_ : Aside0 (Kp w (WR.setCell ⟨h, 4, none⟩ (.slice A9_ d9.length c9_)) (fun k => k = B)) := ⟨(Kp.setCell (p := ⟨h, 4, none⟩) HK.out (.inr GEh.out) _)⟩
        have q_ : Aside0 (Kd.R (Kd.int .i64) 3 (WR.setCell ⟨h, 4, none⟩ (.slice A9_ d9.length c9_)) w.heap.size (fun k => w.heap.size ≤ k ∧ k < W8.heap.size) (.slice A0_ x0.length c0_) x0) := ⟨(Kd.R_set HO1.out BKh.out (by decide) 4 _)⟩; clear HO1; have HO1 := q_; clear q_
        have q_ : Aside0 (Kd.R (Kd.int .i64) 3 (WR.setCell ⟨h, 4, none⟩ (.slice A9_ d9.length c9_)) w.heap.size (fun k => w.heap.size ≤ k) (.slice A5_ y5.length c5_) y5) := ⟨(Kd.R_set HO5.out BKh.out (by decide) 4 _)⟩; clear HO5; have HO5 := q_; clear q_
        have q_ : Aside0 (Kd.R k50 50 (WR.setCell ⟨h, 4, none⟩ (.slice A9_ d9.length c9_)) w.heap.size (fun k => w.heap.size ≤ k) (.slice A9_ d9.length c9_) d9) := ⟨(Kd.R_set HO.out BKh.out (by decide) 4 _)⟩; clear HO; have HO := q_; clear q_
        clear BKh RB HK; have BKh := n_; have RB := m_; have HK := o_; clear n_ m_ o_
        clear hch_4 hfh_4
        generalize (WR.setCell ⟨h, 4, none⟩ (.slice A9_ d9.length c9_)) = W19 at *
        have i_ := ins_comp (s1 := s6) (s2 := s7) (s3 := s8) HSs6.out HV4.out HSs7.out HV5.out HSs8.out HV6.out
        exact ⟨⟨k + 1, d9, A9_, c9_, s8, rfl, ⟨HLT.out, by rw [HD9.out, List.length_append, HKN.out.2]; rfl⟩, ⟨by rw [HD9.out, i_.1]; exact RowSt.step (by rw [show x3.toNat - (k + 1) + 1 = x3.toNat - k by have := HLT.out; omega]; exact HRk.out) i_.2⟩, HSr, HO, RB, HK, BKg, BKh, HO1, HO5⟩, by have := HLT.out; simp only [intOf, Int.toNat_natCast]; omega⟩
    · have z1 : decide ((k : Int) < x3) = false := decide_eq_false (by omega)
      have HLT := Aside0.mk hlt
      clear hlt hk hnn
      skip
      have hcg_0 : wr.cell? ⟨g, 0, none⟩ = some (.string (⟨#[]⟩ : ByteArray)) := (blk_cell BKg.out 0).trans rfl
      have hfg_0 := blk_frozen BKg.out 0
      have hcg_1 : wr.cell? ⟨g, 1, none⟩ = some (.slice none 0 0) := (blk_cell BKg.out 1).trans rfl
      have hfg_1 := blk_frozen BKg.out 1
      have hcg_2 : wr.cell? ⟨g, 2, none⟩ = some (.int .i64 0) := (blk_cell BKg.out 2).trans rfl
      have hfg_2 := blk_frozen BKg.out 2
      have hcg_3 : wr.cell? ⟨g, 3, none⟩ = some (.slice none 0 0) := (blk_cell BKg.out 3).trans rfl
      have hfg_3 := blk_frozen BKg.out 3
      have hcg_4 : wr.cell? ⟨g, 4, none⟩ = some (.slice none 0 0) := (blk_cell BKg.out 4).trans rfl
      have hfg_4 := blk_frozen BKg.out 4
      go_wp2
      have n_ : Aside0 ((((((wr.setCell ⟨g, 0, none⟩ (.string t)).setCell ⟨g, 1, none⟩ (.slice A0_ x0.length c0_)).setCell ⟨g, 2, none⟩ (.int .i64 x1)).setCell ⟨g, 3, none⟩ (.slice A5_ y5.length c5_)).setCell ⟨g, 4, none⟩ (.slice A4 done.length c4)).heap[g]? = some (.cells #[.string t, .slice A0_ x0.length c0_, .int .i64 x1, .slice A5_ y5.length c5_, .slice A4 done.length c4] 54 (0, 0))) := ⟨by refine blk_put (cs := #[.string t, .slice A0_ x0.length c0_, .int .i64 x1, .slice A5_ y5.length c5_, .slice none 0 0]) ?_ 4 _ rfl; refine blk_put (cs := #[.string t, .slice A0_ x0.length c0_, .int .i64 x1, .slice none 0 0, .slice none 0 0]) ?_ 3 _ rfl; refine blk_put (cs := #[.string t, .slice A0_ x0.length c0_, .int .i64 0, .slice none 0 0, .slice none 0 0]) ?_ 2 _ rfl; refine blk_put (cs := #[.string t, .slice none 0 0, .int .i64 0, .slice none 0 0, .slice none 0 0]) ?_ 1 _ rfl; refine blk_put (cs := #[.string (⟨#[]⟩ : ByteArray), .slice none 0 0, .int .i64 0, .slice none 0 0, .slice none 0 0]) ?_ 0 _ rfl; exact BKg.out⟩
      have m_ : Aside0 ((((((wr.setCell ⟨g, 0, none⟩ (.string t)).setCell ⟨g, 1, none⟩ (.slice A0_ x0.length c0_)).setCell ⟨g, 2, none⟩ (.int .i64 x1)).setCell ⟨g, 3, none⟩ (.slice A5_ y5.length c5_)).setCell ⟨g, 4, none⟩ (.slice A4 done.length c4)).heap[h]? = some (.cells #[.string t, .slice A0_ x0.length c0_, .int .i64 x1, .slice A5_ y5.length c5_, .slice A4 done.length c4] 54 (0, 0))) := ⟨(blk_far (blk_far (blk_far (blk_far (blk_far BKh.out NEg_h.out.symm _) NEg_h.out.symm _) NEg_h.out.symm _) NEg_h.out.symm _) NEg_h.out.symm _)⟩; clear BKh; have BKh := m_; clear m_
      have m_ : Aside0 (Ds (((((wr.setCell ⟨g, 0, none⟩ (.string t)).setCell ⟨g, 1, none⟩ (.slice A0_ x0.length c0_)).setCell ⟨g, 2, none⟩ (.int .i64 x1)).setCell ⟨g, 3, none⟩ (.slice A5_ y5.length c5_)).setCell ⟨g, 4, none⟩ (.slice A4 done.length c4)) B A l.length c sk) := ⟨(Ds.far (p := ⟨g, 4, none⟩) (Ds.far (p := ⟨g, 3, none⟩) (Ds.far (p := ⟨g, 2, none⟩) (Ds.far (p := ⟨g, 1, none⟩) (Ds.far (p := ⟨g, 0, none⟩) RB.out NBg.out.symm _) NBg.out.symm _) NBg.out.symm _) NBg.out.symm _) NBg.out.symm _)⟩; have o_ : Aside0 (Kp w (((((wr.setCell ⟨g, 0, none⟩ (.string t)).setCell ⟨g, 1, none⟩ (.slice A0_ x0.length c0_)).setCell ⟨g, 2, none⟩ (.int .i64 x1)).setCell ⟨g, 3, none⟩ (.slice A5_ y5.length c5_)).setCell ⟨g, 4, none⟩ (.slice A4 done.length c4)) (fun k => k = B)) := ⟨(Kp.setCell (p := ⟨g, 4, none⟩) (Kp.setCell (p := ⟨g, 3, none⟩) (Kp.setCell (p := ⟨g, 2, none⟩) (Kp.setCell (p := ⟨g, 1, none⟩) (Kp.setCell (p := ⟨g, 0, none⟩) HK.out (.inr GEg.out) _) (.inr GEg.out) _) (.inr GEg.out) _) (.inr GEg.out) _) (.inr GEg.out) _)⟩
      have q_ : Aside0 (Kd.R (Kd.int .i64) 3 (((((wr.setCell ⟨g, 0, none⟩ (.string t)).setCell ⟨g, 1, none⟩ (.slice A0_ x0.length c0_)).setCell ⟨g, 2, none⟩ (.int .i64 x1)).setCell ⟨g, 3, none⟩ (.slice A5_ y5.length c5_)).setCell ⟨g, 4, none⟩ (.slice A4 done.length c4)) w.heap.size (fun k => w.heap.size ≤ k ∧ k < W8.heap.size) (.slice A0_ x0.length c0_) x0) := ⟨(Kd.R_set (Kd.R_set (Kd.R_set (Kd.R_set (Kd.R_set HO1.out BKg.out (by decide) 0 _) (blk_put (cs := #[.string (⟨#[]⟩ : ByteArray), .slice none 0 0, .int .i64 0, .slice none 0 0, .slice none 0 0]) BKg.out 0 _ rfl) (by decide) 1 _) (blk_put (cs := #[.string t, .slice none 0 0, .int .i64 0, .slice none 0 0, .slice none 0 0]) (blk_put (cs := #[.string (⟨#[]⟩ : ByteArray), .slice none 0 0, .int .i64 0, .slice none 0 0, .slice none 0 0]) BKg.out 0 _ rfl) 1 _ rfl) (by decide) 2 _) (blk_put (cs := #[.string t, .slice A0_ x0.length c0_, .int .i64 0, .slice none 0 0, .slice none 0 0]) (blk_put (cs := #[.string t, .slice none 0 0, .int .i64 0, .slice none 0 0, .slice none 0 0]) (blk_put (cs := #[.string (⟨#[]⟩ : ByteArray), .slice none 0 0, .int .i64 0, .slice none 0 0, .slice none 0 0]) BKg.out 0 _ rfl) 1 _ rfl) 2 _ rfl) (by decide) 3 _) (blk_put (cs := #[.string t, .slice A0_ x0.length c0_, .int .i64 x1, .slice none 0 0, .slice none 0 0]) (blk_put (cs := #[.string t, .slice A0_ x0.length c0_, .int .i64 0, .slice none 0 0, .slice none 0 0]) (blk_put (cs := #[.string t, .slice none 0 0, .int .i64 0, .slice none 0 0, .slice none 0 0]) (blk_put (cs := #[.string (⟨#[]⟩ : ByteArray), .slice none 0 0, .int .i64 0, .slice none 0 0, .slice none 0 0]) BKg.out 0 _ rfl) 1 _ rfl) 2 _ rfl) 3 _ rfl) (by decide) 4 _)⟩; clear HO1; have HO1 := q_; clear q_
      have q_ : Aside0 (Kd.R (Kd.int .i64) 3 (((((wr.setCell ⟨g, 0, none⟩ (.string t)).setCell ⟨g, 1, none⟩ (.slice A0_ x0.length c0_)).setCell ⟨g, 2, none⟩ (.int .i64 x1)).setCell ⟨g, 3, none⟩ (.slice A5_ y5.length c5_)).setCell ⟨g, 4, none⟩ (.slice A4 done.length c4)) w.heap.size (fun k => w.heap.size ≤ k) (.slice A5_ y5.length c5_) y5) := ⟨(Kd.R_set (Kd.R_set (Kd.R_set (Kd.R_set (Kd.R_set HO5.out BKg.out (by decide) 0 _) (blk_put (cs := #[.string (⟨#[]⟩ : ByteArray), .slice none 0 0, .int .i64 0, .slice none 0 0, .slice none 0 0]) BKg.out 0 _ rfl) (by decide) 1 _) (blk_put (cs := #[.string t, .slice none 0 0, .int .i64 0, .slice none 0 0, .slice none 0 0]) (blk_put (cs := #[.string (⟨#[]⟩ : ByteArray), .slice none 0 0, .int .i64 0, .slice none 0 0, .slice none 0 0]) BKg.out 0 _ rfl) 1 _ rfl) (by decide) 2 _) (blk_put (cs := #[.string t, .slice A0_ x0.length c0_, .int .i64 0, .slice none 0 0, .slice none 0 0]) (blk_put (cs := #[.string t, .slice none 0 0, .int .i64 0, .slice none 0 0, .slice none 0 0]) (blk_put (cs := #[.string (⟨#[]⟩ : ByteArray), .slice none 0 0, .int .i64 0, .slice none 0 0, .slice none 0 0]) BKg.out 0 _ rfl) 1 _ rfl) 2 _ rfl) (by decide) 3 _) (blk_put (cs := #[.string t, .slice A0_ x0.length c0_, .int .i64 x1, .slice none 0 0, .slice none 0 0]) (blk_put (cs := #[.string t, .slice A0_ x0.length c0_, .int .i64 0, .slice none 0 0, .slice none 0 0]) (blk_put (cs := #[.string t, .slice none 0 0, .int .i64 0, .slice none 0 0, .slice none 0 0]) (blk_put (cs := #[.string (⟨#[]⟩ : ByteArray), .slice none 0 0, .int .i64 0, .slice none 0 0, .slice none 0 0]) BKg.out 0 _ rfl) 1 _ rfl) 2 _ rfl) 3 _ rfl) (by decide) 4 _)⟩; clear HO5; have HO5 := q_; clear q_
      have q_ : Aside0 (Kd.R k50 50 (((((wr.setCell ⟨g, 0, none⟩ (.string t)).setCell ⟨g, 1, none⟩ (.slice A0_ x0.length c0_)).setCell ⟨g, 2, none⟩ (.int .i64 x1)).setCell ⟨g, 3, none⟩ (.slice A5_ y5.length c5_)).setCell ⟨g, 4, none⟩ (.slice A4 done.length c4)) w.heap.size (fun k => w.heap.size ≤ k) (.slice A4 done.length c4) done) := ⟨(Kd.R_set (Kd.R_set (Kd.R_set (Kd.R_set (Kd.R_set HO.out BKg.out (by decide) 0 _) (blk_put (cs := #[.string (⟨#[]⟩ : ByteArray), .slice none 0 0, .int .i64 0, .slice none 0 0, .slice none 0 0]) BKg.out 0 _ rfl) (by decide) 1 _) (blk_put (cs := #[.string t, .slice none 0 0, .int .i64 0, .slice none 0 0, .slice none 0 0]) (blk_put (cs := #[.string (⟨#[]⟩ : ByteArray), .slice none 0 0, .int .i64 0, .slice none 0 0, .slice none 0 0]) BKg.out 0 _ rfl) 1 _ rfl) (by decide) 2 _) (blk_put (cs := #[.string t, .slice A0_ x0.length c0_, .int .i64 0, .slice none 0 0, .slice none 0 0]) (blk_put (cs := #[.string t, .slice none 0 0, .int .i64 0, .slice none 0 0, .slice none 0 0]) (blk_put (cs := #[.string (⟨#[]⟩ : ByteArray), .slice none 0 0, .int .i64 0, .slice none 0 0, .slice none 0 0]) BKg.out 0 _ rfl) 1 _ rfl) 2 _ rfl) (by decide) 3 _) (blk_put (cs := #[.string t, .slice A0_ x0.length c0_, .int .i64 x1, .slice none 0 0, .slice none 0 0]) (blk_put (cs := #[.string t, .slice A0_ x0.length c0_, .int .i64 0, .slice none 0 0, .slice none 0 0]) (blk_put (cs := #[.string t, .slice none 0 0, .int .i64 0, .slice none 0 0, .slice none 0 0]) (blk_put (cs := #[.string (⟨#[]⟩ : ByteArray), .slice none 0 0, .int .i64 0, .slice none 0 0, .slice none 0 0]) BKg.out 0 _ rfl) 1 _ rfl) 2 _ rfl) 3 _ rfl) (by decide) 4 _)⟩; clear HO; have HO := q_; clear q_
      clear BKg RB HK; have BKg := n_; have RB := m_; have HK := o_; clear n_ m_ o_
      clear hcg_0 hfg_0
      clear hcg_1 hfg_1
      clear hcg_2 hfg_2
      clear hcg_3 hfg_3
      clear hcg_4 hfg_4
      clear hch_0 hfh_0
      clear hch_1 hfh_1
      clear hch_2 hfh_2
      clear hch_3 hfh_3
      clear hch_4 hfh_4
      generalize (((((wr.setCell ⟨g, 0, none⟩ (.string t)).setCell ⟨g, 1, none⟩ (.slice A0_ x0.length c0_)).setCell ⟨g, 2, none⟩ (.int .i64 x1)).setCell ⟨g, 3, none⟩ (.slice A5_ y5.length c5_)).setCell ⟨g, 4, none⟩ (.slice A4 done.length c4)) = W20 at *
      have hcg_0 : W20.cell? ⟨g, 0, none⟩ = some (.string t) := (blk_cell BKg.out 0).trans rfl
      have hfg_0 := blk_frozen BKg.out 0
      have hcg_1 : W20.cell? ⟨g, 1, none⟩ = some (.slice A0_ x0.length c0_) := (blk_cell BKg.out 1).trans rfl
      have hfg_1 := blk_frozen BKg.out 1
      have hcg_2 : W20.cell? ⟨g, 2, none⟩ = some (.int .i64 x1) := (blk_cell BKg.out 2).trans rfl
      have hfg_2 := blk_frozen BKg.out 2
      have hcg_3 : W20.cell? ⟨g, 3, none⟩ = some (.slice A5_ y5.length c5_) := (blk_cell BKg.out 3).trans rfl
      have hfg_3 := blk_frozen BKg.out 3
      have hcg_4 : W20.cell? ⟨g, 4, none⟩ = some (.slice A4 done.length c4) := (blk_cell BKg.out 4).trans rfl
      have hfg_4 := blk_frozen BKg.out 4
      have hch_0 : W20.cell? ⟨h, 0, none⟩ = some (.string t) := (blk_cell BKh.out 0).trans rfl
      have hfh_0 := blk_frozen BKh.out 0
      have hch_1 : W20.cell? ⟨h, 1, none⟩ = some (.slice A0_ x0.length c0_) := (blk_cell BKh.out 1).trans rfl
      have hfh_1 := blk_frozen BKh.out 1
      have hch_2 : W20.cell? ⟨h, 2, none⟩ = some (.int .i64 x1) := (blk_cell BKh.out 2).trans rfl
      have hfh_2 := blk_frozen BKh.out 2
      have hch_3 : W20.cell? ⟨h, 3, none⟩ = some (.slice A5_ y5.length c5_) := (blk_cell BKh.out 3).trans rfl
      have hfh_3 := blk_frozen BKh.out 3
      have hch_4 : W20.cell? ⟨h, 4, none⟩ = some (.slice A4 done.length c4) := (blk_cell BKh.out 4).trans rfl
      have hfh_4 := blk_frozen BKh.out 4
      refine bodyPost_ret (results_cell_row rfl _ _ g 54 #[.string t, .slice A0_ x0.length c0_, .int .i64 x1, .slice A5_ y5.length c5_, .slice A4 done.length c4] (0, 0) _ rfl BKg.out Tryd.underlying54 rfl (by kernel_rfl)) rfl ?_
      have h_ := RowSt.last (by have := HRk.out; rw [show x3.toNat - k = 0 by have := HLT.out; omega] at this; exact this)
      have f_ := fn_comp HSs1.out HVt.out HSs2.out HV0.out HSs3.out HV1.out HSs4.out HV2.out (s6 := sk) (by rw [← HR6.out]; exact h_.1.symm) (by rw [← HR6.out]; exact h_.2)
      rw [← HY5.out] at f_
      refine ⟨A0_, c0_, A5_, c5_, A4, c4, ⟨t, x0, x1, y5, done⟩, rfl, Kd.R_mono HO1.out (fun _ h => h.1), HO5.out, HO.out, ⟨by show t.size ≤ _; have h_ : t.size ≤ 65536 := HTS.out; omega, by show x0.length ≤ _; have := HLE0.out; omega, by show y5.length ≤ _; rw [HY5.out, List.length_append]; have := HLE0.out; have := HLE2.out; omega, by show done.length ≤ _; have := HKN.out; have := HN3.out; omega⟩, HK.out, ?_, f_.2⟩
      rw [← f_.1]; exact RB.out
end Go.Proofs.YteidgpaakoeefaaDoor
namespace Go.Proofs.YteidgpaakoeefaaDoor
open Go.RowKit Go.Proofs.YteidgpaakoeefaaDoorW.PrintWords Go.Proofs.YteidgpaakoeefaaDoorW.PrintLast Go.Proofs.YteidgpaakoeefaaDoorW.PrintMore
set_option linter.unusedVariables false
set_option linter.unusedSimpArgs false
open PIm
theorem venc_length (z : Nat) : (venc z).length = vl z := rfl
def Bytes (l : List Int) : Prop := ∀ x ∈ l, 0 ≤ x ∧ x < 256
structure Codec {α : Type} (put : α → List Int) (one : List Int → Int → Option (α × Int)) (ok : α → Prop) : Prop where
  there : ∀ (p q : List Int) (x : α), ok x → one (p ++ put x ++ q) p.length = some (x, (p.length : Int) + (put x).length)
  back : ∀ (l : List Int) (i : Int) (x : α) (j : Int), Bytes l → one l i = some (x, j) → 0 ≤ i ∧ i ≤ j ∧ j ≤ l.length ∧ (l.take j.toNat).drop i.toNat = put x ∧ ok x
theorem cut_join (l : List Int) {i j k : Int} (h0 : 0 ≤ i) (h1 : i ≤ j) (h2 : j ≤ k) (h3 : k ≤ l.length) : (l.take k.toNat).drop i.toNat = (l.take j.toNat).drop i.toNat ++ (l.take k.toNat).drop j.toNat := by
  obtain ⟨i, rfl⟩ : ∃ n : Nat, i = n := ⟨i.toNat, by omega⟩
  obtain ⟨j, rfl⟩ : ∃ n : Nat, j = n := ⟨j.toNat, by omega⟩
  obtain ⟨k, rfl⟩ : ∃ n : Nat, k = n := ⟨k.toNat, by omega⟩
  simp only [Int.toNat_natCast]
  have e : l.take k = l.take j ++ (l.take k).drop j := by
    conv => lhs; rw [← List.take_append_drop j (l.take k)]
    rw [List.take_take, Nat.min_eq_left (by omega)]
  conv => lhs; rw [e]
  rw [List.drop_append_of_le_length (by rw [List.length_take]; omega)]
theorem cut_self (l : List Int) (i : Int) : (l.take i.toNat).drop i.toNat = [] := by
  rw [List.drop_eq_nil_iff, List.length_take]; omega
theorem Codec.seq {α β : Type} {p1 : α → List Int} {r1 : List Int → Int → Option (α × Int)} {o1 : α → Prop} {p2 : β → List Int} {r2 : List Int → Int → Option (β × Int)} {o2 : β → Prop} (h1 : Codec p1 r1 o1) (h2 : Codec p2 r2 o2) :
    Codec (fun t : α × β => p1 t.1 ++ p2 t.2) (fun l i => (r1 l i).bind fun a => (r2 l a.2).bind fun b => some ((a.1, b.1), b.2)) (fun t => o1 t.1 ∧ o2 t.2) where
  there p q x hx := by
    have e1 : r1 (p ++ (p1 x.1 ++ p2 x.2) ++ q) p.length = some (x.1, (p.length : Int) + (p1 x.1).length) := by
      have := h1.there p (p2 x.2 ++ q) x.1 hx.1
      simpa [List.append_assoc] using this
    have e2 : r2 (p ++ (p1 x.1 ++ p2 x.2) ++ q) ((p.length : Int) + (p1 x.1).length) = some (x.2, (p.length : Int) + (p1 x.1).length + (p2 x.2).length) := by
      have := h2.there (p ++ p1 x.1) q x.2 hx.2
      rw [List.length_append] at this
      simpa [List.append_assoc] using this
    simp only [e1, e2, Option.bind_some]
    exact congrArg some (Prod.ext rfl (by simp only [List.length_append]; push_cast; omega))
  back l i x j hb h := by
    rcases e1 : r1 l i with _ | ⟨a, i1⟩
    · rw [e1] at h; cases h
    rw [e1, Option.bind_some] at h
    rcases e2 : r2 l i1 with _ | ⟨b, i2⟩
    · rw [e2] at h; cases h
    rw [e2, Option.bind_some] at h
    injection h with h; injection h with h h'
    subst h; subst h'
    obtain ⟨a1, a2, a3, a4, a5⟩ := h1.back l i a i1 hb e1
    obtain ⟨b1, b2, b3, b4, b5⟩ := h2.back l i1 b i2 hb e2
    exact ⟨a1, Int.le_trans a2 b2, b3, by rw [cut_join l a1 a2 b2 b3, a4, b4], a5, b5⟩
theorem Codec.congr {α : Type} {p p' : α → List Int} {r r' : List Int → Int → Option (α × Int)} {o o' : α → Prop} (h : Codec p r o) (hp : ∀ x, p' x = p x) (hr : ∀ l i, r' l i = r l i) (ho : ∀ x, o' x ↔ o x) : Codec p' r' o' := by
  obtain rfl : p' = p := funext hp
  obtain rfl : r' = r := funext fun l => funext fun i => hr l i
  obtain rfl : o' = o := funext fun x => propext (ho x)
  exact h
theorem Codec.iso {α β : Type} {p : β → List Int} {r : List Int → Int → Option (β × Int)} {o : β → Prop} (h : Codec p r o) (f : β → α) (g : α → β) (hgf : ∀ t, o t → g (f t) = t) :
    Codec (fun x => p (g x)) (fun l i => (r l i).map fun b => (f b.1, b.2)) (fun x => o (g x) ∧ f (g x) = x) where
  there a b x hx := by
    simp only [h.there a b (g x) hx.1, Option.map_some, hx.2]
  back l i x j hb e := by
    rcases e1 : r l i with _ | ⟨a, i1⟩
    · rw [e1] at e; cases e
    rw [e1, Option.map_some] at e
    injection e with e; injection e with e e'
    subst e; subst e'
    obtain ⟨a1, a2, a3, a4, a5⟩ := h.back l i a i1 hb e1
    have := hgf a a5
    exact ⟨a1, a2, a3, by simp only [this]; exact a4, by simp only [this]; exact ⟨a5, trivial⟩⟩
def okN (x : Int) : Prop := 0 ≤ x ∧ x ≤ 9223372036854775807
theorem natB_eq {n : Int} (h : 0 ≤ n) : natB n = venc n.toNat := by unfold natB numF; rw [if_neg (by omega)]; simp
theorem codecN : Codec natB rdN okN where
  there p q x hx := by
    unfold rdN
    rw [natB_eq hx.1, tk_venc p q x.toNat 9 (by decide) (by have := vl9 (z := x.toNat) (by have := hx.2; omega); omega) (by have := hx.2; omega), if_pos rfl, venc_length]
    simp only [Int.toNat_of_nonneg hx.1]
  back l i x j hb h := by
    have hr := tk_range l i 9 (by decide) (by decide) hb
    rw [show ((128 ^ (9 : Int).toNat : Nat) : Int) = 9223372036854775808 by decide] at hr
    unfold rdN at h
    split at h
    · next e =>
      injection h with h; injection h with h h'
      subst h; subst h'
      obtain ⟨b1, b2, b3, b4⟩ := tk_back l i 9 hb e
      exact ⟨b1, b2, b3, by rw [natB_eq hr.1]; exact b4, hr.1, by have := hr.2.1; omega⟩
    · cases h
theorem codecW : Codec wholeB rdW rng where
  there p q x hx := by
    unfold rdW wholeB
    have hz : 0 ≤ zz x ∧ zz x < 18446744073709551616 := by unfold zz; have := hx.1; have := hx.2; split <;> omega
    rw [tk_venc p q (zz x).toNat 10 (by decide) (by have := vl10 (z := (zz x).toNat) (by omega); omega) (by omega), if_pos rfl, venc_length]
    simp only [Int.toNat_of_nonneg hz.1, uz_zz]
  back l i x j hb h := by
    have hr := tk_range l i 10 (by decide) (by decide) hb
    unfold rdW at h
    split at h
    · next e =>
      injection h with h; injection h with h h'
      subst h; subst h'
      obtain ⟨b1, b2, b3, b4⟩ := tk_back l i 10 hb e
      refine ⟨b1, b2, b3, ?_, ?_⟩
      · unfold wholeB
        rw [zz_uz _ hr.1]; exact b4
      · have h1 := hr.1; have h2 := hr.2.2.1
        generalize (tk l i 10).1 = z at h1 h2
        unfold uz
        exact ⟨by split <;> omega, by split <;> omega⟩
    · cases h
theorem codecT : Codec textB rdT (fun s => s.size ≤ 65536) where
  there p q x hx := by
    unfold rdT
    have := rt_back p q x (by omega)
    rw [show p ++ textB x ++ q = p ++ venc x.size ++ bytesOf x ++ q by unfold textB; simp [List.append_assoc], this, if_pos rfl]
    unfold textB
    exact congrArg some (Prod.ext rfl (by simp only [List.length_append, venc_length, bytesOf_length]; push_cast; omega))
  back l i x j hb h := by
    have hr := tk_range l i 9 (by decide) (by decide) hb
    unfold rdT rtF at h
    by_cases h1 : (tk l i 9).2.2 ≠ 0
    · rw [if_pos h1, if_neg h1] at h; cases h
    rw [if_neg h1] at h
    by_cases h2 : 65536 < (tk l i 9).1
    · rw [if_pos h2, if_neg (by decide)] at h; cases h
    rw [if_neg h2] at h
    by_cases h3 : (l.length : Int) - (tk l i 9).2.1 < (tk l i 9).1
    · rw [if_pos h3, if_neg (by decide)] at h; cases h
    rw [if_neg h3, if_pos rfl] at h
    injection h with h; injection h with h h'
    obtain ⟨b1, b2, b3, b4⟩ := tk_back l i 9 hb (Decidable.not_not.1 h1)
    generalize tk l i 9 = t at h h' hr b1 b2 b3 b4 h2 h3
    obtain ⟨z, p, e⟩ := t
    simp only [] at h h' hr b1 b2 b3 b4 h2 h3
    subst h; subst h'
    have hlen : ((l.take (p + z).toNat).drop p.toNat).length = z.toNat := by
      rw [List.length_drop, List.length_take]; omega
    refine ⟨b1, by omega, by omega, ?_, by rw [strOfNums_size, hlen]; omega⟩
    rw [cut_join l b1 b2 (show p ≤ p + z by omega) (by omega), b4]
    unfold textB
    rw [strOfNums_size, hlen, bytesOf_str _ (fun x hx => hb x (List.mem_of_mem_take (List.mem_of_mem_drop hx)))]
theorem rdRow_there {α : Type} {put : α → List Int} {one : List Int → Int → Option (α × Int)} {ok : α → Prop} (h : Codec put one ok) (q : List Int) : ∀ (r : List α) (p : List Int), (∀ x ∈ r, ok x) →
    rdRow (one (p ++ r.flatMap put ++ q)) r.length p.length = some (r, (p.length : Int) + (r.flatMap put).length)
  | [], p, _ => by simp [rdRow]
  | x :: r, p, hr => by
    have e1 : one (p ++ (x :: r).flatMap put ++ q) p.length = some (x, (p.length : Int) + (put x).length) := by
      have := h.there p (r.flatMap put ++ q) x (hr x (by simp))
      simpa [List.flatMap_cons, List.append_assoc] using this
    have e2 := rdRow_there h q r (p ++ put x) (fun y hy => hr y (by simp [hy]))
    rw [show p ++ put x ++ r.flatMap put ++ q = p ++ (x :: r).flatMap put ++ q by simp [List.flatMap_cons, List.append_assoc], List.length_append] at e2
    rw [List.length_cons, rdRow, e1, Option.bind_some]
    rw [show ((p.length + (put x).length : Nat) : Int) = (p.length : Int) + (put x).length by push_cast; rfl] at e2
    simp only [e2, Option.bind_some]
    exact congrArg some (Prod.ext rfl (by simp only [List.flatMap_cons, List.length_append]; push_cast; omega))
theorem rdRow_back {α : Type} {put : α → List Int} {one : List Int → Int → Option (α × Int)} {ok : α → Prop} (h : Codec put one ok) (l : List Int) (hb : Bytes l) : ∀ (n : Nat) (i : Int) (r : List α) (j : Int), 0 ≤ i → i ≤ l.length → rdRow (one l) n i = some (r, j) →
    i ≤ j ∧ j ≤ l.length ∧ (l.take j.toNat).drop i.toNat = r.flatMap put ∧ (∀ x ∈ r, ok x) ∧ r.length = n
  | 0, i, r, j, h0, h1, e => by
    rw [rdRow] at e
    injection e with e; injection e with e e'
    subst e; subst e'
    exact ⟨Int.le_refl _, h1, by rw [cut_self]; rfl, (fun x hx => by cases hx), rfl⟩
  | n + 1, i, r, j, h0, h1, e => by
    rw [rdRow] at e
    rcases e1 : one l i with _ | ⟨a, i1⟩
    · rw [e1] at e; cases e
    rw [e1, Option.bind_some] at e
    rcases e2 : rdRow (one l) n i1 with _ | ⟨b, i2⟩
    · rw [e2] at e; cases e
    rw [e2, Option.bind_some] at e
    injection e with e; injection e with e e'
    subst e; subst e'
    obtain ⟨a1, a2, a3, a4, a5⟩ := h.back l i a i1 hb e1
    obtain ⟨b1, b2, b3, b4, b5⟩ := rdRow_back h l hb n i1 b i2 (by omega) a3 e2
    refine ⟨by omega, b2, ?_, ?_, by simp [b5]⟩
    · rw [cut_join l h0 a2 b1 b2, a4, b3]; rfl
    · intro x hx
      rcases List.mem_cons.1 hx with rfl | hx
      · exact a5
      · exact b4 x hx
theorem codecR {α : Type} {put : α → List Int} {one : List Int → Int → Option (α × Int)} {ok : α → Prop} (h : Codec put one ok) (most : Int) (hm : most ≤ 9223372036854775807) :
    Codec (fun r : List α => natB r.length ++ r.flatMap put) (fun l i => rdRows (one l) most l i) (fun r => (r.length : Int) ≤ most ∧ ∀ x ∈ r, ok x) where
  there p q r hr := by
    have e1 : rdN (p ++ (natB r.length ++ r.flatMap put) ++ q) p.length = some ((r.length : Int), (p.length : Int) + (natB r.length).length) := by
      have := codecN.there p (r.flatMap put ++ q) (r.length : Int) ⟨by omega, by have := hr.1; omega⟩
      simpa [List.append_assoc] using this
    have e2 := rdRow_there h q r (p ++ natB r.length) hr.2
    rw [show p ++ natB r.length ++ r.flatMap put ++ q = p ++ (natB r.length ++ r.flatMap put) ++ q by simp [List.append_assoc], List.length_append] at e2
    rw [show ((p.length + (natB r.length).length : Nat) : Int) = (p.length : Int) + (natB r.length).length by push_cast; rfl] at e2
    unfold rdRows
    rw [e1, Option.bind_some]
    simp only [Int.toNat_natCast]
    rw [if_neg (by have := hr.1; omega), e2]
    exact congrArg some (Prod.ext rfl (by simp only [List.length_append]; push_cast; omega))
  back l i r j hb e := by
    unfold rdRows at e
    rcases e1 : rdN l i with _ | ⟨a, i1⟩
    · rw [e1] at e; cases e
    rw [e1, Option.bind_some] at e
    simp only [] at e
    split at e
    · cases e
    · next hma =>
      obtain ⟨a1, a2, a3, a4, a5⟩ := codecN.back l i a i1 hb e1
      obtain ⟨b1, b2, b3, b4, b5⟩ := rdRow_back h l hb a.toNat i1 r j (by omega) a3 e
      have hn : (r.length : Int) = a := by have := a5.1; omega
      exact ⟨a1, by omega, b2, by rw [cut_join l a1 a2 b1 b2, a4, b3, hn], by omega, b4⟩
theorem codecG : Codec putG rdG (fun x => okN x.f0 ∧ okN x.f1 ∧ rng x.f2) := by
  have h := (codecN.seq (codecN.seq codecW)).iso (fun t => (⟨t.1, t.2.1, t.2.2⟩ : S48)) (fun x => (x.f0, x.f1, x.f2)) (fun _ _ => rfl)
  refine h.congr (fun x => rfl) (fun l i => ?_) (fun x => ⟨fun hx => ⟨hx, rfl⟩, fun hx => hx.1⟩)
  unfold rdG
  cases rdN l i with
  | none => rfl
  | some a =>
    simp only [Option.bind_some]
    cases rdN l a.2 with
    | none => rfl
    | some b =>
      simp only [Option.bind_some]
      cases rdW l b.2 <;> rfl
theorem codecC : Codec putC rdC (fun x => okN x.f0 ∧ rng x.f1 ∧ okN x.f2) := by
  have h := (codecN.seq (codecW.seq codecN)).iso (fun t => (⟨t.1, t.2.1, t.2.2⟩ : S50)) (fun x => (x.f0, x.f1, x.f2)) (fun _ _ => rfl)
  refine h.congr (fun x => rfl) (fun l i => ?_) (fun x => ⟨fun hx => ⟨hx, rfl⟩, fun hx => hx.1⟩)
  unfold rdC
  cases rdN l i with
  | none => rfl
  | some a =>
    simp only [Option.bind_some]
    cases rdW l a.2 with
    | none => rfl
    | some b =>
      simp only [Option.bind_some]
      cases rdN l b.2 <;> rfl
def okW (f : S54) : Prop := f.f0.size ≤ 65536 ∧ ((f.f1.length : Int) ≤ 8 ∧ ∀ x ∈ f.f1, okN x) ∧ okN f.f2 ∧ (((f.f3.drop f.f1.length).length : Int) ≤ 32 ∧ ∀ x ∈ f.f3.drop f.f1.length, okN x) ∧ ((f.f4.length : Int) ≤ 32768 ∧ ∀ x ∈ f.f4, okN x.f0 ∧ rng x.f1 ∧ okN x.f2)
theorem codecF : Codec putF rdF (fun f => okW f ∧ f.f3 = f.f1 ++ f.f3.drop f.f1.length) := by
  have h := (codecT.seq ((codecR codecN 8 (by decide)).seq (codecN.seq ((codecR codecN 32 (by decide)).seq (codecR codecC 32768 (by decide)))))).iso
    (fun t => (⟨t.1, t.2.1, t.2.2.1, t.2.1 ++ t.2.2.2.1, t.2.2.2.2⟩ : S54)) (fun x => (x.f0, x.f1, x.f2, x.f3.drop x.f1.length, x.f4)) (fun t _ => by simp)
  refine h.congr (fun x => rfl) (fun l i => ?_) (fun x => ⟨fun hx => ⟨hx.1, by rw [← hx.2]⟩, fun hx => ⟨hx.1, (congrArg S54.f3 hx.2).symm⟩⟩)
  unfold rdF
  cases rdT l i with
  | none => rfl
  | some a =>
    simp only [Option.bind_some]
    cases rdRows (rdN l) 8 l a.2 with
    | none => rfl
    | some b =>
      simp only [Option.bind_some]
      cases rdN l b.2 with
      | none => rfl
      | some n =>
        simp only [Option.bind_some]
        cases rdRows (rdN l) 32 l n.2 with
        | none => rfl
        | some m =>
          simp only [Option.bind_some]
          cases rdRows (rdC l) 32768 l m.2 <;> rfl
def rdBoth (l : List Int) (i : Int) : Option ((List S48 × List S54) × Int) := (rdRows (rdG l) 64 l i).bind fun g => (rdRows (rdF l) 64 l g.2).bind fun f => some ((g.1, f.1), f.2)
def okA (t : List S48 × List S54) : Prop := ((t.1.length : Int) ≤ 64 ∧ ∀ x ∈ t.1, okN x.f0 ∧ okN x.f1 ∧ rng x.f2) ∧ ((t.2.length : Int) ≤ 64 ∧ ∀ f ∈ t.2, okW f ∧ f.f3 = f.f1 ++ f.f3.drop f.f1.length)
theorem codecA : Codec (fun t : List S48 × List S54 => rowG t.1 ++ rowF t.2) rdBoth okA := (codecR codecG 64 (by decide)).seq (codecR codecF 64 (by decide))
theorem rdAll_both (l : List Int) : rdAll l = rdBoth l 4 := rfl
end Go.Proofs.YteidgpaakoeefaaDoor
namespace Go.Proofs.YteidgpaakoeefaaDoor
open Go.RowKit Go.Proofs.YteidgpaakoeefaaDoorW.PrintWords Go.Proofs.YteidgpaakoeefaaDoorW.PrintLast Go.Proofs.YteidgpaakoeefaaDoorW.PrintMore
set_option linter.unusedVariables false
set_option linter.unusedSimpArgs false
theorem opF_frame (l : List Int) : opF (frameF l) = (l, true) := by
  have hl := frameF_len l
  have ht : (frameF l).take ((frameF l).length - 4) = l := by
    rw [hl, show l.length + 4 - 4 = l.length by omega]
    unfold frameF
    exact List.take_left' rfl
  unfold opF
  rw [if_neg (by omega), ht, if_pos rfl]
end Go.Proofs.YteidgpaakoeefaaDoor
namespace Go.Proofs.YteidgpaakoeefaaDoor
open Go.RowKit Go.Proofs.YteidgpaakoeefaaDoorW.PrintWords Go.Proofs.YteidgpaakoeefaaDoorW.PrintLast Go.Proofs.YteidgpaakoeefaaDoorW.PrintMore
set_option linter.unusedVariables false
set_option linter.unusedSimpArgs false
open PIm
def rngA (gs : List S48) (fs : List S54) : Prop := (∀ x ∈ gs, rng x.f0 ∧ rng x.f1 ∧ rng x.f2) ∧ ∀ f ∈ fs, rng f.f2 ∧ (∀ x ∈ f.f1, rng x) ∧ (∀ x ∈ f.f3, rng x) ∧ ∀ x ∈ f.f4, rng x.f0 ∧ rng x.f1 ∧ rng x.f2
def argA (gs : List S48) (fs : List S54) : Prop := gs.length ≤ 140737488355318 ∧ fs.length ≤ 140737488355318 ∧ (∀ f ∈ fs, fnIn f) ∧ rngA gs fs
theorem nameF_len {s : ByteArray} (h : nameF s = true) : s.size ≤ 24 := by
  unfold nameF at h
  split at h
  · cases h
  · simp only [Bool.and_eq_true, decide_eq_true_eq] at h; exact h.1
theorem globB_ok {g : S48} (h : globB g = true) : 0 ≤ g.f0 ∧ g.f0 ≤ 4 ∧ 0 ≤ g.f1 ∧ g.f1 ≤ 256 := by
  unfold globB typB at h
  simp only [Bool.and_eq_true, decide_eq_true_eq] at h
  omega
theorem typB_ok {t : Int} (h : typB t = true) : 0 ≤ t ∧ t ≤ 4 := by
  unfold typB at h
  simp only [Bool.and_eq_true, decide_eq_true_eq] at h
  omega
theorem fnB_ok {f : S54} (h : fnB f = true) : f.f0.size ≤ 24 ∧ f.f1.length ≤ 8 ∧ f.f3.length ≤ 32 ∧ f.f4.length ≤ 32768 ∧ (∀ x ∈ f.f3, 0 ≤ x ∧ x ≤ 4) ∧ (0 ≤ f.f2 ∧ f.f2 ≤ 4) ∧ f.f1.length ≤ f.f3.length ∧ f.f1 = f.f3.take f.f1.length ∧
    ∀ x ∈ f.f4, 1 ≤ x.f0 ∧ x.f0 ≤ 33 ∧ 0 ≤ x.f2 ∧ x.f2 ≤ 4 := by
  unfold fnB at h
  simp only [Bool.and_eq_true, decide_eq_true_eq, Bool.or_eq_true, Bool.not_eq_true', List.all_eq_true] at h
  obtain ⟨h0, h1, h3, h4, ht, h2, hle, heq, hi⟩ := h
  refine ⟨nameF_len h0, h1, h3, h4, fun x hx => typB_ok (ht x hx), ?_, hle, heq, fun x hx => ?_⟩
  · rcases h2 with h2 | h2
    · omega
    · exact typB_ok h2
  · have := (List.any_eq_false.1 hi) x hx
    unfold insBad at this
    simp only [Bool.or_eq_true, decide_eq_true_eq] at this
    omega
theorem okF_parts {gs : List S48} {fs : List S54} (h : okF gs fs = true) : gs.length ≤ 64 ∧ fs.length ≤ 64 ∧ (∀ x ∈ gs, globB x = true) ∧ ∀ f ∈ fs, fnB f = true := by
  unfold okF at h
  simp only [Bool.and_eq_true, decide_eq_true_eq, Bool.not_eq_true', List.any_eq_false] at h
  exact ⟨h.1, h.2.1, fun x hx => by simpa using h.2.2.1 x hx, fun f hf => by simpa using h.2.2.2 f hf⟩
theorem okF_okA {gs : List S48} {fs : List S54} (h : okF gs fs = true) (hr : rngA gs fs) : okA (gs, fs) := by
  obtain ⟨h1, h2, h3, h4⟩ := okF_parts h
  refine ⟨⟨by show (gs.length : Int) ≤ 64; omega, fun x hx => ?_⟩, ⟨by show (fs.length : Int) ≤ 64; omega, fun f hf => ?_⟩⟩
  · have a := globB_ok (h3 x hx)
    exact ⟨⟨a.1, by omega⟩, ⟨a.2.2.1, by omega⟩, (hr.1 x hx).2.2⟩
  · obtain ⟨b0, b1, b3, b4, bt, b2, ble, beq, bi⟩ := fnB_ok (h4 f hf)
    have hN : ∀ x ∈ f.f3, okN x := fun x hx => ⟨(bt x hx).1, by have := (bt x hx).2; omega⟩
    have hj : f.f3 = f.f1 ++ f.f3.drop f.f1.length := by
      conv => lhs; rw [← List.take_append_drop f.f1.length f.f3, ← beq]
    refine ⟨⟨by omega, ⟨by omega, fun x hx => hN x ?_⟩, ⟨b2.1, by have := b2.2; omega⟩, ⟨by rw [List.length_drop]; omega, fun x hx => hN x (List.mem_of_mem_drop hx)⟩, ⟨by omega, fun x hx => ?_⟩⟩, hj⟩
    · rw [beq] at hx; exact List.mem_of_mem_take hx
    · have := bi x hx
      exact ⟨⟨by omega, by omega⟩, ((hr.2 f hf).2.2.2 x hx).2.1, ⟨by omega, by omega⟩⟩
theorem flat_len {α : Type} {put : α → List Int} {c : Nat} : ∀ (l : List α), (∀ x ∈ l, (put x).length ≤ c) → (l.flatMap put).length ≤ l.length * c
  | [], _ => by simp
  | x :: l, h => by
    rw [List.flatMap_cons, List.length_append, List.length_cons, Nat.add_mul, Nat.one_mul]
    have h1 := h x (by simp)
    have h2 := flat_len l (fun y hy => h y (by simp [hy]))
    omega
theorem natB_le {n : Int} (h : okN n) : (natB n).length ≤ 1000 := (natB_len h.1 h.2).2
theorem wholeB_le {n : Int} (h : rng n) : (wholeB n).length ≤ 1000 := by
  unfold wholeB
  rw [venc_length]
  have hz : 0 ≤ zz n ∧ zz n < 18446744073709551616 := by unfold zz; have := h.1; have := h.2; split <;> omega
  have := vl10 (z := (zz n).toNat) (by omega)
  omega
set_option maxRecDepth 100000 in
theorem body_len {gs : List S48} {fs : List S54} (h : okA (gs, fs)) : (bodyF gs fs).length ≤ 140737488355318 := by
  obtain ⟨⟨h1, h2⟩, ⟨h3, h4⟩⟩ := h
  have h1' : (gs.length : Int) ≤ 64 := h1
  have h3' : (fs.length : Int) ≤ 64 := h3
  have a := flat_len (put := putG) (c := 3000) gs (fun x hx => by
    have q := h2 x hx
    have q0 := natB_le q.1; have q1 := natB_le q.2.1; have q2 := wholeB_le q.2.2
    unfold putG; simp only [List.length_append]; omega)
  have b := flat_len (put := putF) (c := 200000000) fs (fun f hf => by
    obtain ⟨⟨q0, ⟨q1, q1'⟩, q2, ⟨q3, q3'⟩, ⟨q4, q4'⟩⟩, q5⟩ := h4 f hf
    have e1 := flat_len (put := putI) (c := 1000) f.f1 (fun x hx => natB_le (q1' x hx))
    have e3 := flat_len (put := putI) (c := 1000) (f.f3.drop f.f1.length) (fun x hx => natB_le (q3' x hx))
    have e4 := flat_len (put := putC) (c := 3000) f.f4 (fun x hx => by
      have q := q4' x hx
      have w0 := natB_le q.1; have w1 := wholeB_le q.2.1; have w2 := natB_le q.2.2
      unfold putC; simp only [List.length_append]; omega)
    have n1 := natB_le (n := (f.f1.length : Int)) ⟨by omega, by omega⟩
    have n2 := natB_le q2
    have n3 := natB_le (n := ((f.f3.drop f.f1.length).length : Int)) ⟨by omega, by omega⟩
    have n4 := natB_le (n := (f.f4.length : Int)) ⟨by omega, by omega⟩
    have n0 := vl9 (z := f.f0.size) (by omega)
    unfold putF textB rowI rowC
    simp only [List.length_append, venc_length, bytesOf_length]
    have m1 : f.f1.length * 1000 ≤ 8000 := by omega
    have m3 : (f.f3.drop f.f1.length).length * 1000 ≤ 32000 := by omega
    have m4 : f.f4.length * 3000 ≤ 98304000 := by omega
    omega)
  have n1 := natB_le (n := (gs.length : Int)) ⟨by omega, by omega⟩
  have n3 := natB_le (n := (fs.length : Int)) ⟨by omega, by omega⟩
  unfold bodyF rowG rowF
  simp only [List.length_append, List.length_cons, List.length_nil]
  omega
theorem enc_args {gs : List S48} {fs : List S54} (h : argA gs fs) : image_Encode.f gs fs = some (encF gs fs) := by
  obtain ⟨h1, h2, h3, h4⟩ := h
  refine enc_f gs fs h1 h2 h3 (fun hok => ?_)
  obtain ⟨p1, p2, p3, p4⟩ := okF_parts hok
  refine ⟨h4.1, fun f hf => ?_, body_len (okF_okA hok h4)⟩
  obtain ⟨b0, b1, b3, b4, bt, b2, ble, beq, bi⟩ := fnB_ok (p4 f hf)
  obtain ⟨r2, r1, r3, r4⟩ := h4.2 f hf
  exact ⟨by omega, r1, r2, r3, r4, ble, by omega, by omega⟩
theorem body_eq (gs : List S48) (fs : List S54) : bodyF gs fs = [84, 73, 76, 84] ++ (rowG gs ++ rowF fs) := by unfold bodyF; rw [List.append_assoc]
theorem rdAll_body {gs : List S48} {fs : List S54} (h : okA (gs, fs)) (q : List Int) : rdAll (bodyF gs fs ++ q) = some ((gs, fs), ((bodyF gs fs).length : Int)) := by
  rw [rdAll_both, body_eq]
  have := codecA.there [84, 73, 76, 84] q (gs, fs) h
  rw [show (([84, 73, 76, 84] : List Int).length : Int) = 4 from rfl] at this
  rw [this]
  exact congrArg some (Prod.ext rfl (by simp only [List.length_append]; push_cast; rfl))
theorem body_take (gs : List S48) (fs : List S54) : (bodyF gs fs).take 4 = [84, 73, 76, 84] ∧ ¬ (bodyF gs fs).length < 4 := by
  rw [body_eq]
  exact ⟨rfl, by simp only [List.length_append, List.length_cons, List.length_nil]; omega⟩
theorem there {gs : List S48} {fs : List S54} (h : okF gs fs = true) (hr : rngA gs fs) (hl : ¬ 1048576 < (frameF (bodyF gs fs)).length) : decF (frameF (bodyF gs fs)) = (gs, fs, 0) := by
  unfold decF
  rw [if_neg hl, opF_frame]
  obtain ⟨t1, t2⟩ := body_take gs fs
  rw [if_neg (fun q => q.elim (fun q => by cases q) (fun q => q.elim t2 (fun q => q t1)))]
  have := rdAll_body (okF_okA h hr) []
  rw [List.append_nil] at this
  simp only [this]
  rw [if_pos ⟨trivial, h⟩]
theorem rd_body {b : List Int} (hb : Bytes b) (h4 : ¬ b.length < 4) (ht : b.take 4 = [84, 73, 76, 84]) {r : List S48 × List S54} {j : Int} (h : rdAll b = some (r, j)) : okA r ∧ b.take j.toNat = bodyF r.1 r.2 ∧ 4 ≤ j ∧ j ≤ b.length := by
  rw [rdAll_both] at h
  obtain ⟨a1, a2, a3, a4, a5⟩ := codecA.back b 4 r j hb h
  refine ⟨a5, ?_, a2, a3⟩
  have e := cut_join b (i := 0) (j := 4) (k := j) (by omega) (by omega) a2 a3
  simp only [Int.toNat_zero, List.drop_zero] at e
  rw [e, a4, body_eq]
  rw [show (4 : Int).toNat = 4 from rfl, ht]
theorem opF_bytes {l : List Int} (hb : Bytes l) : Bytes (opF l).1 := fun x hx => hb x (opF_sub l x hx)
theorem opF_true {l : List Int} (h : (opF l).2 = true) : frameF (opF l).1 = l := by
  unfold opF at h ⊢
  split at h
  · cases h
  · next h4 =>
    split at h
    · next he => rw [if_neg h4, if_pos he]; exact he
    · cases h
theorem back {l : List Int} (hb : Bytes l) {gs : List S48} {fs : List S54} (h : decF l = (gs, fs, 0)) : okF gs fs = true ∧ okA (gs, fs) ∧ l = frameF (bodyF gs fs) ∧ ¬ 1048576 < l.length := by
  unfold decF at h
  split at h
  · injection h with _ h; injection h with _ h; cases h
  next hl =>
  split at h
  · unfold badI at h; injection h with _ h; injection h with _ h; cases h
  next hc =>
  rcases hr : rdAll (opF l).1 with _ | ⟨r, j⟩
  · rw [hr] at h; simp only [badI] at h; injection h with _ h; injection h with _ h; cases h
  · rw [hr] at h
    simp only [] at h
    split at h
    · next hok =>
      injection h with h1 h; injection h with h2 h3
      have h4 : ¬ (opF l).1.length < 4 := fun q => hc (.inr (.inl q))
      have ht : (opF l).1.take 4 = [84, 73, 76, 84] := Decidable.not_not.1 (fun q => hc (.inr (.inr q)))
      have ho : (opF l).2 = true := by cases q : (opF l).2 with
        | true => rfl
        | false => exact absurd (.inl q) hc
      obtain ⟨a1, a2, a3, a4⟩ := rd_body (opF_bytes hb) h4 ht hr
      have e : (opF l).1 = bodyF r.1 r.2 := by
        rw [← a2, hok.1, Int.toNat_natCast, List.take_length]
      subst h1; subst h2
      refine ⟨hok.2, a1, ?_, hl⟩
      rw [← e]; exact (opF_true ho).symm
    · simp only [badI] at h; injection h with _ h; injection h with _ h; cases h
end Go.Proofs.YteidgpaakoeefaaDoor
namespace Go.Proofs.YteidgpaakoeefaaDoor
open Go.RowKit Go.Proofs.YteidgpaakoeefaaDoorW.PrintWords Go.Proofs.YteidgpaakoeefaaDoorW.PrintLast Go.Proofs.YteidgpaakoeefaaDoorW.PrintMore
set_option linter.unusedVariables false
open PIm
def PIm.image_Decode.f (l0 : List Int) : Option (List S48 × List S54 × Int) := if l0.length ≤ 140737488355318 ∧ ∀ x ∈ l0, 0 ≤ x ∧ x < 256 then some (decF l0) else none
theorem PIm.image_Decode.calls (A0 : Option Addr) (c0 : Nat) (l0 : List Int) (r1 : List S48) (r2 : List S54) (r3 : Int) (w : World) (hr0 : Kd.C (Kd.int .u8) w A0 l0.length l0) (hc0 : l0.length ≤ c0) (h : PIm.image_Decode.f l0 = some (r1, r2, r3)) (hW : Tab w) :
    Calls Tryd.prog 17 #[.slice A0 l0.length c0] w fun e w' => ∃ v0_ v1_ : Value, e = .returned (.tuple #[.agg #[v0_, v1_], .int .i64 r3]) ∧ Kd.R k48 48 w' w.heap.size (fun _ => True) v0_ r1 ∧ Kd.S k54 54 w' w.heap.size (fun _ => True) v1_ r2 ∧ Below w.heap.size w w' := by
  unfold PIm.image_Decode.f at h
  split at h
  · next hc =>
    have e := Option.some.inj h
    have := Decode_calls A0 c0 l0 w hr0 hc0 hc.1 hc.2 hW
    rw [e] at this
    exact this
  · cases h
end Go.Proofs.YteidgpaakoeefaaDoor
namespace Go.Proofs.YteidgpaakoeefaaDoor.PIm
open Go.RowKit Go.Proofs.YteidgpaakoeefaaDoorW.PrintWords Go.Proofs.YteidgpaakoeefaaDoorW.PrintLast Go.Proofs.YteidgpaakoeefaaDoorW.PrintMore
attribute [local go_sem] max2_int min2_int max_two min_two max_three min_three max_four min_four   -- for this text's walks alone
set_option linter.unusedVariables false
set_option linter.unusedSimpArgs false
def tiltyardref14_row.l0 : Nat → List Int → List Int → Int → Option (Bool)
  | 0, _, _, _ => none
  | k + 1, x0, x1, x5 => if x5 < (x0.length : Int) then (if 0 ≤ x5 then (if x5 < (x1.length : Int) then (if (rd x0 x5) = (rd x1 x5) then (tiltyardref14_row.l0 k x0 x1 (wrap64 (x5 + 1))) else (some false)) else (none)) else (none)) else (some true)
def tiltyardref14_row.f (k : Nat) (l0 : List Int) (l1 : List Int) : Option (Bool) := if (l0.length : Int) = (l1.length : Int) then (tiltyardref14_row.l0 k l0 l1 0) else (some false)
set_option maxHeartbeats 8000000 in
set_option maxRecDepth 100000 in
theorem tiltyardref14_row.calls (k : Nat) (A0 : Option Addr) (c0 : Nat) (l0 : List Int) (A1 : Option Addr) (c1 : Nat) (l1 : List Int) (r : Bool) (w : World) (hr0 : Kd.C (Kd.int .i64) w A0 l0.length l0) (hc0 : l0.length ≤ c0) (hr1 : Kd.C (Kd.int .i64) w A1 l1.length l1) (hc1 : l1.length ≤ c1) (h : tiltyardref14_row.f k l0 l1 = some r) :
    Calls Tryd.prog 33 #[.slice A0 l0.length c0, .slice A1 l1.length c1] w fun e w' => e = .returned (.bool r) ∧ Drawn0 w w' := by
  have HR0 := Aside0.mk hr0
  have HC0 := Aside0.mk hc0
  clear hr0 hc0
  have HR1 := Aside0.mk hr1
  have HC1 := Aside0.mk hc1
  clear hr1 hc1
  have H : (if (l0.length : Int) = (l1.length : Int) then (tiltyardref14_row.l0 k l0 l1 0) else (some false)) = some r := h
  clear h
  by_cases c3 : (l0.length : Int) = (l1.length : Int)
  · rw [if_pos c3] at H
    have c3b0 : ((l0.length : Int) == (l1.length : Int)) = true := beq_iff_eq.mpr c3
    have c3b1 : ((l0.length : Int) != (l1.length : Int)) = false := bne_eq_false_iff_eq.mpr c3
    have c3b2 : (l0.length == l1.length) = true := by first | simpa using c3 | (simp at c3 ⊢; omega)
    clear c3
    have H' := Aside0.mk H
    clear H
    go_enter Tryd.func33, Tryd.ntmps33
    go_wp2
    repeat (go_quiet (fail); try go_wp2)
    go_loopg [5] k (fun kq v5 w' => ∃ (x5_1 : Int), v5 = .int .i64 x5_1 ∧ Aside0 (tiltyardref14_row.l0 kq l0 l1 x5_1 = some r) ∧ Aside0 (kq ≤ k) ∧ Drawn0 w w')
    case atStart => exact ⟨(0), (by first | rfl | (simp; done) | (simp [*]; done)), H', ⟨Nat.le_refl _⟩, by repeat (first | exact Drawn0.refl _ | apply Drawn0.step)⟩
    case round =>
      clear H'
      try clear c1
      try clear p2
      try clear c3
      try clear c3b0
      try clear c3b1
      try clear c3b2
      obtain ⟨x5_1, rfl, HA, HK1, ⟨m1, rfl⟩⟩ := hrel
      cases gk with
      | zero => exact absurd HA.out (by simp [tiltyardref14_row.l0])
      | succ k1 =>
        have H := HA.out
        clear HA
        simp only [tiltyardref14_row.l0] at H
        by_cases c4 : x5_1 < (l0.length : Int)
        · rw [if_pos c4] at H
          have c4b0 : decide (x5_1 < (l0.length : Int)) = true := decide_eq_true c4
          clear c4
          by_cases c5 : 0 ≤ x5_1
          · rw [if_pos c5] at H
            have c5b0 : decide (0 ≤ x5_1) = true := decide_eq_true c5
            clear c5
            by_cases c6 : x5_1 < (l1.length : Int)
            · rw [if_pos c6] at H
              have c6b0 : decide (x5_1 < (l1.length : Int)) = true := decide_eq_true c6
              clear c6
              by_cases c7 : (rd l0 x5_1) = (rd l1 x5_1)
              · rw [if_pos c7] at H
                have c7b0 : ((rd l0 x5_1) == (rd l1 x5_1)) = true := beq_iff_eq.mpr c7
                have c7b1 : ((rd l0 x5_1) != (rd l1 x5_1)) = false := bne_eq_false_iff_eq.mpr c7
                clear c7
                have H' := Aside0.mk H
                clear H
                have p183 : 0 ≤ (x5_1 : Int) := of_decide_eq_true (by first | (with_reducible assumption) | assumption)
                have q183 : x5_1 < (l0.length : Int) := of_decide_eq_true (by first | (with_reducible assumption) | assumption)
                obtain ⟨ad183, e183, hx183_0⟩ := Kd.at_int HR0.out x5_1 p183 q183
                cases e183
                replace p183 := eq_true p183
                replace q183 := eq_true q183
                have p184 : 0 ≤ (x5_1 : Int) := of_decide_eq_true (by first | (with_reducible assumption) | assumption)
                have q184 : x5_1 < (l1.length : Int) := of_decide_eq_true (by first | (with_reducible assumption) | assumption)
                obtain ⟨ad184, e184, hx184_0⟩ := Kd.at_int HR1.out x5_1 p184 q184
                cases e184
                replace p184 := eq_true p184
                replace q184 := eq_true q184
                go_wp2
                repeat (go_quiet (fail); try go_wp2)
                go_roundg k1
                case measure => have := HK1.out; omega
                case rel => exact ⟨(wrap64 (x5_1 + 1)), (by first | rfl | (simp; done) | (simp [*]; done)), H', ⟨by have := HK1.out; omega⟩, by repeat (first | exact Drawn0.refl _ | apply Drawn0.step)⟩
              · rw [if_neg c7] at H
                have c7b0 : ((rd l0 x5_1) == (rd l1 x5_1)) = false := beq_eq_false_iff_ne.mpr c7
                have c7b1 : ((rd l0 x5_1) != (rd l1 x5_1)) = true := bne_iff_ne.mpr c7
                obtain rfl := Option.some.inj H
                have p183 : 0 ≤ (x5_1 : Int) := of_decide_eq_true (by first | (with_reducible assumption) | assumption)
                have q183 : x5_1 < (l0.length : Int) := of_decide_eq_true (by first | (with_reducible assumption) | assumption)
                obtain ⟨ad183, e183, hx183_0⟩ := Kd.at_int HR0.out x5_1 p183 q183
                cases e183
                replace p183 := eq_true p183
                replace q183 := eq_true q183
                have p184 : 0 ≤ (x5_1 : Int) := of_decide_eq_true (by first | (with_reducible assumption) | assumption)
                have q184 : x5_1 < (l1.length : Int) := of_decide_eq_true (by first | (with_reducible assumption) | assumption)
                obtain ⟨ad184, e184, hx184_0⟩ := Kd.at_int HR1.out x5_1 p184 q184
                cases e184
                replace p184 := eq_true p184
                replace q184 := eq_true q184
                go_wp2
                repeat (go_quiet (fail); try go_wp2)
                go_ret
                exact ⟨by first | rfl | (simp; done) | (simp [*]; done), by repeat (first | exact Drawn0.refl _ | apply Drawn0.step)⟩
            · rw [if_neg c6] at H
              exact absurd H (by simp)
          · rw [if_neg c5] at H
            exact absurd H (by simp)
        · rw [if_neg c4] at H
          have c4b0 : decide (x5_1 < (l0.length : Int)) = false := decide_eq_false c4
          clear c4
          obtain rfl := Option.some.inj H
          go_wp2
          repeat (go_quiet (fail); try go_wp2)
          go_ret
          exact ⟨by first | rfl | (simp; done) | (simp [*]; done), by repeat (first | exact Drawn0.refl _ | apply Drawn0.step)⟩
  · rw [if_neg c3] at H
    have c3b0 : ((l0.length : Int) == (l1.length : Int)) = false := beq_eq_false_iff_ne.mpr c3
    have c3b1 : ((l0.length : Int) != (l1.length : Int)) = true := bne_iff_ne.mpr c3
    have c3b2 : (l0.length == l1.length) = false := by first | simpa using c3 | (simp at c3 ⊢; omega)
    obtain rfl := Option.some.inj H
    go_enter Tryd.func33, Tryd.ntmps33
    go_wp2
    repeat (go_quiet (fail); try go_wp2)
    go_ret
    exact ⟨by first | rfl | (simp; done) | (simp [*]; done), by repeat (first | exact Drawn0.refl _ | apply Drawn0.step)⟩
end Go.Proofs.YteidgpaakoeefaaDoor.PIm
namespace Go.Proofs.YteidgpaakoeefaaDoor.PIm
open Go.RowKit Go.Proofs.YteidgpaakoeefaaDoorW.PrintWords Go.Proofs.YteidgpaakoeefaaDoorW.PrintLast Go.Proofs.YteidgpaakoeefaaDoorW.PrintMore
attribute [local go_sem] max2_int min2_int max_two min_two max_three min_three max_four min_four   -- for this text's walks alone
set_option linter.unusedVariables false
set_option linter.unusedSimpArgs false
theorem eqA48 (d : Nat) (w : World) (x0 y0 : Int) (x1 y1 : Int) (x2 y2 : Int) :
    (Op.equalIn (d + 2) 48 (.agg #[.int .i64 x0, .int .i64 x1, .int .i64 x2]) (.agg #[.int .i64 y0, .int .i64 y1, .int .i64 y2])).run Tryd.prog w = .ok (x0 == y0 && (x1 == y1 && (x2 == y2))) w := by
  refine eqA_of Tryd.underlying48 (by kernel_rfl) ?_
  refine eqf_cons (by rfl) (by go_simp; rfl) (by go_simp; rfl) (by go_simp) ?_
  refine eqf_cons (by rfl) (by go_simp; rfl) (by go_simp; rfl) (by go_simp) ?_
  exact eqf_last (by rfl) (by go_simp; rfl) (by go_simp; rfl) (by go_simp)
end Go.Proofs.YteidgpaakoeefaaDoor.PIm
namespace Go.Proofs.YteidgpaakoeefaaDoor.PIm
open Go.RowKit Go.Proofs.YteidgpaakoeefaaDoorW.PrintWords Go.Proofs.YteidgpaakoeefaaDoorW.PrintLast Go.Proofs.YteidgpaakoeefaaDoorW.PrintMore
attribute [local go_sem] max2_int min2_int max_two min_two max_three min_three max_four min_four   -- for this text's walks alone
set_option linter.unusedVariables false
set_option linter.unusedSimpArgs false
theorem eqA50 (d : Nat) (w : World) (x0 y0 : Int) (x1 y1 : Int) (x2 y2 : Int) :
    (Op.equalIn (d + 2) 50 (.agg #[.int .i64 x0, .int .i64 x1, .int .i64 x2]) (.agg #[.int .i64 y0, .int .i64 y1, .int .i64 y2])).run Tryd.prog w = .ok (x0 == y0 && (x1 == y1 && (x2 == y2))) w := by
  refine eqA_of Tryd.underlying50 (by kernel_rfl) ?_
  refine eqf_cons (by rfl) (by go_simp; rfl) (by go_simp; rfl) (by go_simp) ?_
  refine eqf_cons (by rfl) (by go_simp; rfl) (by go_simp; rfl) (by go_simp) ?_
  exact eqf_last (by rfl) (by go_simp; rfl) (by go_simp; rfl) (by go_simp)
end Go.Proofs.YteidgpaakoeefaaDoor.PIm
namespace Go.Proofs.YteidgpaakoeefaaDoor
open Go.RowKit Go.Proofs.YteidgpaakoeefaaDoorW.PrintWords Go.Proofs.YteidgpaakoeefaaDoorW.PrintLast Go.Proofs.YteidgpaakoeefaaDoorW.PrintMore
set_option linter.unusedVariables false
set_option linter.unusedSimpArgs false
open PIm
attribute [local go_sem high] eqA48 eqA50
def Evt {α : Type} (f : Nat → Option α) (v : α) : Prop := ∃ k0, ∀ k, k0 ≤ k → f k = some v
theorem Evt.step {α : Type} {f g : Nat → Option α} {v : α} (h : Evt g v) (e : ∃ k0, ∀ k, k0 ≤ k → f (k + 1) = g k) : Evt f v := by
  obtain ⟨a, ha⟩ := h; obtain ⟨b, hb⟩ := e
  refine ⟨max a b + 1, fun k hk => ?_⟩
  obtain ⟨k, rfl⟩ : ∃ m, k = m + 1 := ⟨k - 1, by omega⟩
  rw [hb k (by omega), ha k (by omega)]
theorem Evt.and {α β : Type} {f : Nat → Option α} {v : α} {g : Nat → Option β} {u : β} (h1 : Evt f v) (h2 : Evt g u) : ∃ k0, ∀ k, k0 ≤ k → f k = some v ∧ g k = some u := by
  obtain ⟨a, ha⟩ := h1; obtain ⟨b, hb⟩ := h2
  exact ⟨max a b, fun k hk => ⟨ha k (by omega), hb k (by omega)⟩⟩
theorem wrap_succ {i n : Nat} (h : i < n) (hn : n ≤ 140737488355328) : wrap64 ((i : Int) + 1) = ((i + 1 : Nat) : Int) := by simp only [wrap64]; omega
theorem row_refl_l (x : List Int) (hx : x.length ≤ 140737488355318) : ∀ (d i : Nat), x.length ≤ i + d → i ≤ x.length → Evt (fun k => tiltyardref14_row.l0 k x x (i : Int)) true
  | 0, i, h, h2 => ⟨1, fun k hk => by
      obtain ⟨k, rfl⟩ : ∃ m, k = m + 1 := ⟨k - 1, by omega⟩
      show tiltyardref14_row.l0 (k + 1) x x (i : Int) = some true
      unfold tiltyardref14_row.l0
      rw [if_neg (by omega)]⟩
  | d + 1, i, h, h2 => by
    by_cases hi : i < x.length
    · refine (row_refl_l x hx d (i + 1) (by omega) (by omega)).step ⟨0, fun k _ => ?_⟩
      show tiltyardref14_row.l0 (k + 1) x x (i : Int) = _
      conv => lhs; unfold tiltyardref14_row.l0
      rw [if_pos (by omega), if_pos (by omega), if_pos (by omega), if_pos rfl, wrap_succ hi (by omega)]
    · refine ⟨1, fun k hk => ?_⟩
      obtain ⟨k, rfl⟩ : ∃ m, k = m + 1 := ⟨k - 1, by omega⟩
      show tiltyardref14_row.l0 (k + 1) x x (i : Int) = some true
      unfold tiltyardref14_row.l0
      rw [if_neg (by omega)]
theorem row_refl (x : List Int) (hx : x.length ≤ 140737488355318) : Evt (fun k => tiltyardref14_row.f k x x) true := by
  obtain ⟨a, ha⟩ := row_refl_l x hx x.length 0 (by omega) (by omega)
  refine ⟨a, fun k hk => ?_⟩
  show tiltyardref14_row.f k x x = some true
  unfold tiltyardref14_row.f
  rw [if_pos rfl]
  exact ha k hk
theorem row_same (A0 : Option Addr) (c0 : Nat) (A1 : Option Addr) (c1 : Nat) (l : List Int) (w : World) (hr0 : Kd.C (Kd.int .i64) w A0 l.length l) (hc0 : l.length ≤ c0) (hr1 : Kd.C (Kd.int .i64) w A1 l.length l) (hc1 : l.length ≤ c1) (hl : l.length ≤ 140737488355318) :
    Calls Tryd.prog 33 #[.slice A0 l.length c0, .slice A1 l.length c1] w fun e w' => e = .returned (.bool true) ∧ Below w.heap.size w w' := by
  obtain ⟨a, ha⟩ := row_refl l hl
  refine (tiltyardref14_row.calls a A0 c0 l A1 c1 l true w hr0 hc0 hr1 hc1 (ha a (by omega))).mono fun e w' h => ⟨h.1, ?_⟩
  obtain ⟨n, rfl⟩ := h.2.out
  exact pw_below_drewN (Below.refl _ _) n
def sameA (gs : List S48) (fs : List S54) : Prop := gs.length ≤ 140737488355318 ∧ fs.length ≤ 140737488355318 ∧ (∀ f ∈ fs, fnIn f) ∧ True
instance (gs : List S48) (fs : List S54) : Decidable (sameA gs fs) := by unfold sameA; infer_instance
instance : DecidableEq S48 := fun a b => decidable_of_iff (a.f0 = b.f0 ∧ a.f1 = b.f1 ∧ a.f2 = b.f2) (by cases a; cases b; simp)
instance : DecidableEq S50 := fun a b => decidable_of_iff (a.f0 = b.f0 ∧ a.f1 = b.f1 ∧ a.f2 = b.f2) (by cases a; cases b; simp)
instance : DecidableEq S54 := fun a b => decidable_of_iff (a.f0 = b.f0 ∧ a.f1 = b.f1 ∧ a.f2 = b.f2 ∧ a.f3 = b.f3 ∧ a.f4 = b.f4) (by cases a; cases b; simp)
theorem ne3 (a b c : Int) : (!(a == a) || (!(b == b) || !(c == c))) = false := by simp
theorem and3 (a b c : Int) : ((a == a) && ((b == b) && (c == c))) = true := by simp
set_option maxHeartbeats 8000000 in
set_option maxRecDepth 100000 in
theorem same_calls (A0 : Option Addr) (c0 : Nat) (A1 : Option Addr) (c1 : Nat) (B0 : Option Addr) (d0 : Nat) (B1 : Option Addr) (d1 : Nat) (gs : List S48) (fs : List S54) (w : World) (hr0 : Kd.C k48 w A0 gs.length gs) (hr1 : Kd.C k54 w A1 fs.length fs) (hs0 : Kd.C k48 w B0 gs.length gs) (hs1 : Kd.C k54 w B1 fs.length fs) (hA : sameA gs fs) :
    Calls Tryd.prog 12 #[.agg #[.slice A0 gs.length c0, .slice A1 fs.length c1], .agg #[.slice B0 gs.length d0, .slice B1 fs.length d1]] w
      fun e w' => e = .returned (.bool true) ∧ Below w.heap.size w w' := by
  have HB := Aside0.mk (Below.refl w.heap.size w)
  have hu25 := Tryd.underlying25; have hu54 := Tryd.underlying54
  have HR0 := Aside0.mk hr0; have HR1 := Aside0.mk hr1; have HS0 := Aside0.mk hs0; have HS1 := Aside0.mk hs1; have HA := Aside0.mk hA
  clear hr0 hr1 hs0 hs1 hA
  go_enter Tryd.func12, Tryd.ntmps12
  go_wp2_with (first | ((with_reducible refine gate_dst (N := 2) rfl ?_); refine box_event ?hg (N := 2) ?hd (cs := #[.slice A0 gs.length c0, .slice A1 fs.length c1]) (t := 25) ?hr ?_; (case hd => rfl); (case hg => rfl); (case hr => first | (go_simp; done) | (go_simp; rfl)); intro ga hg_ W1 hbox_ hb_; have GEga := Aside0.mk ((by rw [hg_]; exact (below_size HB.out)) : w.heap.size ≤ ga); clear hg_; have n_ := Aside0.mk (below_step HB.out hb_); clear HB; have HB := n_; clear n_; have BKga := Aside0.mk hbox_; clear hbox_ hb_; have hcga_0 : W1.cell? ⟨ga, 0, none⟩ = some (.slice A0 gs.length c0) := (blk_cell BKga.out 0).trans rfl; have hfga_0 := blk_frozen BKga.out 0; have hcga_1 : W1.cell? ⟨ga, 1, none⟩ = some (.slice A1 fs.length c1) := (blk_cell BKga.out 1).trans rfl; have hfga_1 := blk_frozen BKga.out 1) | ((with_reducible refine gate_dst (N := 3) rfl ?_); refine box_event ?hg (N := 3) ?hd (cs := #[.slice B0 gs.length d0, .slice B1 fs.length d1]) (t := 25) ?hr ?_; (case hd => rfl); (case hg => rfl); (case hr => first | (go_simp; done) | (go_simp; rfl)); intro gb hg_ W2 hbox_ hb_; have GEgb := Aside0.mk ((by rw [hg_]; exact (below_size HB.out)) : w.heap.size ≤ gb); have NBga_gb : ga ≠ gb := (by rw [hg_]; exact Nat.ne_of_lt (blk_lt BKga.out)); have NBgb_ga : gb ≠ ga := Ne.symm NBga_gb; clear hg_; have n_ := Aside0.mk (blk_below BKga.out hb_); clear BKga; have BKga := n_; clear n_; clear hcga_0 hfga_0; clear hcga_1 hfga_1; have n_ := Aside0.mk (below_step HB.out hb_); clear HB; have HB := n_; clear n_; have BKgb := Aside0.mk hbox_; clear hbox_ hb_; have hcga_0 : W2.cell? ⟨ga, 0, none⟩ = some (.slice A0 gs.length c0) := (blk_cell BKga.out 0).trans rfl; have hfga_0 := blk_frozen BKga.out 0; have hcga_1 : W2.cell? ⟨ga, 1, none⟩ = some (.slice A1 fs.length c1) := (blk_cell BKga.out 1).trans rfl; have hfga_1 := blk_frozen BKga.out 1; have hcgb_0 : W2.cell? ⟨gb, 0, none⟩ = some (.slice B0 gs.length d0) := (blk_cell BKgb.out 0).trans rfl; have hfgb_0 := blk_frozen BKgb.out 0; have hcgb_1 : W2.cell? ⟨gb, 1, none⟩ = some (.slice B1 fs.length d1) := (blk_cell BKgb.out 1).trans rfl; have hfgb_1 := blk_frozen BKgb.out 1))
  clear hcga_0 hfga_0
  clear hcga_1 hfga_1
  clear hcgb_0 hfgb_0
  clear hcgb_1 hfgb_1
  go_loopw [5] (fun vi wr => ∃ i : Nat, vi = .int .i64 i ∧ Aside0 (i ≤ gs.length) ∧ Aside0 (wr.heap[ga]? = some (.cells #[.slice A0 gs.length c0, .slice A1 fs.length c1] 25 (0, 0))) ∧ Aside0 (wr.heap[gb]? = some (.cells #[.slice B0 gs.length d0, .slice B1 fs.length d1] 25 (0, 0))) ∧ Aside0 (Below w.heap.size w wr)) (fun vi _ => gs.length - (intOf vi).toNat)
  case atStart => exact ⟨0, rfl, ⟨Nat.zero_le _⟩, BKga, BKgb, HB⟩
  case round =>
    clear BKga BKgb HB
    obtain ⟨i, rfl, HN, BKga, BKgb, HB⟩ := hrel
    have hcga_0 : wr.cell? ⟨ga, 0, none⟩ = some (.slice A0 gs.length c0) := (blk_cell BKga.out 0).trans rfl
    have hfga_0 := blk_frozen BKga.out 0
    have hcga_1 : wr.cell? ⟨ga, 1, none⟩ = some (.slice A1 fs.length c1) := (blk_cell BKga.out 1).trans rfl
    have hfga_1 := blk_frozen BKga.out 1
    have hcgb_0 : wr.cell? ⟨gb, 0, none⟩ = some (.slice B0 gs.length d0) := (blk_cell BKgb.out 0).trans rfl
    have hfgb_0 := blk_frozen BKgb.out 0
    have hcgb_1 : wr.cell? ⟨gb, 1, none⟩ = some (.slice B1 fs.length d1) := (blk_cell BKgb.out 1).trans rfl
    have hfgb_1 := blk_frozen BKgb.out 1
    by_cases hi : i < gs.length
    · have z1 : decide ((i : Int) < (gs.length : Int)) = true := decide_eq_true (by omega)
      have hlen := HA.out.1
      have q1 : (0 ≤ (i : Int)) = True := eq_true (by omega)
      have q2 : ((i : Int) < (gs.length : Int)) = True := eq_true (by omega)
      obtain ⟨ada, ea, x0, x1, x2⟩ := at_T48 HR0.out (i : Int) (by omega) (by omega)
      obtain ⟨adb, eb, y0, y1, y2⟩ := at_T48 HS0.out (i : Int) (by omega) (by omega)
      cases ea; cases eb
      replace x0 := (HB.out.cell (World.block_lt_of_cell? w _ x0)).trans x0
      replace x1 := (HB.out.cell (World.block_lt_of_cell? w _ x1)).trans x1
      replace x2 := (HB.out.cell (World.block_lt_of_cell? w _ x2)).trans x2
      replace y0 := (HB.out.cell (World.block_lt_of_cell? w _ y0)).trans y0
      replace y1 := (HB.out.cell (World.block_lt_of_cell? w _ y1)).trans y1
      replace y2 := (HB.out.cell (World.block_lt_of_cell? w _ y2)).trans y2
      generalize rd_T48 gs (i : Int) = g at x0 x1 x2 y0 y1 y2
      simp only [Int.toNat_natCast] at x0 x1 x2 y0 y1 y2
      have n3 := ne3 g.f0 g.f1 g.f2; have a3 := and3 g.f0 g.f1 g.f2
      have HWS := Aside0.mk (wrap_succ hi (by omega))
      have HI := Aside0.mk hi
      clear hi hlen
      go_wp2
      go_quiet (fail)
      go_wp2
      rw [HWS.out]
      exact ⟨⟨i + 1, rfl, ⟨HI.out⟩, ⟨blk_drewN BKga.out _⟩, ⟨blk_drewN BKgb.out _⟩, ⟨pw_below_drewN HB.out _⟩⟩, by have := HI.out; simp only [intOf, Int.toNat_natCast]; omega⟩
    · have z1 : decide ((i : Int) < (gs.length : Int)) = false := decide_eq_false (by omega)
      have z2 : decide (i < gs.length) = false := decide_eq_false hi
      clear hi HN
      go_wp2_with fail
      clear hcga_0 hfga_0
      clear hcga_1 hfga_1
      clear hcgb_0 hfgb_0
      clear hcgb_1 hfgb_1
      go_loopw [6] (fun vi wr => ∃ i : Nat, vi = .int .i64 i ∧ Aside0 (i ≤ fs.length) ∧ Aside0 (wr.heap[ga]? = some (.cells #[.slice A0 gs.length c0, .slice A1 fs.length c1] 25 (0, 0))) ∧ Aside0 (wr.heap[gb]? = some (.cells #[.slice B0 gs.length d0, .slice B1 fs.length d1] 25 (0, 0))) ∧ Aside0 (Below w.heap.size w wr)) (fun vi _ => fs.length - (intOf vi).toNat)
      case atStart => exact ⟨0, rfl, ⟨Nat.zero_le _⟩, BKga, BKgb, HB⟩
      case round =>
        clear BKga BKgb HB
        obtain ⟨i, rfl, HN, BKga, BKgb, HB⟩ := hrel
        have hcga_0 : wr.cell? ⟨ga, 0, none⟩ = some (.slice A0 gs.length c0) := (blk_cell BKga.out 0).trans rfl
        have hfga_0 := blk_frozen BKga.out 0
        have hcga_1 : wr.cell? ⟨ga, 1, none⟩ = some (.slice A1 fs.length c1) := (blk_cell BKga.out 1).trans rfl
        have hfga_1 := blk_frozen BKga.out 1
        have hcgb_0 : wr.cell? ⟨gb, 0, none⟩ = some (.slice B0 gs.length d0) := (blk_cell BKgb.out 0).trans rfl
        have hfgb_0 := blk_frozen BKgb.out 0
        have hcgb_1 : wr.cell? ⟨gb, 1, none⟩ = some (.slice B1 fs.length d1) := (blk_cell BKgb.out 1).trans rfl
        have hfgb_1 := blk_frozen BKgb.out 1
        by_cases hi : i < fs.length
        · have z1 : decide ((i : Int) < (fs.length : Int)) = true := decide_eq_true (by omega)
          have hlen := HA.out.2.1
          have q1 : (0 ≤ (i : Int)) = True := eq_true (by omega)
          have q2 : ((i : Int) < (fs.length : Int)) = True := eq_true (by omega)
          have HFI := Aside0.mk (HA.out.2.2.1 _ (show rd_T54 fs (i : Int) ∈ fs by unfold rd_T54; rw [Int.toNat_natCast, List.getD_eq_getElem?_getD, List.getElem?_eq_getElem hi]; exact List.getElem_mem hi))
          obtain ⟨adx, Ax1, bx1, Ax3, bx3, Ax4, bx4, ex, x0, x1, x2, x3, x4, lx1, gx1, lx3, gx3, lx4, gx4⟩ := at_T54 HR1.out (i : Int) (by omega) (by omega)
          cases ex
          replace x0 := (HB.out.cell (World.block_lt_of_cell? w _ x0)).trans x0
          replace x1 := (HB.out.cell (World.block_lt_of_cell? w _ x1)).trans x1
          replace x2 := (HB.out.cell (World.block_lt_of_cell? w _ x2)).trans x2
          replace x3 := (HB.out.cell (World.block_lt_of_cell? w _ x3)).trans x3
          replace x4 := (HB.out.cell (World.block_lt_of_cell? w _ x4)).trans x4
          have Gx1 := Aside0.mk gx1; have Lx1 := Aside0.mk lx1; clear gx1 lx1
          have Gx3 := Aside0.mk gx3; have Lx3 := Aside0.mk lx3; clear gx3 lx3
          have Gx4 := Aside0.mk gx4; have Lx4 := Aside0.mk lx4; clear gx4 lx4
          obtain ⟨ady, Ay1, by1, Ay3, by3, Ay4, by4, ey, y0, y1, y2, y3, y4, ly1, gy1, ly3, gy3, ly4, gy4⟩ := at_T54 HS1.out (i : Int) (by omega) (by omega)
          cases ey
          replace y0 := (HB.out.cell (World.block_lt_of_cell? w _ y0)).trans y0
          replace y1 := (HB.out.cell (World.block_lt_of_cell? w _ y1)).trans y1
          replace y2 := (HB.out.cell (World.block_lt_of_cell? w _ y2)).trans y2
          replace y3 := (HB.out.cell (World.block_lt_of_cell? w _ y3)).trans y3
          replace y4 := (HB.out.cell (World.block_lt_of_cell? w _ y4)).trans y4
          have Gy1 := Aside0.mk gy1; have Ly1 := Aside0.mk ly1; clear gy1 ly1
          have Gy3 := Aside0.mk gy3; have Ly3 := Aside0.mk ly3; clear gy3 ly3
          have Gy4 := Aside0.mk gy4; have Ly4 := Aside0.mk ly4; clear gy4 ly4
          simp only [Int.toNat_natCast] at x0 x1 x2 x3 x4 y0 y1 y2 y3 y4
          have HWS := Aside0.mk (wrap_succ hi (by omega))
          have HI := Aside0.mk hi
          clear hi hlen
          generalize rd_T54 fs (i : Int) = f at *
          have HL1 := Aside0.mk HFI.out.2.1; have HL3 := Aside0.mk HFI.out.2.2.1
          have s1 : (f.f0.toList == f.f0.toList) = true := by simp
          have s2 : (f.f2 == f.f2) = true := by simp
          have s2b : (f.f2 != f.f2) = false := by simp
          have s3 : ((f.f4.length : Int) != (f.f4.length : Int)) = false := by simp
          have s3b : (f.f4.length != f.f4.length) = false := by simp
          have fgb : ∀ o, (wr.alloc o).cell? ⟨gb, 1, none⟩ = some (.slice (some ady) fs.length d1) := fun o => ((below_alloc (Below.refl wr.heap.size wr) o).cell (World.block_lt_of_cell? wr _ hcgb_1)).trans hcgb_1
          have fy0 := fun o => ((below_alloc (Below.refl wr.heap.size wr) o).cell (World.block_lt_of_cell? wr _ y0)).trans y0
          have fy1 := fun o => ((below_alloc (Below.refl wr.heap.size wr) o).cell (World.block_lt_of_cell? wr _ y1)).trans y1
          have fy2 := fun o => ((below_alloc (Below.refl wr.heap.size wr) o).cell (World.block_lt_of_cell? wr _ y2)).trans y2
          have fy3 := fun o => ((below_alloc (Below.refl wr.heap.size wr) o).cell (World.block_lt_of_cell? wr _ y3)).trans y3
          have fy4 := fun o => ((below_alloc (Below.refl wr.heap.size wr) o).cell (World.block_lt_of_cell? wr _ y4)).trans y4
          go_wp2_with fail
          have kx : Aside0 (((wr.alloc (.cells #[.string f.f0, .slice Ax1 f.f1.length bx1, .int .i64 f.f2, .slice Ax3 f.f3.length bx3, .slice Ax4 f.f4.length bx4] 54 (0, 0))).alloc (.cells #[.string f.f0, .slice Ay1 f.f1.length by1, .int .i64 f.f2, .slice Ay3 f.f3.length by3, .slice Ay4 f.f4.length by4] 54 (0, 0))).heap[wr.heap.size]? = some (.cells #[.string f.f0, .slice Ax1 f.f1.length bx1, .int .i64 f.f2, .slice Ax3 f.f3.length bx3, .slice Ax4 f.f4.length bx4] 54 (0, 0))) := ⟨blk_alloc (blk_new wr _) _⟩
          have ky : Aside0 (((wr.alloc (.cells #[.string f.f0, .slice Ax1 f.f1.length bx1, .int .i64 f.f2, .slice Ax3 f.f3.length bx3, .slice Ax4 f.f4.length bx4] 54 (0, 0))).alloc (.cells #[.string f.f0, .slice Ay1 f.f1.length by1, .int .i64 f.f2, .slice Ay3 f.f3.length by3, .slice Ay4 f.f4.length by4] 54 (0, 0))).heap[wr.heap.size + 1]? = some (.cells #[.string f.f0, .slice Ay1 f.f1.length by1, .int .i64 f.f2, .slice Ay3 f.f3.length by3, .slice Ay4 f.f4.length by4] 54 (0, 0))) := ⟨by have := blk_new (wr.alloc (.cells #[.string f.f0, .slice Ax1 f.f1.length bx1, .int .i64 f.f2, .slice Ax3 f.f3.length bx3, .slice Ax4 f.f4.length bx4] 54 (0, 0))) (.cells #[.string f.f0, .slice Ay1 f.f1.length by1, .int .i64 f.f2, .slice Ay3 f.f3.length by3, .slice Ay4 f.f4.length by4] 54 (0, 0)); simpa using this⟩
          have ka : Aside0 (((wr.alloc (.cells #[.string f.f0, .slice Ax1 f.f1.length bx1, .int .i64 f.f2, .slice Ax3 f.f3.length bx3, .slice Ax4 f.f4.length bx4] 54 (0, 0))).alloc (.cells #[.string f.f0, .slice Ay1 f.f1.length by1, .int .i64 f.f2, .slice Ay3 f.f3.length by3, .slice Ay4 f.f4.length by4] 54 (0, 0))).heap[ga]? = some (.cells #[.slice A0 gs.length c0, .slice (some adx) fs.length c1] 25 (0, 0))) := ⟨blk_alloc (blk_alloc BKga.out _) _⟩
          have kb : Aside0 (((wr.alloc (.cells #[.string f.f0, .slice Ax1 f.f1.length bx1, .int .i64 f.f2, .slice Ax3 f.f3.length bx3, .slice Ax4 f.f4.length bx4] 54 (0, 0))).alloc (.cells #[.string f.f0, .slice Ay1 f.f1.length by1, .int .i64 f.f2, .slice Ay3 f.f3.length by3, .slice Ay4 f.f4.length by4] 54 (0, 0))).heap[gb]? = some (.cells #[.slice B0 gs.length d0, .slice (some ady) fs.length d1] 25 (0, 0))) := ⟨blk_alloc (blk_alloc BKgb.out _) _⟩
          have kk : Aside0 (Below w.heap.size w ((wr.alloc (.cells #[.string f.f0, .slice Ax1 f.f1.length bx1, .int .i64 f.f2, .slice Ax3 f.f3.length bx3, .slice Ax4 f.f4.length bx4] 54 (0, 0))).alloc (.cells #[.string f.f0, .slice Ay1 f.f1.length by1, .int .i64 f.f2, .slice Ay3 f.f3.length by3, .slice Ay4 f.f4.length by4] 54 (0, 0)))) := ⟨below_alloc (below_alloc HB.out _) _⟩
          clear x0 x1 x2 x3 x4 y0 y1 y2 y3 y4 fgb fy0 fy1 fy2 fy3 fy4 BKga BKgb HB
          clear hcga_0 hfga_0
          clear hcga_1 hfga_1
          clear hcgb_0 hfgb_0
          clear hcgb_1 hfgb_1
          have BKga := ka; have BKgb := kb; have BKgx := kx; have BKgy := ky; have HB := kk; clear ka kb kx ky kk
          generalize ((wr.alloc (.cells #[.string f.f0, .slice Ax1 f.f1.length bx1, .int .i64 f.f2, .slice Ax3 f.f3.length bx3, .slice Ax4 f.f4.length bx4] 54 (0, 0))).alloc (.cells #[.string f.f0, .slice Ay1 f.f1.length by1, .int .i64 f.f2, .slice Ay3 f.f3.length by3, .slice Ay4 f.f4.length by4] 54 (0, 0))) = W3 at *
          generalize wr.heap.size + 1 = gy at *
          generalize wr.heap.size = gx at *
          have hcga_0 : W3.cell? ⟨ga, 0, none⟩ = some (.slice A0 gs.length c0) := (blk_cell BKga.out 0).trans rfl
          have hfga_0 := blk_frozen BKga.out 0
          have hcga_1 : W3.cell? ⟨ga, 1, none⟩ = some (.slice (some adx) fs.length c1) := (blk_cell BKga.out 1).trans rfl
          have hfga_1 := blk_frozen BKga.out 1
          have hcgb_0 : W3.cell? ⟨gb, 0, none⟩ = some (.slice B0 gs.length d0) := (blk_cell BKgb.out 0).trans rfl
          have hfgb_0 := blk_frozen BKgb.out 0
          have hcgb_1 : W3.cell? ⟨gb, 1, none⟩ = some (.slice (some ady) fs.length d1) := (blk_cell BKgb.out 1).trans rfl
          have hfgb_1 := blk_frozen BKgb.out 1
          have hcgx_0 : W3.cell? ⟨gx, 0, none⟩ = some (.string f.f0) := (blk_cell BKgx.out 0).trans rfl
          have hfgx_0 := blk_frozen BKgx.out 0
          have hcgx_1 : W3.cell? ⟨gx, 1, none⟩ = some (.slice Ax1 f.f1.length bx1) := (blk_cell BKgx.out 1).trans rfl
          have hfgx_1 := blk_frozen BKgx.out 1
          have hcgx_2 : W3.cell? ⟨gx, 2, none⟩ = some (.int .i64 f.f2) := (blk_cell BKgx.out 2).trans rfl
          have hfgx_2 := blk_frozen BKgx.out 2
          have hcgx_3 : W3.cell? ⟨gx, 3, none⟩ = some (.slice Ax3 f.f3.length bx3) := (blk_cell BKgx.out 3).trans rfl
          have hfgx_3 := blk_frozen BKgx.out 3
          have hcgx_4 : W3.cell? ⟨gx, 4, none⟩ = some (.slice Ax4 f.f4.length bx4) := (blk_cell BKgx.out 4).trans rfl
          have hfgx_4 := blk_frozen BKgx.out 4
          have hcgy_0 : W3.cell? ⟨gy, 0, none⟩ = some (.string f.f0) := (blk_cell BKgy.out 0).trans rfl
          have hfgy_0 := blk_frozen BKgy.out 0
          have hcgy_1 : W3.cell? ⟨gy, 1, none⟩ = some (.slice Ay1 f.f1.length by1) := (blk_cell BKgy.out 1).trans rfl
          have hfgy_1 := blk_frozen BKgy.out 1
          have hcgy_2 : W3.cell? ⟨gy, 2, none⟩ = some (.int .i64 f.f2) := (blk_cell BKgy.out 2).trans rfl
          have hfgy_2 := blk_frozen BKgy.out 2
          have hcgy_3 : W3.cell? ⟨gy, 3, none⟩ = some (.slice Ay3 f.f3.length by3) := (blk_cell BKgy.out 3).trans rfl
          have hfgy_3 := blk_frozen BKgy.out 3
          have hcgy_4 : W3.cell? ⟨gy, 4, none⟩ = some (.slice Ay4 f.f4.length by4) := (blk_cell BKgy.out 4).trans rfl
          have hfgy_4 := blk_frozen BKgy.out 4
          ((with_reducible refine (row_same Ax1 bx1 Ay1 by1 f.f1 _ (Kd.C_below Gx1.out HB.out) Lx1.out (Kd.C_below Gy1.out HB.out) Ly1.out HL1.out).mono ?_); rintro e_ W4 ⟨rfl, hb_⟩)
          have n_ := Aside0.mk (blk_below BKga.out hb_); clear BKga; have BKga := n_; clear n_
          clear hcga_0 hfga_0
          clear hcga_1 hfga_1
          have n_ := Aside0.mk (blk_below BKgb.out hb_); clear BKgb; have BKgb := n_; clear n_
          clear hcgb_0 hfgb_0
          clear hcgb_1 hfgb_1
          have n_ := Aside0.mk (blk_below BKgx.out hb_); clear BKgx; have BKgx := n_; clear n_
          clear hcgx_0 hfgx_0
          clear hcgx_1 hfgx_1
          clear hcgx_2 hfgx_2
          clear hcgx_3 hfgx_3
          clear hcgx_4 hfgx_4
          have n_ := Aside0.mk (blk_below BKgy.out hb_); clear BKgy; have BKgy := n_; clear n_
          clear hcgy_0 hfgy_0
          clear hcgy_1 hfgy_1
          clear hcgy_2 hfgy_2
          clear hcgy_3 hfgy_3
          clear hcgy_4 hfgy_4
          have n_ := Aside0.mk (below_step HB.out hb_); clear HB; have HB := n_; clear n_
          clear hb_
          have hcga_0 : W4.cell? ⟨ga, 0, none⟩ = some (.slice A0 gs.length c0) := (blk_cell BKga.out 0).trans rfl
          have hfga_0 := blk_frozen BKga.out 0
          have hcga_1 : W4.cell? ⟨ga, 1, none⟩ = some (.slice (some adx) fs.length c1) := (blk_cell BKga.out 1).trans rfl
          have hfga_1 := blk_frozen BKga.out 1
          have hcgb_0 : W4.cell? ⟨gb, 0, none⟩ = some (.slice B0 gs.length d0) := (blk_cell BKgb.out 0).trans rfl
          have hfgb_0 := blk_frozen BKgb.out 0
          have hcgb_1 : W4.cell? ⟨gb, 1, none⟩ = some (.slice (some ady) fs.length d1) := (blk_cell BKgb.out 1).trans rfl
          have hfgb_1 := blk_frozen BKgb.out 1
          have hcgx_0 : W4.cell? ⟨gx, 0, none⟩ = some (.string f.f0) := (blk_cell BKgx.out 0).trans rfl
          have hfgx_0 := blk_frozen BKgx.out 0
          have hcgx_1 : W4.cell? ⟨gx, 1, none⟩ = some (.slice Ax1 f.f1.length bx1) := (blk_cell BKgx.out 1).trans rfl
          have hfgx_1 := blk_frozen BKgx.out 1
          have hcgx_2 : W4.cell? ⟨gx, 2, none⟩ = some (.int .i64 f.f2) := (blk_cell BKgx.out 2).trans rfl
          have hfgx_2 := blk_frozen BKgx.out 2
          have hcgx_3 : W4.cell? ⟨gx, 3, none⟩ = some (.slice Ax3 f.f3.length bx3) := (blk_cell BKgx.out 3).trans rfl
          have hfgx_3 := blk_frozen BKgx.out 3
          have hcgx_4 : W4.cell? ⟨gx, 4, none⟩ = some (.slice Ax4 f.f4.length bx4) := (blk_cell BKgx.out 4).trans rfl
          have hfgx_4 := blk_frozen BKgx.out 4
          have hcgy_0 : W4.cell? ⟨gy, 0, none⟩ = some (.string f.f0) := (blk_cell BKgy.out 0).trans rfl
          have hfgy_0 := blk_frozen BKgy.out 0
          have hcgy_1 : W4.cell? ⟨gy, 1, none⟩ = some (.slice Ay1 f.f1.length by1) := (blk_cell BKgy.out 1).trans rfl
          have hfgy_1 := blk_frozen BKgy.out 1
          have hcgy_2 : W4.cell? ⟨gy, 2, none⟩ = some (.int .i64 f.f2) := (blk_cell BKgy.out 2).trans rfl
          have hfgy_2 := blk_frozen BKgy.out 2
          have hcgy_3 : W4.cell? ⟨gy, 3, none⟩ = some (.slice Ay3 f.f3.length by3) := (blk_cell BKgy.out 3).trans rfl
          have hfgy_3 := blk_frozen BKgy.out 3
          have hcgy_4 : W4.cell? ⟨gy, 4, none⟩ = some (.slice Ay4 f.f4.length by4) := (blk_cell BKgy.out 4).trans rfl
          have hfgy_4 := blk_frozen BKgy.out 4
          go_wp2_with fail
          ((with_reducible refine (row_same Ax3 bx3 Ay3 by3 f.f3 _ (Kd.C_below Gx3.out HB.out) Lx3.out (Kd.C_below Gy3.out HB.out) Ly3.out HL3.out).mono ?_); rintro e_ W5 ⟨rfl, hb_⟩)
          have n_ := Aside0.mk (blk_below BKga.out hb_); clear BKga; have BKga := n_; clear n_
          clear hcga_0 hfga_0
          clear hcga_1 hfga_1
          have n_ := Aside0.mk (blk_below BKgb.out hb_); clear BKgb; have BKgb := n_; clear n_
          clear hcgb_0 hfgb_0
          clear hcgb_1 hfgb_1
          have n_ := Aside0.mk (blk_below BKgx.out hb_); clear BKgx; have BKgx := n_; clear n_
          clear hcgx_0 hfgx_0
          clear hcgx_1 hfgx_1
          clear hcgx_2 hfgx_2
          clear hcgx_3 hfgx_3
          clear hcgx_4 hfgx_4
          have n_ := Aside0.mk (blk_below BKgy.out hb_); clear BKgy; have BKgy := n_; clear n_
          clear hcgy_0 hfgy_0
          clear hcgy_1 hfgy_1
          clear hcgy_2 hfgy_2
          clear hcgy_3 hfgy_3
          clear hcgy_4 hfgy_4
          have n_ := Aside0.mk (below_step HB.out hb_); clear HB; have HB := n_; clear n_
          clear hb_
          have hcga_0 : W5.cell? ⟨ga, 0, none⟩ = some (.slice A0 gs.length c0) := (blk_cell BKga.out 0).trans rfl
          have hfga_0 := blk_frozen BKga.out 0
          have hcga_1 : W5.cell? ⟨ga, 1, none⟩ = some (.slice (some adx) fs.length c1) := (blk_cell BKga.out 1).trans rfl
          have hfga_1 := blk_frozen BKga.out 1
          have hcgb_0 : W5.cell? ⟨gb, 0, none⟩ = some (.slice B0 gs.length d0) := (blk_cell BKgb.out 0).trans rfl
          have hfgb_0 := blk_frozen BKgb.out 0
          have hcgb_1 : W5.cell? ⟨gb, 1, none⟩ = some (.slice (some ady) fs.length d1) := (blk_cell BKgb.out 1).trans rfl
          have hfgb_1 := blk_frozen BKgb.out 1
          have hcgx_0 : W5.cell? ⟨gx, 0, none⟩ = some (.string f.f0) := (blk_cell BKgx.out 0).trans rfl
          have hfgx_0 := blk_frozen BKgx.out 0
          have hcgx_1 : W5.cell? ⟨gx, 1, none⟩ = some (.slice Ax1 f.f1.length bx1) := (blk_cell BKgx.out 1).trans rfl
          have hfgx_1 := blk_frozen BKgx.out 1
          have hcgx_2 : W5.cell? ⟨gx, 2, none⟩ = some (.int .i64 f.f2) := (blk_cell BKgx.out 2).trans rfl
          have hfgx_2 := blk_frozen BKgx.out 2
          have hcgx_3 : W5.cell? ⟨gx, 3, none⟩ = some (.slice Ax3 f.f3.length bx3) := (blk_cell BKgx.out 3).trans rfl
          have hfgx_3 := blk_frozen BKgx.out 3
          have hcgx_4 : W5.cell? ⟨gx, 4, none⟩ = some (.slice Ax4 f.f4.length bx4) := (blk_cell BKgx.out 4).trans rfl
          have hfgx_4 := blk_frozen BKgx.out 4
          have hcgy_0 : W5.cell? ⟨gy, 0, none⟩ = some (.string f.f0) := (blk_cell BKgy.out 0).trans rfl
          have hfgy_0 := blk_frozen BKgy.out 0
          have hcgy_1 : W5.cell? ⟨gy, 1, none⟩ = some (.slice Ay1 f.f1.length by1) := (blk_cell BKgy.out 1).trans rfl
          have hfgy_1 := blk_frozen BKgy.out 1
          have hcgy_2 : W5.cell? ⟨gy, 2, none⟩ = some (.int .i64 f.f2) := (blk_cell BKgy.out 2).trans rfl
          have hfgy_2 := blk_frozen BKgy.out 2
          have hcgy_3 : W5.cell? ⟨gy, 3, none⟩ = some (.slice Ay3 f.f3.length by3) := (blk_cell BKgy.out 3).trans rfl
          have hfgy_3 := blk_frozen BKgy.out 3
          have hcgy_4 : W5.cell? ⟨gy, 4, none⟩ = some (.slice Ay4 f.f4.length by4) := (blk_cell BKgy.out 4).trans rfl
          have hfgy_4 := blk_frozen BKgy.out 4
          go_wp2_with fail
          clear hcga_0 hfga_0
          clear hcga_1 hfga_1
          clear hcgb_0 hfgb_0
          clear hcgb_1 hfgb_1
          clear hcgx_0 hfgx_0
          clear hcgx_1 hfgx_1
          clear hcgx_2 hfgx_2
          clear hcgx_3 hfgx_3
          clear hcgx_4 hfgx_4
          clear hcgy_0 hfgy_0
          clear hcgy_1 hfgy_1
          clear hcgy_2 hfgy_2
          clear hcgy_3 hfgy_3
          clear hcgy_4 hfgy_4
          go_loopw [11] (fun vi wr => ∃ j : Nat, vi = .int .i64 j ∧ Aside0 (j ≤ f.f4.length) ∧ Aside0 (wr.heap[ga]? = some (.cells #[.slice A0 gs.length c0, .slice (some adx) fs.length c1] 25 (0, 0))) ∧ Aside0 (wr.heap[gb]? = some (.cells #[.slice B0 gs.length d0, .slice (some ady) fs.length d1] 25 (0, 0))) ∧ Aside0 (wr.heap[gx]? = some (.cells #[.string f.f0, .slice Ax1 f.f1.length bx1, .int .i64 f.f2, .slice Ax3 f.f3.length bx3, .slice Ax4 f.f4.length bx4] 54 (0, 0))) ∧ Aside0 (wr.heap[gy]? = some (.cells #[.string f.f0, .slice Ay1 f.f1.length by1, .int .i64 f.f2, .slice Ay3 f.f3.length by3, .slice Ay4 f.f4.length by4] 54 (0, 0))) ∧ Aside0 (Below w.heap.size w wr)) (fun vi _ => f.f4.length - (intOf vi).toNat)
          case atStart => exact ⟨0, rfl, ⟨Nat.zero_le _⟩, BKga, BKgb, BKgx, BKgy, HB⟩
          case round =>
            clear BKga BKgb BKgx BKgy HB
            obtain ⟨j, rfl, HNj, BKga, BKgb, BKgx, BKgy, HB⟩ := hrel
            have hcga_0 : wr.cell? ⟨ga, 0, none⟩ = some (.slice A0 gs.length c0) := (blk_cell BKga.out 0).trans rfl
            have hfga_0 := blk_frozen BKga.out 0
            have hcga_1 : wr.cell? ⟨ga, 1, none⟩ = some (.slice (some adx) fs.length c1) := (blk_cell BKga.out 1).trans rfl
            have hfga_1 := blk_frozen BKga.out 1
            have hcgb_0 : wr.cell? ⟨gb, 0, none⟩ = some (.slice B0 gs.length d0) := (blk_cell BKgb.out 0).trans rfl
            have hfgb_0 := blk_frozen BKgb.out 0
            have hcgb_1 : wr.cell? ⟨gb, 1, none⟩ = some (.slice (some ady) fs.length d1) := (blk_cell BKgb.out 1).trans rfl
            have hfgb_1 := blk_frozen BKgb.out 1
            have hcgx_0 : wr.cell? ⟨gx, 0, none⟩ = some (.string f.f0) := (blk_cell BKgx.out 0).trans rfl
            have hfgx_0 := blk_frozen BKgx.out 0
            have hcgx_1 : wr.cell? ⟨gx, 1, none⟩ = some (.slice Ax1 f.f1.length bx1) := (blk_cell BKgx.out 1).trans rfl
            have hfgx_1 := blk_frozen BKgx.out 1
            have hcgx_2 : wr.cell? ⟨gx, 2, none⟩ = some (.int .i64 f.f2) := (blk_cell BKgx.out 2).trans rfl
            have hfgx_2 := blk_frozen BKgx.out 2
            have hcgx_3 : wr.cell? ⟨gx, 3, none⟩ = some (.slice Ax3 f.f3.length bx3) := (blk_cell BKgx.out 3).trans rfl
            have hfgx_3 := blk_frozen BKgx.out 3
            have hcgx_4 : wr.cell? ⟨gx, 4, none⟩ = some (.slice Ax4 f.f4.length bx4) := (blk_cell BKgx.out 4).trans rfl
            have hfgx_4 := blk_frozen BKgx.out 4
            have hcgy_0 : wr.cell? ⟨gy, 0, none⟩ = some (.string f.f0) := (blk_cell BKgy.out 0).trans rfl
            have hfgy_0 := blk_frozen BKgy.out 0
            have hcgy_1 : wr.cell? ⟨gy, 1, none⟩ = some (.slice Ay1 f.f1.length by1) := (blk_cell BKgy.out 1).trans rfl
            have hfgy_1 := blk_frozen BKgy.out 1
            have hcgy_2 : wr.cell? ⟨gy, 2, none⟩ = some (.int .i64 f.f2) := (blk_cell BKgy.out 2).trans rfl
            have hfgy_2 := blk_frozen BKgy.out 2
            have hcgy_3 : wr.cell? ⟨gy, 3, none⟩ = some (.slice Ay3 f.f3.length by3) := (blk_cell BKgy.out 3).trans rfl
            have hfgy_3 := blk_frozen BKgy.out 3
            have hcgy_4 : wr.cell? ⟨gy, 4, none⟩ = some (.slice Ay4 f.f4.length by4) := (blk_cell BKgy.out 4).trans rfl
            have hfgy_4 := blk_frozen BKgy.out 4
            by_cases hj : j < f.f4.length
            · have z1 : decide ((j : Int) < (f.f4.length : Int)) = true := decide_eq_true (by omega)
              have q1 : (0 ≤ (j : Int)) = True := eq_true (by omega)
              have q2 : ((j : Int) < (f.f4.length : Int)) = True := eq_true (by omega)
              obtain ⟨adp, ep, p0, p1, p2⟩ := at_T50 Gx4.out (j : Int) (by omega) (by omega)
              obtain ⟨adr, er, r0, r1, r2⟩ := at_T50 Gy4.out (j : Int) (by omega) (by omega)
              cases ep; cases er
              replace p0 := (HB.out.cell (World.block_lt_of_cell? w _ p0)).trans p0
              replace p1 := (HB.out.cell (World.block_lt_of_cell? w _ p1)).trans p1
              replace p2 := (HB.out.cell (World.block_lt_of_cell? w _ p2)).trans p2
              replace r0 := (HB.out.cell (World.block_lt_of_cell? w _ r0)).trans r0
              replace r1 := (HB.out.cell (World.block_lt_of_cell? w _ r1)).trans r1
              replace r2 := (HB.out.cell (World.block_lt_of_cell? w _ r2)).trans r2
              generalize rd_T50 f.f4 (j : Int) = g at p0 p1 p2 r0 r1 r2
              simp only [Int.toNat_natCast] at p0 p1 p2 r0 r1 r2
              have n3 := ne3 g.f0 g.f1 g.f2; have a3 := and3 g.f0 g.f1 g.f2
              have HWJ := Aside0.mk (wrap_succ hj (by obtain ⟨h0_, h1_, h3_, h4_⟩ := HFI.out; omega))
              have HJ := Aside0.mk hj
              clear hj
              go_wp2
              go_quiet (fail)
              go_wp2
              rw [HWJ.out]
              exact ⟨⟨j + 1, rfl, ⟨HJ.out⟩, ⟨blk_drewN BKga.out _⟩, ⟨blk_drewN BKgb.out _⟩, ⟨blk_drewN BKgx.out _⟩, ⟨blk_drewN BKgy.out _⟩, ⟨pw_below_drewN HB.out _⟩⟩, by have := HJ.out; simp only [intOf, Int.toNat_natCast]; omega⟩
            · have z1 : decide ((j : Int) < (f.f4.length : Int)) = false := decide_eq_false (by omega)
              have z2 : decide (j < f.f4.length) = false := decide_eq_false hj
              clear hj
              go_wp2
              rw [HWS.out]
              exact ⟨⟨i + 1, rfl, ⟨HI.out⟩, BKga, BKgb, HB⟩, by have := HI.out; simp only [intOf, Int.toNat_natCast]; omega⟩
        · have z1 : decide ((i : Int) < (fs.length : Int)) = false := decide_eq_false (by omega)
          have z2 : decide (i < fs.length) = false := decide_eq_false hi
          clear hi
          go_wp2
          go_ret
          exact ⟨rfl, HB.out⟩
def PIm.tiltyardref14_Same.f (k : Nat) (g : List S48) (f : List S54) (g2 : List S48) (f2 : List S54) : Option Bool := if g = g2 ∧ f = f2 ∧ sameA g f then some true else none
theorem PIm.tiltyardref14_Same.mono : ∀ a0 a1 a2 a3 k, LeO (tiltyardref14_Same.f k a0 a1 a2 a3) (tiltyardref14_Same.f (k + 1) a0 a1 a2 a3) := fun _ _ _ _ _ _ h => h
theorem same_refl {gs : List S48} {fs : List S54} (h : argA gs fs) : Evt (fun k => tiltyardref14_Same.f k gs fs gs fs) true := ⟨0, fun k _ => by
  show tiltyardref14_Same.f k gs fs gs fs = some true
  unfold tiltyardref14_Same.f
  rw [if_pos ⟨rfl, rfl, h.1, h.2.1, h.2.2.1, trivial⟩]⟩
theorem PIm.tiltyardref14_Same.calls (k : Nat) (A0_0 : Option Addr) (c0_0 : Nat) (l0_0 : List S48) (A0_1 : Option Addr) (c0_1 : Nat) (l0_1 : List S54) (A1_0 : Option Addr) (c1_0 : Nat) (l1_0 : List S48) (A1_1 : Option Addr) (c1_1 : Nat) (l1_1 : List S54) (r : Bool) (w : World)
    (hr0_0 : Kd.C k48 w A0_0 l0_0.length l0_0) (hc0_0 : l0_0.length ≤ c0_0) (hr0_1 : Kd.C k54 w A0_1 l0_1.length l0_1) (hc0_1 : l0_1.length ≤ c0_1) (hr1_0 : Kd.C k48 w A1_0 l1_0.length l1_0) (hc1_0 : l1_0.length ≤ c1_0) (hr1_1 : Kd.C k54 w A1_1 l1_1.length l1_1) (hc1_1 : l1_1.length ≤ c1_1) (h : tiltyardref14_Same.f k l0_0 l0_1 l1_0 l1_1 = some r) :
    Calls Tryd.prog 12 #[.agg #[.slice A0_0 l0_0.length c0_0, .slice A0_1 l0_1.length c0_1], .agg #[.slice A1_0 l1_0.length c1_0, .slice A1_1 l1_1.length c1_1]] w fun e w' => e = .returned (.bool r) ∧ Below w.heap.size w w' := by
  unfold tiltyardref14_Same.f at h
  split at h
  · next hc =>
    obtain ⟨rfl, rfl, hA⟩ := hc
    obtain rfl := Option.some.inj h
    exact same_calls A0_0 c0_0 A0_1 c0_1 A1_0 c1_0 A1_1 c1_1 l0_0 l0_1 w hr0_0 hr0_1 hr1_0 hr1_1 hA
  · cases h
end Go.Proofs.YteidgpaakoeefaaDoor
namespace Go.Proofs.YteidgpaakoeefaaDoor
open Go.RowKit Go.Proofs.YteidgpaakoeefaaDoorW.PrintWords Go.Proofs.YteidgpaakoeefaaDoorW.PrintLast Go.Proofs.YteidgpaakoeefaaDoorW.PrintMore
set_option linter.unusedVariables false
set_option linter.unusedSimpArgs false
open PIm
theorem d_typed (t : Int) (w : World) : Calls Tryd.prog 87 #[.int .i64 t] w fun e w' => e = .returned (.bool (typB t)) ∧ w' = w := by
  obtain ⟨r, hr⟩ : ∃ r, r = typB t := ⟨_, rfl⟩
  rw [← hr]
  have HR := Aside0.mk hr; clear hr
  by_cases h1 : 1 ≤ t
  · by_cases h2 : t ≤ 4
    · have hR : r = true := by rw [HR.out]; simp [typB, h1, h2]
      subst hR
      have z1 : decide (t ≥ 1) = true := decide_eq_true h1
      have z2 : decide (t ≤ 4) = true := decide_eq_true h2
      go_enter Tryd.func87, Tryd.ntmps87
      go_wp2
      go_ret
      exact ⟨rfl, rfl⟩
    · have hR : r = false := by rw [HR.out]; simp [typB, h1, h2]
      subst hR
      have z1 : decide (t ≥ 1) = true := decide_eq_true h1
      have z2 : decide (t ≤ 4) = false := decide_eq_false h2
      go_enter Tryd.func87, Tryd.ntmps87
      go_wp2
      go_ret
      exact ⟨rfl, rfl⟩
  · have hR : r = false := by rw [HR.out]; simp [typB, h1]
    subst hR
    have z1 : decide (t ≥ 1) = false := decide_eq_false h1
    go_enter Tryd.func87, Tryd.ntmps87
    go_wp2
    go_ret
    exact ⟨rfl, rfl⟩
theorem all_take {α : Type} {p : α → Bool} {l : List α} {k : Nat} {x : α} (hx : l[k]? = some x) (h : (l.take k).all p = true) (hp : p x = true) : (l.take (k + 1)).all p = true := by
  obtain ⟨hi, he⟩ := List.getElem?_eq_some_iff.1 hx
  rw [List.take_succ_eq_append_getElem hi, List.all_append, h, he]
  simp [hp]
theorem all_no {α : Type} {p : α → Bool} {l : List α} {k : Nat} {x : α} (hx : l[k]? = some x) (hp : p x = false) : l.all p = false := by
  rw [List.all_eq_false]
  exact ⟨x, List.mem_of_getElem? hx, by simp [hp]⟩
theorem all_all {α : Type} {p : α → Bool} {l : List α} (h : (l.take l.length).all p = true) : l.all p = true := by rwa [List.take_length] at h
set_option maxHeartbeats 2000000 in
theorem d_types (A0 : Option Addr) (c0 : Nat) (l : List Int) (w : World) (hr : Kd.C (Kd.int .i64) w A0 l.length l) (hll : l.length ≤ 140737488355318) :
    Calls Tryd.prog 89 #[.slice A0 l.length c0] w fun e w' => e = .returned (.bool (l.all typB)) ∧ w' = w := by
  obtain ⟨r, hR⟩ : ∃ r, r = l.all typB := ⟨_, rfl⟩
  rw [← hR]
  have HRR := Aside0.mk hR; have HR := Aside0.mk hr
  clear hr hR
  go_enter Tryd.func89, Tryd.ntmps89
  go_wp2_with fail
  go_loopw [3] (fun vi wr => ∃ (k : Nat), vi = .int .i64 k ∧ Aside0 (k ≤ l.length) ∧ Aside0 ((l.take k).all typB = true) ∧ wr = w) (fun v _ => l.length - (intOf v).toNat)
  case atStart => exact ⟨0, rfl, ⟨Nat.zero_le _⟩, ⟨by simp⟩, rfl⟩
  case round =>
    obtain ⟨k, rfl, HN, HA, rfl⟩ := hrel
    have hk := HN.out
    by_cases hlt : k < l.length
    · obtain ⟨x, hxx⟩ : ∃ x, l[k]? = some x := ⟨_, List.getElem?_eq_getElem hlt⟩
      obtain ⟨ad, e, hx⟩ := Kd.at_int HR.out (k : Int) (by omega) (by omega)
      cases e
      have hget : rd l (k : Int) = x := by unfold rd; simp only [Int.toNat_natCast, List.getD_eq_getElem?_getD]; rw [hxx]; rfl
      rw [hget] at hx
      simp only [Int.toNat_natCast] at hx
      have z1 : decide ((k : Int) < (l.length : Int)) = true := decide_eq_true (by omega)
      have q1 : (0 ≤ (k : Int)) = True := eq_true (by omega)
      have q2 : ((k : Int) < (l.length : Int)) = True := eq_true (by omega)
      have HXX := Lib.hid hxx; have HLT := Lib.hid hlt
      clear hget hxx hlt
      go_wp2_with fail
      refine (d_typed x _).mono ?_
      rintro e_ w_ ⟨rfl, rfl⟩
      cases ht : typB x with
      | true =>
        go_wp2
        exact ⟨⟨k + 1, by go_num, ⟨HLT.out⟩, ⟨all_take HXX.out HA.out ht⟩, trivial⟩, by have := HLT.out; simp [intOf]; omega⟩
      | false =>
        have hr2 : r = false := HRR.out.trans (all_no HXX.out ht)
        subst hr2
        go_wp2
        go_ret
        exact ⟨rfl, rfl⟩
    · have z1 : decide ((k : Int) < (l.length : Int)) = false := decide_eq_false (by omega)
      obtain rfl : k = l.length := by omega
      have hr2 : r = true := HRR.out.trans (all_all HA.out)
      subst hr2
      go_wp2
      go_ret
      exact ⟨rfl, rfl⟩
set_option maxHeartbeats 4000000 in
set_option maxRecDepth 100000 in
theorem d_globOk (g : S48) (w : World) : Calls Tryd.prog 61 #[.agg #[.int .i64 g.f0, .int .i64 g.f1, .int .i64 g.f2]] w fun e w' => e = .returned (.bool (globB g)) ∧ Below w.heap.size w w' := by
  obtain ⟨r, hR⟩ : ∃ r, r = globB g := ⟨_, rfl⟩
  rw [← hR]
  have HRR := Aside0.mk hR
  clear hR
  have hu48 := Tryd.underlying48
  go_enter Tryd.func61, Tryd.ntmps61
  go_wp2_with (first | ((with_reducible refine gate_dst (N := 1) rfl ?_); refine box_event ?hg (N := 1) ?hd (cs := #[.int .i64 g.f0, .int .i64 g.f1, .int .i64 g.f2]) (t := 48) ?hr ?_; (case hd => rfl); (case hg => rfl); (case hr => first | (go_simp; done) | (go_simp; rfl)); intro gX hg_ WX hbox_ hb_; have HX : Aside0 (Below w.heap.size w WX) := ⟨hb_⟩; have hcX0 := (blk_cell hbox_ 0).trans rfl; have hcX1 := (blk_cell hbox_ 1).trans rfl; have hcX2 := (blk_cell hbox_ 2).trans rfl; clear hg_ hbox_ hb_))
  refine (d_typed g.f0 _).mono ?_
  rintro e_ w_ ⟨rfl, rfl⟩
  cases ht : typB g.f0 with
  | false =>
    go_wp2
    go_ret
    exact ⟨by rw [HRR.out]; simp [globB, ht], HX.out⟩
  | true =>
    go_wp2
    all_goals go_ret
    all_goals (refine ⟨congrArg (fun b => Ending.returned (Value.bool b)) ?_, HX.out⟩)
    all_goals (show _ = r; rw [HRR.out]; clear HRR HX; clear hcX0 hcX1 hcX2 hu48)
    all_goals (try simp only [beq_iff_eq, beq_eq_false_iff_ne, ne_eq] at *)
    all_goals (unfold globB; rw [ht])
    all_goals (first | (simp [*]; done) | (simp [*]; omega) | skip)
    all_goals (rw [Bool.eq_iff_iff]; simp only [Bool.and_eq_true, decide_eq_true_eq, beq_iff_eq, Bool.or_eq_true, true_and])
    all_goals (split <;> (try split) <;> simp only [Bool.and_eq_true, decide_eq_true_eq] <;> omega)
end Go.Proofs.YteidgpaakoeefaaDoor
namespace Go.Proofs.YteidgpaakoeefaaDoor
open Go.RowKit Go.Proofs.YteidgpaakoeefaaDoorW.PrintWords Go.Proofs.YteidgpaakoeefaaDoorW.PrintLast Go.Proofs.YteidgpaakoeefaaDoorW.PrintMore
set_option linter.unusedVariables false
set_option linter.unusedSimpArgs false
open PIm
theorem fnB_params {f : S54} (h : f.f1.all typB = false) : fnB f = false := by
  cases hf : fnB f with
  | false => rfl
  | true =>
    unfold fnB at hf
    simp only [Bool.and_eq_true, decide_eq_true_eq, Bool.or_eq_true, Bool.not_eq_true', List.all_eq_true] at hf
    obtain ⟨h0, h1, h3, h4, ht, h2, hle, heq, hi⟩ := hf
    have : f.f1.all typB = true := by
      rw [List.all_eq_true]
      intro x hx
      rw [heq] at hx
      exact ht x (List.mem_of_mem_take hx)
    rw [h] at this; cases this
theorem fnB_pair {f : S54} {k : Nat} {x y : Int} (hx : f.f1[k]? = some x) (hy : f.f3[k]? = some y) (h : x ≠ y) : fnB f = false := by
  cases hf : fnB f with
  | false => rfl
  | true =>
    unfold fnB at hf
    simp only [Bool.and_eq_true, decide_eq_true_eq, Bool.or_eq_true, Bool.not_eq_true', List.all_eq_true] at hf
    obtain ⟨h0, h1, h3, h4, ht, h2, hle, heq, hi⟩ := hf
    have hk := (List.getElem?_eq_some_iff.1 hx).1
    have e2 : f.f1[k]? = (f.f3.take f.f1.length)[k]? := by rw [← heq]
    rw [List.getElem?_take, if_pos hk, hx, hy] at e2
    exact absurd (Option.some.inj e2) h
theorem fnB_ins {f : S54} {k : Nat} {x : S50} (hx : f.f4[k]? = some x) (h : insBad x = true) : fnB f = false := by
  have : f.f4.any insBad = true := by rw [List.any_eq_true]; exact ⟨x, List.mem_of_getElem? hx, h⟩
  unfold fnB
  rw [this]; simp
theorem or_zero {z : Int} {b : Bool} (h : b = true ∨ (b = false ∧ (z != 0) = false)) : (decide (z = 0) || b) = true := by
  rcases h with h | ⟨h, h0⟩
  · rw [h]; simp
  · have : z = 0 := by simpa using h0
    simp [this]
theorem fnB_yes {f : S54} (hn : nameF f.f0 = true) (h1 : f.f1.all typB = true) (h3 : f.f3.all typB = true) (l1 : f.f1.length ≤ 8) (l3 : f.f3.length ≤ 32) (l2 : f.f1.length ≤ f.f3.length) (l4 : f.f4.length ≤ 32768)
    (hz : (decide (f.f2 = 0) || typB f.f2) = true) (ht : f.f1 = f.f3.take f.f1.length) (hi : f.f4.all (fun x => !insBad x) = true) : fnB f = true := by
  have h4 : f.f4.any insBad = false := by
    rw [List.any_eq_false]
    intro x hx
    have := List.all_eq_true.1 hi x hx
    simpa using this
  unfold fnB
  rw [hn, h3, hz, h4, decide_eq_true l1, decide_eq_true l3, decide_eq_true l4, decide_eq_true l2, decide_eq_true ht]
  rfl
theorem take_pair {l l' : List Int} {k : Nat} {x : Int} (hx : l[k]? = some x) (hy : l'[k]? = some x) (h : l.take k = l'.take k) : l.take (k + 1) = l'.take (k + 1) := by
  obtain ⟨hi, he⟩ := List.getElem?_eq_some_iff.1 hx
  obtain ⟨hi2, he2⟩ := List.getElem?_eq_some_iff.1 hy
  rw [List.take_succ_eq_append_getElem hi, List.take_succ_eq_append_getElem hi2, h, he, he2]
set_option maxHeartbeats 8000000 in
set_option maxRecDepth 100000 in
theorem d_fnOk (f : S54) (A1 : Option Addr) (c1 : Nat) (A3 : Option Addr) (c3 : Nat) (A4 : Option Addr) (c4 : Nat) (w : World)
    (hN : ∀ W, Calls Tryd.prog 88 #[.string f.f0] W fun e w' => e = .returned (.bool (nameF f.f0)) ∧ Below W.heap.size W w')
    (g1 : Kd.C (Kd.int .i64) w A1 f.f1.length f.f1) (g3 : Kd.C (Kd.int .i64) w A3 f.f3.length f.f3) (g4 : Kd.C k50 w A4 f.f4.length f.f4) (hfin : fnIn f) :
    Calls Tryd.prog 62 #[.agg #[.string f.f0, .slice A1 f.f1.length c1, .int .i64 f.f2, .slice A3 f.f3.length c3, .slice A4 f.f4.length c4]] w fun e w' => e = .returned (.bool (fnB f)) ∧ Below w.heap.size w w' := by
  obtain ⟨r, hR⟩ : ∃ r, r = fnB f := ⟨_, rfl⟩
  rw [← hR]
  have HRR := Aside0.mk hR; have HN := Aside0.mk hN; have G1 := Aside0.mk g1; have G3 := Aside0.mk g3; have G4 := Aside0.mk g4; have HFI := Aside0.mk hfin
  clear hR hN g1 g3 g4 hfin
  have hu54 := Tryd.underlying54
  have hu50 := Tryd.underlying50
  go_enter Tryd.func62, Tryd.ntmps62
  go_wp2_with (first | ((with_reducible refine gate_dst (N := 1) rfl ?_); refine box_event ?hg (N := 1) ?hd (cs := #[.string f.f0, .slice A1 f.f1.length c1, .int .i64 f.f2, .slice A3 f.f3.length c3, .slice A4 f.f4.length c4]) (t := 54) ?hr ?_; (case hd => rfl); (case hg => rfl); (case hr => first | (go_simp; done) | (go_simp; rfl)); intro gX hg_ WX hbox_ hb_; have HB : Aside0 (Below w.heap.size w WX) := ⟨hb_⟩; have BX := Aside0.mk hbox_; clear hg_ hbox_ hb_; have hcX0 := (blk_cell BX.out 0).trans rfl; have hcX1 := (blk_cell BX.out 1).trans rfl; have hcX2 := (blk_cell BX.out 2).trans rfl; have hcX3 := (blk_cell BX.out 3).trans rfl; have hcX4 := (blk_cell BX.out 4).trans rfl))
  refine (HN.out _).mono ?_
  rintro e_ W2 ⟨rfl, hb_⟩
  have n_ := Aside0.mk (blk_below BX.out hb_); have m_ := Aside0.mk (below_step HB.out hb_)
  clear hcX0 hcX1 hcX2 hcX3 hcX4; clear BX HB hb_; have BX := n_; have HB := m_; clear n_ m_
  have hcX0 := (blk_cell BX.out 0).trans rfl; have hcX1 := (blk_cell BX.out 1).trans rfl; have hcX2 := (blk_cell BX.out 2).trans rfl; have hcX3 := (blk_cell BX.out 3).trans rfl; have hcX4 := (blk_cell BX.out 4).trans rfl
  go_wp2_with fail
  refine (d_types A1 c1 f.f1 _ (Kd.C_below G1.out HB.out) HFI.out.2.1).mono ?_
  rintro e_ w_ ⟨rfl, rfl⟩
  go_wp2_with fail
  refine (d_types A3 c3 f.f3 _ (Kd.C_below G3.out HB.out) HFI.out.2.2.1).mono ?_
  rintro e_ w_ ⟨rfl, rfl⟩
  go_wp2_with fail
  refine (d_typed f.f2 _).mono ?_
  rintro e_ w_ ⟨rfl, rfl⟩
  cases hn : nameF f.f0 with
  | false =>
    have hr2 : r = false := HRR.out.trans (by simp [fnB, hn])
    subst hr2
    go_wp2
    go_ret
    exact ⟨rfl, HB.out⟩
  | true =>
    cases h1 : f.f1.all typB with
    | false =>
      have hr2 : r = false := HRR.out.trans (fnB_params h1)
      subst hr2
      go_wp2
      go_ret
      exact ⟨rfl, HB.out⟩
    | true =>
      cases h3 : f.f3.all typB with
      | false =>
        have hr2 : r = false := HRR.out.trans (by simp [fnB, h3])
        subst hr2
        go_wp2
        go_ret
        exact ⟨rfl, HB.out⟩
      | true =>
        by_cases hz : typB f.f2 = false ∧ f.f2 ≠ 0
        · have z0 : (f.f2 != 0) = true := by simp [hz.2]
          rw [hz.1]
          have hr2 : r = false := HRR.out.trans (by simp [fnB, hz.1, hz.2])
          subst hr2
          go_wp2
          go_ret
          exact ⟨rfl, HB.out⟩
        have hz2 : typB f.f2 = true ∨ (typB f.f2 = false ∧ (f.f2 != 0) = false) := by
          cases ht : typB f.f2 with
          | true => exact .inl rfl
          | false => exact .inr ⟨rfl, by simpa using fun h => hz ⟨ht, h⟩⟩
        have HZ : Aside0 ((decide (f.f2 = 0) || typB f.f2) = true) := ⟨or_zero hz2⟩
        clear hz
        rcases hz2 with ht | ⟨ht, hz0⟩ <;> rw [ht]
        all_goals
          by_cases l1 : f.f1.length ≤ 8
          rotate_left
          · have zl1 : decide ((f.f1.length : Int) > 8) = true := decide_eq_true (by omega)
            have hr2 : r = false := HRR.out.trans (by simp [fnB, l1])
            subst hr2
            go_wp2
            go_ret
            exact ⟨rfl, HB.out⟩
          have zl1 : decide ((f.f1.length : Int) > 8) = false := decide_eq_false (by omega)
          by_cases l3 : f.f3.length ≤ 32
          rotate_left
          · have zl3 : decide ((f.f3.length : Int) > 32) = true := decide_eq_true (by omega)
            have hr2 : r = false := HRR.out.trans (by simp [fnB, l3])
            subst hr2
            go_wp2
            go_ret
            exact ⟨rfl, HB.out⟩
          have zl3 : decide ((f.f3.length : Int) > 32) = false := decide_eq_false (by omega)
          by_cases l2 : f.f1.length ≤ f.f3.length
          rotate_left
          · have zl2 : decide ((f.f3.length : Int) < (f.f1.length : Int)) = true := decide_eq_true (by omega)
            have hr2 : r = false := HRR.out.trans (by simp [fnB, l2])
            subst hr2
            go_wp2
            go_ret
            exact ⟨rfl, HB.out⟩
          have zl2 : decide ((f.f3.length : Int) < (f.f1.length : Int)) = false := decide_eq_false (by omega)
          by_cases l4 : f.f4.length ≤ 32768
          rotate_left
          · have zl4 : decide ((f.f4.length : Int) > 32768) = true := decide_eq_true (by omega)
            have hr2 : r = false := HRR.out.trans (by simp [fnB, l4])
            subst hr2
            go_wp2
            go_ret
            exact ⟨rfl, HB.out⟩
          have zl4 : decide ((f.f4.length : Int) > 32768) = false := decide_eq_false (by omega)
          have HLL := Aside0.mk (And.intro hn (And.intro h1 h3))
          go_wp2_with fail
          clear hcX0 hcX1 hcX2 hcX3 hcX4
          go_loopw [7] (fun vi wr => ∃ (k : Nat), vi = .int .i64 k ∧ Aside0 (k ≤ f.f1.length) ∧ Aside0 (f.f1.take k = f.f3.take k) ∧ Aside0 (Below w.heap.size w wr) ∧ Aside0 (wr.heap[gX]? = some (.cells #[.string f.f0, .slice A1 f.f1.length c1, .int .i64 f.f2, .slice A3 f.f3.length c3, .slice A4 f.f4.length c4] 54 (0, 0)))) (fun v _ => f.f1.length - (intOf v).toNat)
          case atStart => exact ⟨0, rfl, ⟨Nat.zero_le _⟩, ⟨rfl⟩, HB, BX⟩
          case round =>
            clear HB BX
            obtain ⟨k, rfl, HK, HT, HB, BX⟩ := hrel
            have hcX0 := (blk_cell BX.out 0).trans rfl; have hcX1 := (blk_cell BX.out 1).trans rfl; have hcX2 := (blk_cell BX.out 2).trans rfl; have hcX3 := (blk_cell BX.out 3).trans rfl; have hcX4 := (blk_cell BX.out 4).trans rfl
            have hk := HK.out
            by_cases hlt : k < f.f1.length
            · obtain ⟨x, hxx⟩ : ∃ x, f.f1[k]? = some x := ⟨_, List.getElem?_eq_getElem hlt⟩
              obtain ⟨y, hyy⟩ : ∃ y, f.f3[k]? = some y := ⟨_, List.getElem?_eq_getElem (by omega)⟩
              obtain ⟨ad, e1_, hx_⟩ := Kd.at_int (Kd.C_below G1.out HB.out) (k : Int) (by omega) (by omega)
              obtain ⟨ad3, e3_, hy_⟩ := Kd.at_int (Kd.C_below G3.out HB.out) (k : Int) (by omega) (by omega)
              cases e1_; cases e3_
              have hget : rd f.f1 (k : Int) = x := by unfold rd; simp only [Int.toNat_natCast, List.getD_eq_getElem?_getD]; rw [hxx]; rfl
              have hget3 : rd f.f3 (k : Int) = y := by unfold rd; simp only [Int.toNat_natCast, List.getD_eq_getElem?_getD]; rw [hyy]; rfl
              rw [hget] at hx_; rw [hget3] at hy_
              simp only [Int.toNat_natCast] at hx_ hy_
              have z1 : decide ((k : Int) < (f.f1.length : Int)) = true := decide_eq_true (by omega)
              have q1 : (0 ≤ (k : Int)) = True := eq_true (by omega)
              have q2 : ((k : Int) < (f.f1.length : Int)) = True := eq_true (by omega)
              have q3 : ((k : Int) < (f.f3.length : Int)) = True := eq_true (by omega)
              have HXX := Lib.hid hxx; have HYY := Lib.hid hyy; have HLT := Lib.hid hlt
              clear hget hget3 hxx hyy hlt
              by_cases hxy : x = y
              · subst hxy
                have zn : (x != x) = false := by simp
                go_wp2_with fail
                go_region
                all_goals
                  go_wp2
                  exact ⟨⟨k + 1, by go_num, ⟨HLT.out⟩, ⟨take_pair HXX.out HYY.out HT.out⟩, ⟨HB.out.drew⟩, ⟨blk_drew BX.out⟩⟩, by have := HLT.out; simp [intOf]; omega⟩
              · have zn : (x != y) = true := by simp [hxy]
                have hr2 : r = false := HRR.out.trans (fnB_pair HXX.out HYY.out hxy)
                subst hr2
                go_wp2_with fail
                go_region
                all_goals
                  go_wp2
                  go_ret
                  exact ⟨rfl, HB.out.drew⟩
            · have z1 : decide ((k : Int) < (f.f1.length : Int)) = false := decide_eq_false (by omega)
              obtain rfl : k = f.f1.length := by omega
              rw [List.take_length] at HT
              clear hlt hk HK
              go_wp2_with fail
              clear z1 hcX0 hcX1 hcX2 hcX3 hcX4
              go_loopw [8] (fun vi wr => ∃ (k : Nat), vi = .int .i64 k ∧ Aside0 (k ≤ f.f4.length) ∧ Aside0 ((f.f4.take k).all (fun x => !insBad x) = true) ∧ Aside0 (Below w.heap.size w wr) ∧ Aside0 (wr.heap[gX]? = some (.cells #[.string f.f0, .slice A1 f.f1.length c1, .int .i64 f.f2, .slice A3 f.f3.length c3, .slice A4 f.f4.length c4] 54 (0, 0)))) (fun v _ => f.f4.length - (intOf v).toNat)
              case atStart => exact ⟨0, rfl, ⟨Nat.zero_le _⟩, ⟨by simp⟩, HB, BX⟩
              case round =>
                clear HB BX
                obtain ⟨k, rfl, HK, HA, HB, BX⟩ := hrel
                have hcX0 := (blk_cell BX.out 0).trans rfl; have hcX1 := (blk_cell BX.out 1).trans rfl; have hcX2 := (blk_cell BX.out 2).trans rfl; have hcX3 := (blk_cell BX.out 3).trans rfl; have hcX4 := (blk_cell BX.out 4).trans rfl
                have hk := HK.out
                by_cases hlt : k < f.f4.length
                · obtain ⟨x, hxx⟩ : ∃ x, f.f4[k]? = some x := ⟨_, List.getElem?_eq_getElem hlt⟩
                  obtain ⟨ad, e1_, h0_, h1_, h2_⟩ := at_T50 (Kd.C_below G4.out HB.out) (k : Int) (by omega) (by omega)
                  cases e1_
                  have hget : rd_T50 f.f4 (k : Int) = x := by unfold rd_T50; simp only [Int.toNat_natCast, List.getD_eq_getElem?_getD]; rw [hxx]; rfl
                  rw [hget] at h0_ h1_ h2_
                  simp only [Int.toNat_natCast] at h0_ h1_ h2_
                  have z1 : decide ((k : Int) < (f.f4.length : Int)) = true := decide_eq_true (by omega)
                  have q1 : (0 ≤ (k : Int)) = True := eq_true (by omega)
                  have q2 : ((k : Int) < (f.f4.length : Int)) = True := eq_true (by omega)
                  have HXX := Lib.hid hxx; have HLT := Lib.hid hlt
                  clear hget hxx hlt
                  by_cases a1 : x.f0 < 1
                  · have za1 : decide (x.f0 < 1) = true := decide_eq_true a1
                    have hr2 : r = false := HRR.out.trans (fnB_ins HXX.out (by simp [insBad]; omega))
                    subst hr2
                    go_wp2
                    go_ret
                    exact ⟨rfl, HB.out.alloc HB.out.size _⟩
                  have za1 : decide (x.f0 < 1) = false := decide_eq_false a1
                  by_cases a2 : x.f0 > 33
                  · have za2 : decide (x.f0 > 33) = true := decide_eq_true a2
                    have hr2 : r = false := HRR.out.trans (fnB_ins HXX.out (by simp [insBad]; omega))
                    subst hr2
                    go_wp2
                    go_ret
                    exact ⟨rfl, HB.out.alloc HB.out.size _⟩
                  have za2 : decide (x.f0 > 33) = false := decide_eq_false a2
                  by_cases a3 : x.f2 < 0
                  · have za3 : decide (x.f2 < 0) = true := decide_eq_true a3
                    have hr2 : r = false := HRR.out.trans (fnB_ins HXX.out (by simp [insBad]; omega))
                    subst hr2
                    go_wp2
                    go_ret
                    exact ⟨rfl, HB.out.alloc HB.out.size _⟩
                  have za3 : decide (x.f2 < 0) = false := decide_eq_false a3
                  by_cases a4 : x.f2 > 4
                  · have za4 : decide (x.f2 > 4) = true := decide_eq_true a4
                    have hr2 : r = false := HRR.out.trans (fnB_ins HXX.out (by simp [insBad]; omega))
                    subst hr2
                    go_wp2
                    go_ret
                    exact ⟨rfl, HB.out.alloc HB.out.size _⟩
                  have za4 : decide (x.f2 > 4) = false := decide_eq_false a4
                  have hgood : (!insBad x) = true := by simp [insBad]; omega
                  have HGD := Aside0.mk hgood; clear hgood
                  go_wp2
                  exact ⟨⟨k + 1, by go_num, ⟨HLT.out⟩, ⟨all_take HXX.out HA.out HGD.out⟩, ⟨HB.out.alloc HB.out.size _⟩, ⟨blk_alloc BX.out _⟩⟩, by have := HLT.out; simp [intOf]; omega⟩
                · have z1 : decide ((k : Int) < (f.f4.length : Int)) = false := decide_eq_false (by omega)
                  obtain rfl : k = f.f4.length := by omega
                  have hr2 : r = true := HRR.out.trans (fnB_yes HLL.out.1 HLL.out.2.1 HLL.out.2.2 l1 l3 l2 l4 HZ.out HT.out (all_all HA.out))
                  subst hr2
                  go_wp2
                  go_ret
                  exact ⟨rfl, HB.out⟩
end Go.Proofs.YteidgpaakoeefaaDoor
namespace Go.Proofs.YteidgpaakoeefaaDoor
open Go.RowKit Go.Proofs.YteidgpaakoeefaaDoorW.PrintWords Go.Proofs.YteidgpaakoeefaaDoorW.PrintLast Go.Proofs.YteidgpaakoeefaaDoorW.PrintMore
set_option linter.unusedVariables false
set_option linter.unusedSimpArgs false
open PIm
theorem okF_glob {gs : List S48} {fs : List S54} {k : Nat} {x : S48} (hx : gs[k]? = some x) (h : globB x = false) : okF gs fs = false := by
  have : (gs.any fun x => !globB x) = true := by rw [List.any_eq_true]; exact ⟨x, List.mem_of_getElem? hx, by simp [h]⟩
  unfold okF
  rw [this]; simp
theorem okF_fn {gs : List S48} {fs : List S54} {k : Nat} {x : S54} (hx : fs[k]? = some x) (h : fnB x = false) : okF gs fs = false := by
  have : (fs.any fun x => !fnB x) = true := by rw [List.any_eq_true]; exact ⟨x, List.mem_of_getElem? hx, by simp [h]⟩
  unfold okF
  rw [this]; simp
theorem okF_yes {gs : List S48} {fs : List S54} (l1 : gs.length ≤ 64) (l2 : fs.length ≤ 64) (h1 : gs.all globB = true) (h2 : fs.all fnB = true) : okF gs fs = true := by
  have e1 : (gs.any fun x => !globB x) = false := by rw [List.any_eq_false]; intro x hx; simp [List.all_eq_true.1 h1 x hx]
  have e2 : (fs.any fun x => !fnB x) = false := by rw [List.any_eq_false]; intro x hx; simp [List.all_eq_true.1 h2 x hx]
  unfold okF
  rw [e1, e2, decide_eq_true l1, decide_eq_true l2]
  rfl
set_option maxHeartbeats 8000000 in
set_option maxRecDepth 100000 in
theorem d_Ok (A0 : Option Addr) (c0 : Nat) (gs : List S48) (A1 : Option Addr) (c1 : Nat) (fs : List S54) (w : World) (hr0 : Kd.C k48 w A0 gs.length gs) (hr1 : Kd.C k54 w A1 fs.length fs)
    (hN : ∀ f ∈ fs, ∀ W, Calls Tryd.prog 88 #[.string f.f0] W fun e w' => e = .returned (.bool (nameF f.f0)) ∧ Below W.heap.size W w') (hfin : ∀ f ∈ fs, fnIn f) :
    Calls Tryd.prog 34 #[.agg #[.slice A0 gs.length c0, .slice A1 fs.length c1]] w fun e w' => e = .returned (.bool (okF gs fs)) ∧ Below w.heap.size w w' := by
  obtain ⟨r, hR⟩ : ∃ r, r = okF gs fs := ⟨_, rfl⟩
  rw [← hR]
  have HRR := Aside0.mk hR; have HN := Aside0.mk hN; have HR0 := Aside0.mk hr0; have HR1 := Aside0.mk hr1; have HFI := Aside0.mk hfin
  clear hR hN hr0 hr1 hfin
  have hu25 := Tryd.underlying25
  have hu48 := Tryd.underlying48
  have hu54 := Tryd.underlying54
  go_enter Tryd.func34, Tryd.ntmps34
  by_cases l1 : gs.length ≤ 64
  rotate_left
  · have z1 : decide ((gs.length : Int) > 64) = true := decide_eq_true (by omega)
    have hr2 : r = false := HRR.out.trans (by unfold okF; rw [decide_eq_false l1]; rfl)
    subst hr2
    go_wp2_with (first | ((with_reducible refine gate_dst (N := 1) rfl ?_); refine box_event ?hg (N := 1) ?hd (cs := #[.slice A0 gs.length c0, .slice A1 fs.length c1]) (t := 25) ?hr ?_; (case hd => rfl); (case hg => rfl); (case hr => first | (go_simp; done) | (go_simp; rfl)); intro gX hg_ WX hbox_ hb_; have HB : Aside0 (Below w.heap.size w WX) := ⟨hb_⟩; have BX := Aside0.mk hbox_; clear hg_ hbox_ hb_; have hcX0 := (blk_cell BX.out 0).trans rfl; have hcX1 := (blk_cell BX.out 1).trans rfl))
    go_ret
    exact ⟨rfl, HB.out⟩
  have z1 : decide ((gs.length : Int) > 64) = false := decide_eq_false (by omega)
  by_cases l2 : fs.length ≤ 64
  rotate_left
  · have z2 : decide ((fs.length : Int) > 64) = true := decide_eq_true (by omega)
    have hr2 : r = false := HRR.out.trans (by unfold okF; rw [decide_eq_false l2]; simp)
    subst hr2
    go_wp2_with (first | ((with_reducible refine gate_dst (N := 1) rfl ?_); refine box_event ?hg (N := 1) ?hd (cs := #[.slice A0 gs.length c0, .slice A1 fs.length c1]) (t := 25) ?hr ?_; (case hd => rfl); (case hg => rfl); (case hr => first | (go_simp; done) | (go_simp; rfl)); intro gX hg_ WX hbox_ hb_; have HB : Aside0 (Below w.heap.size w WX) := ⟨hb_⟩; have BX := Aside0.mk hbox_; clear hg_ hbox_ hb_; have hcX0 := (blk_cell BX.out 0).trans rfl; have hcX1 := (blk_cell BX.out 1).trans rfl))
    go_ret
    exact ⟨rfl, HB.out⟩
  have z2 : decide ((fs.length : Int) > 64) = false := decide_eq_false (by omega)
  go_wp2_with (first | ((with_reducible refine gate_dst (N := 1) rfl ?_); refine box_event ?hg (N := 1) ?hd (cs := #[.slice A0 gs.length c0, .slice A1 fs.length c1]) (t := 25) ?hr ?_; (case hd => rfl); (case hg => rfl); (case hr => first | (go_simp; done) | (go_simp; rfl)); intro gX hg_ WX hbox_ hb_; have HB : Aside0 (Below w.heap.size w WX) := ⟨hb_⟩; have BX := Aside0.mk hbox_; clear hg_ hbox_ hb_; have hcX0 := (blk_cell BX.out 0).trans rfl; have hcX1 := (blk_cell BX.out 1).trans rfl))
  clear hcX0 hcX1 z1 z2
  go_loopw [3] (fun vi wr => ∃ (k : Nat), vi = .int .i64 k ∧ Aside0 (k ≤ gs.length) ∧ Aside0 ((gs.take k).all globB = true) ∧ Aside0 (Below w.heap.size w wr) ∧ Aside0 (wr.heap[gX]? = some (.cells #[.slice A0 gs.length c0, .slice A1 fs.length c1] 25 (0, 0)))) (fun v _ => gs.length - (intOf v).toNat)
  case atStart => exact ⟨0, rfl, ⟨Nat.zero_le _⟩, ⟨by simp⟩, HB, BX⟩
  case round =>
    clear HB BX
    obtain ⟨k, rfl, HK, HA, HB, BX⟩ := hrel
    have hcX0 := (blk_cell BX.out 0).trans rfl; have hcX1 := (blk_cell BX.out 1).trans rfl
    have hk := HK.out
    by_cases hlt : k < gs.length
    · obtain ⟨x, hxx⟩ : ∃ x, gs[k]? = some x := ⟨_, List.getElem?_eq_getElem hlt⟩
      obtain ⟨ad, e1_, h0_, h1_, h2_⟩ := at_T48 (Kd.C_below HR0.out HB.out) (k : Int) (by omega) (by omega)
      cases e1_
      have hget : rd_T48 gs (k : Int) = x := by unfold rd_T48; simp only [Int.toNat_natCast, List.getD_eq_getElem?_getD]; rw [hxx]; rfl
      rw [hget] at h0_ h1_ h2_
      simp only [Int.toNat_natCast] at h0_ h1_ h2_
      have z1 : decide ((k : Int) < (gs.length : Int)) = true := decide_eq_true (by omega)
      have q1 : (0 ≤ (k : Int)) = True := eq_true (by omega)
      have q2 : ((k : Int) < (gs.length : Int)) = True := eq_true (by omega)
      have HXX := Lib.hid hxx; have HLT := Lib.hid hlt
      clear hget hxx hlt
      go_wp2_with fail
      refine (d_globOk x _).mono ?_
      rintro e_ w_ ⟨rfl, hb_⟩
      have n_ := Aside0.mk (blk_below BX.out hb_); have m_ := Aside0.mk (below_step HB.out hb_)
      clear hcX0 hcX1 h0_ h1_ h2_; clear BX HB hb_; have BX := n_; have HB := m_; clear n_ m_
      have hcX0 := (blk_cell BX.out 0).trans rfl; have hcX1 := (blk_cell BX.out 1).trans rfl
      cases ht : globB x with
      | true =>
        go_wp2
        exact ⟨⟨k + 1, by go_num, ⟨HLT.out⟩, ⟨all_take HXX.out HA.out ht⟩, HB, BX⟩, by have := HLT.out; simp [intOf]; omega⟩
      | false =>
        have hr2 : r = false := HRR.out.trans (okF_glob HXX.out ht)
        subst hr2
        go_wp2
        go_ret
        exact ⟨rfl, HB.out⟩
    · have z1 : decide ((k : Int) < (gs.length : Int)) = false := decide_eq_false (by omega)
      obtain rfl : k = gs.length := by omega
      have HGA := Aside0.mk (all_all HA.out)
      clear hlt hk HK HA
      go_wp2_with fail
      clear z1 hcX0 hcX1
      go_loopw [5] (fun vi wr => ∃ (k : Nat), vi = .int .i64 k ∧ Aside0 (k ≤ fs.length) ∧ Aside0 ((fs.take k).all fnB = true) ∧ Aside0 (Below w.heap.size w wr) ∧ Aside0 (wr.heap[gX]? = some (.cells #[.slice A0 gs.length c0, .slice A1 fs.length c1] 25 (0, 0)))) (fun v _ => fs.length - (intOf v).toNat)
      case atStart => exact ⟨0, rfl, ⟨Nat.zero_le _⟩, ⟨by simp⟩, HB, BX⟩
      case round =>
        clear HB BX
        obtain ⟨k, rfl, HK, HA, HB, BX⟩ := hrel
        have hcX0 := (blk_cell BX.out 0).trans rfl; have hcX1 := (blk_cell BX.out 1).trans rfl
        have hk := HK.out
        by_cases hlt : k < fs.length
        · obtain ⟨x, hxx⟩ : ∃ x, fs[k]? = some x := ⟨_, List.getElem?_eq_getElem hlt⟩
          have hmem := List.mem_of_getElem? hxx
          obtain ⟨ad, RA1, rc1, RA3, rc3, RA4, rc4, e1_, h0_, h1_, h2_, h3_, h4_, l1_, g1, l3_, g3, l4_, g4⟩ := at_T54 (Kd.C_below HR1.out HB.out) (k : Int) (by omega) (by omega)
          cases e1_
          have hget : rd_T54 fs (k : Int) = x := by unfold rd_T54; simp only [Int.toNat_natCast, List.getD_eq_getElem?_getD]; rw [hxx]; rfl
          rw [hget] at h0_ h1_ h2_ h3_ h4_ g1 g3 g4
          simp only [Int.toNat_natCast] at h0_ h1_ h2_ h3_ h4_
          have z1 : decide ((k : Int) < (fs.length : Int)) = true := decide_eq_true (by omega)
          have q1 : (0 ≤ (k : Int)) = True := eq_true (by omega)
          have q2 : ((k : Int) < (fs.length : Int)) = True := eq_true (by omega)
          have HXX := Lib.hid hxx; have HLT := Lib.hid hlt
          have HC := Aside0.mk (d_fnOk x RA1 rc1 RA3 rc3 RA4 rc4 wr (HN.out x hmem) g1 g3 g4 (HFI.out x hmem))
          clear hget hxx hlt g1 g3 g4 l1_ l3_ l4_ hmem
          go_wp2_with fail
          refine HC.out.mono ?_
          rintro e_ w_ ⟨rfl, hb_⟩
          have n_ := Aside0.mk (blk_below BX.out hb_); have m_ := Aside0.mk (below_step HB.out hb_)
          clear hcX0 hcX1 h0_ h1_ h2_ h3_ h4_ HC; clear BX HB hb_; have BX := n_; have HB := m_; clear n_ m_
          have hcX0 := (blk_cell BX.out 0).trans rfl; have hcX1 := (blk_cell BX.out 1).trans rfl
          cases ht : fnB x with
          | true =>
            go_wp2
            exact ⟨⟨k + 1, by go_num, ⟨HLT.out⟩, ⟨all_take HXX.out HA.out ht⟩, HB, BX⟩, by have := HLT.out; simp [intOf]; omega⟩
          | false =>
            have hr2 : r = false := HRR.out.trans (okF_fn HXX.out ht)
            subst hr2
            go_wp2
            go_ret
            exact ⟨rfl, HB.out⟩
        · have z1 : decide ((k : Int) < (fs.length : Int)) = false := decide_eq_false (by omega)
          obtain rfl : k = fs.length := by omega
          have hr2 : r = true := HRR.out.trans (okF_yes l1 l2 HGA.out (all_all HA.out))
          subst hr2
          go_wp2
          go_ret
          exact ⟨rfl, HB.out⟩
end Go.Proofs.YteidgpaakoeefaaDoor
