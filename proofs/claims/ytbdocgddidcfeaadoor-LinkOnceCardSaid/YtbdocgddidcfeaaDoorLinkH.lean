/- Receive. Printed by gen_h.py. -/
import Derived.Test.YtbdocgddidcfeaaDoorLink1
namespace Go.Proofs.YtbdocgddidcfeaaDoor
open Go.RowKit Go.Proofs.YtbdocgddidcfeaaDoorW.PrintWords Go.Proofs.YtbdocgddidcfeaaDoorW.PrintLast Go.Proofs.YtbdocgddidcfeaaDoorW.PrintMore
set_option linter.unusedVariables false
set_option linter.unusedSimpArgs false

theorem formed_facts {b : List Int} (h : formedF b = true) : 11 ≤ b.length ∧ 1 ≤ rd b 10 ∧ rd b 10 ≤ 10 ∧ rd b 9 < rd b 10 ∧ (b.length : Int) - 11 ≤ 200 := by
  unfold formedF at h
  split at h
  · cases h
  · split at h
    · cases h
    · split at h
      · cases h
      · omega
/-- What Receive tells of its end. -/
def RcvPost (w : World) (g : Nat) (ws : List Nat) (s' : LS) (out : List Int) (told : Bool) (err : Int) (e : Ending) (w' : World) : Prop :=
  ∃ v ws', e = .returned (.tuple #[v, .bool told, .int .i64 err]) ∧ RS w.heap.size w' v out ∧ LinkM w' g s' ws' ∧ (∀ k ∈ ws', k ∈ ws ∨ w.heap.size ≤ k) ∧ Keeps w w' ws

set_option maxHeartbeats 8000000 in
set_option maxRecDepth 100000 in
theorem rcv_shut (A : Option Addr) (c : Nat) (d : List Int) (g : Nat) (s : LS) (ws : List Nat) (w : World) (h : LinkM w g s ws) (hC : Kd.C (Kd.int .u8) w A d.length d) (hc : d.length ≤ c) (hd : ∀ x ∈ d, 0 ≤ x ∧ x < 256) (hl : d.length ≤ 140737488351232) (hT : Tab w) (h2 : (opF d).2 = false) : Calls Tryd.prog 13 #[.pointer (some ⟨g, 0, none⟩), .slice A d.length c] w (RcvPost w g ws s [] false 70) := by
  have hO := Open_callsF A c d w hC hc (by omega) hT
  rw [h2] at hO
  go_enter Tryd.func13, Tryd.ntmps13
  go_wp2
  refine wp_scope_fwd 0 rfl ?_
  go_wp2_with fail
  ((with_reducible refine hO.mono ?_); rintro e_ W1 ⟨v0, rfl, ⟨sp, ho_⟩, hb_⟩)
  have HL := Aside0.mk (h.below hb_); have HB := Aside0.mk hb_
  clear h ho_ hb_ hO
  go_wp2
  go_step3
  refine ⟨rfl, ?_⟩
  go_wp2
  (try simp only [Exit.jump])
  go_ret3
  exact ⟨_, ws, rfl, RS.nil _ _, HL.out, fun k hk => .inl hk, Keeps.of_below HB.out ws⟩

set_option maxHeartbeats 8000000 in
set_option maxRecDepth 100000 in
theorem rcv_unformed (A : Option Addr) (c : Nat) (d : List Int) (g : Nat) (s : LS) (ws : List Nat) (w : World) (h : LinkM w g s ws) (hC : Kd.C (Kd.int .u8) w A d.length d) (hc : d.length ≤ c) (hd : ∀ x ∈ d, 0 ≤ x ∧ x < 256) (hl : d.length ≤ 140737488351232) (hT : Tab w) (hbl : (opF d).1.length ≤ 140737488355328) (h2 : (opF d).2 = true) (h3 : formedF (opF d).1 = false) : Calls Tryd.prog 13 #[.pointer (some ⟨g, 0, none⟩), .slice A d.length c] w (RcvPost w g ws s [] false 70) := by
  obtain ⟨b, hbe⟩ : ∃ b, b = (opF d).1 := ⟨_, rfl⟩
  have hbr : ∀ x ∈ b, 0 ≤ x ∧ x < 256 := by rw [hbe]; exact opF_range d hd
  have hO := Open_callsF A c d w hC hc (by omega) hT
  rw [h2, ← hbe] at hO
  rw [← hbe] at h3 hbl
  obtain ⟨L, hL⟩ : ∃ L, L = b.length := ⟨_, rfl⟩
  rw [← hL] at hbl
  have HBE := Aside0.mk hbe; have HLN := Aside0.mk hL; have HBR := Aside0.mk hbr
  clear hbe hL hbr
  go_enter Tryd.func13, Tryd.ntmps13
  go_wp2
  refine wp_scope_fwd 0 rfl ?_
  go_wp2_with fail
  ((with_reducible refine hO.mono ?_); rintro e_ W1 ⟨v0, rfl, ⟨sp, ho_⟩, hb_⟩)
  obtain ⟨Ab, hv, hA, _, hcm⟩ := ho_.form
  rw [List.length_append, ← HLN.out] at hv hcm
  subst hv
  have hRR := Kd.R_reads' ho_.R
  rw [← HLN.out] at hRR
  generalize hq_ : sp.length = q at hRR hcm ⊢
  have HQ := Aside0.mk hq_; clear hq_
  have HL := Aside0.mk (h.below hb_); have HB := Aside0.mk hb_
  have hA' : 0 < L → ∃ gp, Ab = some ⟨gp, 0, none⟩ := by
    intro h0
    rcases hA with ⟨_, hn⟩ | ⟨gp, h1, _⟩
    · have := congrArg List.length hn
      simp at this
      have := HLN.out
      have : L = 0 := by rw [this]; rw [‹b = [] ∧ sp = []›.1]; rfl
      omega
    · exact ⟨gp, h1⟩
  have hF := formed_calls Ab L (L + q) b W1 hRR.2.2 hRR.2.1 hA' HBR.out hbl
  rw [h3] at hF
  clear h ho_ hb_ hO hRR hA hA' hcm
  go_wp2_with fail
  ((with_reducible refine hF.mono ?_); rintro e_ W2 ⟨rfl, q_, rfl⟩)
  clear hF
  go_wp2
  go_step3
  refine ⟨rfl, ?_⟩
  go_wp2
  (try simp only [Exit.jump])
  go_ret3
  exact ⟨_, ws, rfl, RS.nil _ _, HL.out.below (pw_below_drewN (Below.refl _ _) _), fun k hk => .inl hk, Keeps.of_below (pw_below_drewN HB.out _) ws⟩

set_option maxHeartbeats 8000000 in
set_option maxRecDepth 100000 in
theorem rcv_stale1 (A : Option Addr) (c : Nat) (d : List Int) (g : Nat) (s : LS) (ws : List Nat) (w : World) (h : LinkM w g s ws) (hC : Kd.C (Kd.int .u8) w A d.length d) (hc : d.length ≤ c) (hd : ∀ x ∈ d, 0 ≤ x ∧ x < 256) (hl : d.length ≤ 140737488351232) (hT : Tab w)
    (b : List Int) (N x9 x10 : Int) (hbe : b = (opF d).1) (hNx : N = rd b 7 * 256 + rd b 8) (hx9 : x9 = rd b 9) (hx10 : x10 = rd b 10) (hbl : b.length ≤ 140737488355328) (h2 : (opF d).2 = true) (h3 : formedF b = true) (hany : s.any = true) (hnw : newerF N s.last = false) : Calls Tryd.prog 13 #[.pointer (some ⟨g, 0, none⟩), .slice A d.length c] w (RcvPost w g ws { s with acked := hearF s b } [] false 71) := by
  have HX9 := Aside0.mk hx9; have HX10 := Aside0.mk hx10; have HNX := Aside0.mk hNx
  clear hx9 hx10 hNx
  have hbr : ∀ x ∈ b, 0 ≤ x ∧ x < 256 := by rw [hbe]; exact opF_range d hd
  have hO := Open_callsF A c d w hC hc (by omega) hT
  rw [h2, ← hbe] at hO
  obtain ⟨L, hL⟩ : ∃ L, L = b.length := ⟨_, rfl⟩
  rw [← hL] at hbl
  have HLN := Aside0.mk hL; have HBR := Aside0.mk hbr
  clear hbe hL hbr h2 hC hd hc hT
  go_enter Tryd.func13, Tryd.ntmps13
  go_wp2
  refine wp_scope_fwd 1 rfl ?_
  go_wp2_with fail
  ((with_reducible refine hO.mono ?_); rintro e_ W1 ⟨v0, rfl, ⟨sp, ho_⟩, hb_⟩)
  obtain ⟨Ab, hv, hA, _, hcm⟩ := ho_.form
  rw [List.length_append, ← HLN.out] at hv hcm
  subst hv
  have hRR := Kd.R_reads' ho_.R
  rw [← HLN.out] at hRR
  obtain ⟨h11, hm1, hm10, hpm, hsz⟩ := formed_facts h3
  rw [← HLN.out] at h11 hsz
  obtain ⟨gb, hgb, hbk⟩ := hA.resolve_left (fun hn => by
    have h1 := HLN.out
    rw [(List.append_eq_nil_iff.1 hn.2).1] at h1
    simp at h1
    omega)
  subst hgb
  have HBK := Aside0.mk hbk
  generalize hq_ : sp.length = q at hRR hcm ⊢
  clear hq_
  have hF := formed_calls (some ⟨gb, 0, none⟩) L (L + q) b W1 hRR.2.2 hRR.2.1 (fun _ => ⟨gb, rfl⟩) HBR.out hbl
  rw [h3] at hF
  have hgbn := ho_.base gb rfl
  have HL1 := Aside0.mk (h.below hb_); have HB := Aside0.mk hb_; have HH := Aside0.mk h; have HGB := Aside0.mk hgbn
  have HSZ := Aside0.mk hsz; have hLq := hRR.2.1
  clear h hbk ho_ hb_ hO hRR hA h3 hgbn hsz
  go_wp2_with fail
  ((with_reducible refine hF.mono ?_); rintro e_ W2 ⟨rfl, q_, rfl⟩)
  clear hF
  have HL2 := Aside0.mk (HL1.out.below (pw_below_drewN (Below.refl _ _) q_))
  have hcellf : ∀ (W : World), W.heap[gb]? = some (Obj.cells ((b ++ sp).map (Value.int .u8)).toArray 5 (0, 0)) → ∀ i : Nat, i < L → W.cell? ⟨gb, i, none⟩ = some (.int .u8 (rd b (i : Int))) := by
    intro W hW i hi
    have hi' : i < b.length := by have := HLN.out; omega
    rw [blk_cell hW, rd_get' hi']
    simp only [List.getElem?_toArray, List.map_append]
    rw [List.getElem?_append_left (by simpa using hi'), List.getElem?_map, List.getElem?_eq_getElem hi']
    rfl
  have HCF := Aside0.mk hcellf; clear hcellf
  have hh := hear_calls g s ws gb L (L + q) b (W1.drewN q_) HL2.out HLN.out.symm (HCF.out _ HBK.out) h11 HBR.out
  go_wp2_with fail
  ((with_reducible refine hh.mono ?_); rintro e_ W3 ⟨rfl, hm3, hk3⟩)
  clear hh
  have hbk3 := hk3.u8 HL2.out HBK.out
  have HBK3 := Aside0.mk hbk3
  have HK3 : Aside0 (Keeps w W3 ws) := ⟨(Keeps.of_below (pw_below_drewN HB.out q_) ws).then hk3⟩
  have HM3 := Aside0.mk hm3
  have c7 : W3.cell? ⟨gb, 7, none⟩ = some (.int .u8 (rd b 7)) := HCF.out _ hbk3 7 (by omega)
  have c8 : W3.cell? ⟨gb, 8, none⟩ = some (.int .u8 (rd b 8)) := HCF.out _ hbk3 8 (by omega)
  have c9 : W3.cell? ⟨gb, 9, none⟩ = some (.int .u8 (rd b 9)) := HCF.out _ hbk3 9 (by omega)
  have c10 : W3.cell? ⟨gb, 10, none⟩ = some (.int .u8 (rd b 10)) := HCF.out _ hbk3 10 (by omega)
  have rdr : ∀ i : Nat, i < 11 → 0 ≤ rd b (i : Int) ∧ rd b (i : Int) < 256 := fun i hi => rd_mem HBR.out (by omega) (by have := HLN.out; omega)
  have r7 : 0 ≤ rd b 7 ∧ rd b 7 < 256 := rdr 7 (by omega)
  have r8 : 0 ≤ rd b 8 ∧ rd b 8 < 256 := rdr 8 (by omega)
  have r9 : 0 ≤ rd b 9 ∧ rd b 9 < 256 := rdr 9 (by omega)
  have r10 : 0 ≤ rd b 10 ∧ rd b 10 < 256 := rdr 10 (by omega)
  obtain ⟨sv, ma, mp, gs, mb, hg3, hs3, ha3, hp3, hw3, hne3, hws3, hok3⟩ := hm3
  obtain ⟨mo, rfl⟩ : ∃ o, mp = .map o := by
    rcases hp3 with ⟨e, _⟩ | ⟨b', _, e, _⟩
    · exact ⟨_, e⟩
    · exact ⟨_, e⟩
  obtain ⟨_, _, _, k3, k4, _, k6, k7, k8, k9⟩ := lcell hg3
  change W3.cell? ⟨g, 3, none⟩ = some (.bool s.any) at k3
  change W3.cell? ⟨g, 4, none⟩ = some (.int .u16 s.last) at k4
  change W3.cell? ⟨g, 6, none⟩ = some (.bool s.waits) at k6
  change W3.cell? ⟨g, 7, none⟩ = some (.int .u16 s.n) at k7
  change W3.cell? ⟨g, 8, none⟩ = some (.int .i64 s.many) at k8
  have hNe : bits .or .u16 (rd b 7 * 256) (rd b 8) = rd b 7 * 256 + rd b 8 := or_add16 _ _ r7 r8
  have hfz : ∀ j, W3.frozen? ⟨g, j, none⟩ = false := fun j => blk_frozen hg3 j
  have hgl : g < W3.heap.size := (Array.getElem?_eq_some_iff.1 hg3).1
  have hsamea : ∀ (o : Obj) (n : Nat), ((W3.drewN n).alloc o).heap[g]? = W3.heap[g]? := fun o n => (MapKept.heap_alloc (W3.drewN n) o).2 g hgl
  have al : ∀ (o : Obj) (n j : Nat), ((W3.drewN n).alloc o).cell? ⟨g, j, none⟩ = W3.cell? ⟨g, j, none⟩ ∧ ((W3.drewN n).alloc o).frozen? ⟨g, j, none⟩ = W3.frozen? ⟨g, j, none⟩ := fun o n j => ⟨World.cell?_of_block (a := ⟨g, j, none⟩) (hsamea o n), World.frozen?_of_block (a := ⟨g, j, none⟩) (hsamea o n)⟩
  have hok := HH.out.ok
  have HOK := Aside0.mk hok; clear hok
  have HAL := Aside0.mk al
  clear al hsamea hg3 hs3 ha3 hp3 hw3 hne3 hws3 hok3 hbk3 hk3 rdr
  have hx9 := HX9.out; have hx10 := HX10.out; have hNx := HNX.out
  rw [← hNx] at hNe
  have hNr : 0 ≤ N ∧ N < 65536 := by omega
  obtain ⟨x7, hx7⟩ : ∃ x, x = rd b 7 := ⟨_, rfl⟩
  obtain ⟨x8, hx8⟩ : ∃ x, x = rd b 8 := ⟨_, rfl⟩
  rw [← hx7] at c7 r7 hNe; rw [← hx8] at c8 r8 hNe; rw [← hx9] at c9 r9 hpm; rw [← hx10] at c10 r10 hm1 hm10 hpm
  clear hx7 hx8 hx9 hx10 hNx
  rw [hany] at k3
  clear hany
  go_wp2
  go_quiet (fail)
  go_wp2_with fail
  ((with_reducible refine (newer_calls _ _ _).mono ?_); rintro e_ Wn ⟨rfl, rfl⟩)
  rw [hnw]
  go_wp2
  go_step3
  refine ⟨rfl, ?_⟩
  go_wp2
  (try simp only [Exit.jump])
  go_ret3
  exact ⟨_, ws, rfl, RS.nil _ _, HM3.out.below (pw_below_drewN (Below.refl _ _) _), fun k hk => .inl hk, HK3.out⟩

set_option maxHeartbeats 8000000 in
set_option maxRecDepth 100000 in
theorem rcv_stale2 (A : Option Addr) (c : Nat) (d : List Int) (g : Nat) (s : LS) (ws : List Nat) (w : World) (h : LinkM w g s ws) (hC : Kd.C (Kd.int .u8) w A d.length d) (hc : d.length ≤ c) (hd : ∀ x ∈ d, 0 ≤ x ∧ x < 256) (hl : d.length ≤ 140737488351232) (hT : Tab w)
    (b : List Int) (N x9 x10 : Int) (hbe : b = (opF d).1) (hNx : N = rd b 7 * 256 + rd b 8) (hx9 : x9 = rd b 9) (hx10 : x10 = rd b 10) (hbl : b.length ≤ 140737488355328) (h2 : (opF d).2 = true) (h3 : formedF b = true) (hany : s.any = false) (hw : s.waits = true) (hne : N ≠ s.n) (hnn : newerF N s.n = false) : Calls Tryd.prog 13 #[.pointer (some ⟨g, 0, none⟩), .slice A d.length c] w (RcvPost w g ws { s with acked := hearF s b } [] false 71) := by
  have HANY := Aside0.mk hany; clear hany
  have HWA := Aside0.mk hw; clear hw
  have HX9 := Aside0.mk hx9; have HX10 := Aside0.mk hx10; have HNX := Aside0.mk hNx
  clear hx9 hx10 hNx
  have hbr : ∀ x ∈ b, 0 ≤ x ∧ x < 256 := by rw [hbe]; exact opF_range d hd
  have hO := Open_callsF A c d w hC hc (by omega) hT
  rw [h2, ← hbe] at hO
  obtain ⟨L, hL⟩ : ∃ L, L = b.length := ⟨_, rfl⟩
  rw [← hL] at hbl
  have HLN := Aside0.mk hL; have HBR := Aside0.mk hbr
  clear hbe hL hbr h2 hC hd hc hT
  go_enter Tryd.func13, Tryd.ntmps13
  go_wp2
  refine wp_scope_fwd 1 rfl ?_
  go_wp2_with fail
  ((with_reducible refine hO.mono ?_); rintro e_ W1 ⟨v0, rfl, ⟨sp, ho_⟩, hb_⟩)
  obtain ⟨Ab, hv, hA, _, hcm⟩ := ho_.form
  rw [List.length_append, ← HLN.out] at hv hcm
  subst hv
  have hRR := Kd.R_reads' ho_.R
  rw [← HLN.out] at hRR
  obtain ⟨h11, hm1, hm10, hpm, hsz⟩ := formed_facts h3
  rw [← HLN.out] at h11 hsz
  obtain ⟨gb, hgb, hbk⟩ := hA.resolve_left (fun hn => by
    have h1 := HLN.out
    rw [(List.append_eq_nil_iff.1 hn.2).1] at h1
    simp at h1
    omega)
  subst hgb
  have HBK := Aside0.mk hbk
  generalize hq_ : sp.length = q at hRR hcm ⊢
  clear hq_
  have hF := formed_calls (some ⟨gb, 0, none⟩) L (L + q) b W1 hRR.2.2 hRR.2.1 (fun _ => ⟨gb, rfl⟩) HBR.out hbl
  rw [h3] at hF
  have hgbn := ho_.base gb rfl
  have HL1 := Aside0.mk (h.below hb_); have HB := Aside0.mk hb_; have HH := Aside0.mk h; have HGB := Aside0.mk hgbn
  have HSZ := Aside0.mk hsz; have hLq := hRR.2.1
  clear h hbk ho_ hb_ hO hRR hA h3 hgbn hsz
  go_wp2_with fail
  ((with_reducible refine hF.mono ?_); rintro e_ W2 ⟨rfl, q_, rfl⟩)
  clear hF
  have HL2 := Aside0.mk (HL1.out.below (pw_below_drewN (Below.refl _ _) q_))
  have hcellf : ∀ (W : World), W.heap[gb]? = some (Obj.cells ((b ++ sp).map (Value.int .u8)).toArray 5 (0, 0)) → ∀ i : Nat, i < L → W.cell? ⟨gb, i, none⟩ = some (.int .u8 (rd b (i : Int))) := by
    intro W hW i hi
    have hi' : i < b.length := by have := HLN.out; omega
    rw [blk_cell hW, rd_get' hi']
    simp only [List.getElem?_toArray, List.map_append]
    rw [List.getElem?_append_left (by simpa using hi'), List.getElem?_map, List.getElem?_eq_getElem hi']
    rfl
  have HCF := Aside0.mk hcellf; clear hcellf
  have hh := hear_calls g s ws gb L (L + q) b (W1.drewN q_) HL2.out HLN.out.symm (HCF.out _ HBK.out) h11 HBR.out
  go_wp2_with fail
  ((with_reducible refine hh.mono ?_); rintro e_ W3 ⟨rfl, hm3, hk3⟩)
  clear hh
  have hbk3 := hk3.u8 HL2.out HBK.out
  have HBK3 := Aside0.mk hbk3
  have HK3 : Aside0 (Keeps w W3 ws) := ⟨(Keeps.of_below (pw_below_drewN HB.out q_) ws).then hk3⟩
  have HM3 := Aside0.mk hm3
  have c7 : W3.cell? ⟨gb, 7, none⟩ = some (.int .u8 (rd b 7)) := HCF.out _ hbk3 7 (by omega)
  have c8 : W3.cell? ⟨gb, 8, none⟩ = some (.int .u8 (rd b 8)) := HCF.out _ hbk3 8 (by omega)
  have c9 : W3.cell? ⟨gb, 9, none⟩ = some (.int .u8 (rd b 9)) := HCF.out _ hbk3 9 (by omega)
  have c10 : W3.cell? ⟨gb, 10, none⟩ = some (.int .u8 (rd b 10)) := HCF.out _ hbk3 10 (by omega)
  have rdr : ∀ i : Nat, i < 11 → 0 ≤ rd b (i : Int) ∧ rd b (i : Int) < 256 := fun i hi => rd_mem HBR.out (by omega) (by have := HLN.out; omega)
  have r7 : 0 ≤ rd b 7 ∧ rd b 7 < 256 := rdr 7 (by omega)
  have r8 : 0 ≤ rd b 8 ∧ rd b 8 < 256 := rdr 8 (by omega)
  have r9 : 0 ≤ rd b 9 ∧ rd b 9 < 256 := rdr 9 (by omega)
  have r10 : 0 ≤ rd b 10 ∧ rd b 10 < 256 := rdr 10 (by omega)
  obtain ⟨sv, ma, mp, gs, mb, hg3, hs3, ha3, hp3, hw3, hne3, hws3, hok3⟩ := hm3
  obtain ⟨mo, rfl⟩ : ∃ o, mp = .map o := by
    rcases hp3 with ⟨e, _⟩ | ⟨b', _, e, _⟩
    · exact ⟨_, e⟩
    · exact ⟨_, e⟩
  obtain ⟨_, _, _, k3, k4, _, k6, k7, k8, k9⟩ := lcell hg3
  change W3.cell? ⟨g, 3, none⟩ = some (.bool s.any) at k3
  change W3.cell? ⟨g, 4, none⟩ = some (.int .u16 s.last) at k4
  change W3.cell? ⟨g, 6, none⟩ = some (.bool s.waits) at k6
  change W3.cell? ⟨g, 7, none⟩ = some (.int .u16 s.n) at k7
  change W3.cell? ⟨g, 8, none⟩ = some (.int .i64 s.many) at k8
  have hNe : bits .or .u16 (rd b 7 * 256) (rd b 8) = rd b 7 * 256 + rd b 8 := or_add16 _ _ r7 r8
  have hfz : ∀ j, W3.frozen? ⟨g, j, none⟩ = false := fun j => blk_frozen hg3 j
  have hgl : g < W3.heap.size := (Array.getElem?_eq_some_iff.1 hg3).1
  have hsamea : ∀ (o : Obj) (n : Nat), ((W3.drewN n).alloc o).heap[g]? = W3.heap[g]? := fun o n => (MapKept.heap_alloc (W3.drewN n) o).2 g hgl
  have al : ∀ (o : Obj) (n j : Nat), ((W3.drewN n).alloc o).cell? ⟨g, j, none⟩ = W3.cell? ⟨g, j, none⟩ ∧ ((W3.drewN n).alloc o).frozen? ⟨g, j, none⟩ = W3.frozen? ⟨g, j, none⟩ := fun o n j => ⟨World.cell?_of_block (a := ⟨g, j, none⟩) (hsamea o n), World.frozen?_of_block (a := ⟨g, j, none⟩) (hsamea o n)⟩
  have hok := HH.out.ok
  have HOK := Aside0.mk hok; clear hok
  have HAL := Aside0.mk al
  clear al hsamea hg3 hs3 ha3 hp3 hw3 hne3 hws3 hok3 hbk3 hk3 rdr
  have hx9 := HX9.out; have hx10 := HX10.out; have hNx := HNX.out
  rw [← hNx] at hNe
  have hNr : 0 ≤ N ∧ N < 65536 := by omega
  obtain ⟨x7, hx7⟩ : ∃ x, x = rd b 7 := ⟨_, rfl⟩
  obtain ⟨x8, hx8⟩ : ∃ x, x = rd b 8 := ⟨_, rfl⟩
  rw [← hx7] at c7 r7 hNe; rw [← hx8] at c8 r8 hNe; rw [← hx9] at c9 r9 hpm; rw [← hx10] at c10 r10 hm1 hm10 hpm
  clear hx7 hx8 hx9 hx10 hNx
  rw [HWA.out] at k6
  have n1 : decide (N = s.n) = false := decide_eq_false hne
  have n2 : (N == s.n) = false := beq_eq_false_iff_ne.2 hne
  have n3 : (N != s.n) = true := bne_iff_ne.2 hne
  rw [HANY.out] at k3
  go_wp2
  go_quiet (fail)
  go_wp2_with fail
  ((with_reducible refine (newer_calls _ _ _).mono ?_); rintro e_ Wn ⟨rfl, rfl⟩)
  rw [hnn]
  go_wp2
  go_step3
  refine ⟨rfl, ?_⟩
  go_wp2
  (try simp only [Exit.jump])
  go_ret3
  exact ⟨_, ws, rfl, RS.nil _ _, HM3.out.below (pw_below_drewN (Below.refl _ _) _), fun k hk => .inl hk, HK3.out⟩

set_option maxHeartbeats 8000000 in
set_option maxRecDepth 100000 in
theorem rcv_stale2a (A : Option Addr) (c : Nat) (d : List Int) (g : Nat) (s : LS) (ws : List Nat) (w : World) (h : LinkM w g s ws) (hC : Kd.C (Kd.int .u8) w A d.length d) (hc : d.length ≤ c) (hd : ∀ x ∈ d, 0 ≤ x ∧ x < 256) (hl : d.length ≤ 140737488351232) (hT : Tab w)
    (b : List Int) (N x9 x10 : Int) (hbe : b = (opF d).1) (hNx : N = rd b 7 * 256 + rd b 8) (hx9 : x9 = rd b 9) (hx10 : x10 = rd b 10) (hbl : b.length ≤ 140737488355328) (h2 : (opF d).2 = true) (h3 : formedF b = true) (hany : s.any = true) (hnw : newerF N s.last = true) (hw : s.waits = true) (hne : N ≠ s.n) (hnn : newerF N s.n = false) : Calls Tryd.prog 13 #[.pointer (some ⟨g, 0, none⟩), .slice A d.length c] w (RcvPost w g ws { s with acked := hearF s b } [] false 71) := by
  have HANY := Aside0.mk hany; clear hany
  have HNW := Aside0.mk hnw; clear hnw
  have HWA := Aside0.mk hw; clear hw
  have HX9 := Aside0.mk hx9; have HX10 := Aside0.mk hx10; have HNX := Aside0.mk hNx
  clear hx9 hx10 hNx
  have hbr : ∀ x ∈ b, 0 ≤ x ∧ x < 256 := by rw [hbe]; exact opF_range d hd
  have hO := Open_callsF A c d w hC hc (by omega) hT
  rw [h2, ← hbe] at hO
  obtain ⟨L, hL⟩ : ∃ L, L = b.length := ⟨_, rfl⟩
  rw [← hL] at hbl
  have HLN := Aside0.mk hL; have HBR := Aside0.mk hbr
  clear hbe hL hbr h2 hC hd hc hT
  go_enter Tryd.func13, Tryd.ntmps13
  go_wp2
  refine wp_scope_fwd 1 rfl ?_
  go_wp2_with fail
  ((with_reducible refine hO.mono ?_); rintro e_ W1 ⟨v0, rfl, ⟨sp, ho_⟩, hb_⟩)
  obtain ⟨Ab, hv, hA, _, hcm⟩ := ho_.form
  rw [List.length_append, ← HLN.out] at hv hcm
  subst hv
  have hRR := Kd.R_reads' ho_.R
  rw [← HLN.out] at hRR
  obtain ⟨h11, hm1, hm10, hpm, hsz⟩ := formed_facts h3
  rw [← HLN.out] at h11 hsz
  obtain ⟨gb, hgb, hbk⟩ := hA.resolve_left (fun hn => by
    have h1 := HLN.out
    rw [(List.append_eq_nil_iff.1 hn.2).1] at h1
    simp at h1
    omega)
  subst hgb
  have HBK := Aside0.mk hbk
  generalize hq_ : sp.length = q at hRR hcm ⊢
  clear hq_
  have hF := formed_calls (some ⟨gb, 0, none⟩) L (L + q) b W1 hRR.2.2 hRR.2.1 (fun _ => ⟨gb, rfl⟩) HBR.out hbl
  rw [h3] at hF
  have hgbn := ho_.base gb rfl
  have HL1 := Aside0.mk (h.below hb_); have HB := Aside0.mk hb_; have HH := Aside0.mk h; have HGB := Aside0.mk hgbn
  have HSZ := Aside0.mk hsz; have hLq := hRR.2.1
  clear h hbk ho_ hb_ hO hRR hA h3 hgbn hsz
  go_wp2_with fail
  ((with_reducible refine hF.mono ?_); rintro e_ W2 ⟨rfl, q_, rfl⟩)
  clear hF
  have HL2 := Aside0.mk (HL1.out.below (pw_below_drewN (Below.refl _ _) q_))
  have hcellf : ∀ (W : World), W.heap[gb]? = some (Obj.cells ((b ++ sp).map (Value.int .u8)).toArray 5 (0, 0)) → ∀ i : Nat, i < L → W.cell? ⟨gb, i, none⟩ = some (.int .u8 (rd b (i : Int))) := by
    intro W hW i hi
    have hi' : i < b.length := by have := HLN.out; omega
    rw [blk_cell hW, rd_get' hi']
    simp only [List.getElem?_toArray, List.map_append]
    rw [List.getElem?_append_left (by simpa using hi'), List.getElem?_map, List.getElem?_eq_getElem hi']
    rfl
  have HCF := Aside0.mk hcellf; clear hcellf
  have hh := hear_calls g s ws gb L (L + q) b (W1.drewN q_) HL2.out HLN.out.symm (HCF.out _ HBK.out) h11 HBR.out
  go_wp2_with fail
  ((with_reducible refine hh.mono ?_); rintro e_ W3 ⟨rfl, hm3, hk3⟩)
  clear hh
  have hbk3 := hk3.u8 HL2.out HBK.out
  have HBK3 := Aside0.mk hbk3
  have HK3 : Aside0 (Keeps w W3 ws) := ⟨(Keeps.of_below (pw_below_drewN HB.out q_) ws).then hk3⟩
  have HM3 := Aside0.mk hm3
  have c7 : W3.cell? ⟨gb, 7, none⟩ = some (.int .u8 (rd b 7)) := HCF.out _ hbk3 7 (by omega)
  have c8 : W3.cell? ⟨gb, 8, none⟩ = some (.int .u8 (rd b 8)) := HCF.out _ hbk3 8 (by omega)
  have c9 : W3.cell? ⟨gb, 9, none⟩ = some (.int .u8 (rd b 9)) := HCF.out _ hbk3 9 (by omega)
  have c10 : W3.cell? ⟨gb, 10, none⟩ = some (.int .u8 (rd b 10)) := HCF.out _ hbk3 10 (by omega)
  have rdr : ∀ i : Nat, i < 11 → 0 ≤ rd b (i : Int) ∧ rd b (i : Int) < 256 := fun i hi => rd_mem HBR.out (by omega) (by have := HLN.out; omega)
  have r7 : 0 ≤ rd b 7 ∧ rd b 7 < 256 := rdr 7 (by omega)
  have r8 : 0 ≤ rd b 8 ∧ rd b 8 < 256 := rdr 8 (by omega)
  have r9 : 0 ≤ rd b 9 ∧ rd b 9 < 256 := rdr 9 (by omega)
  have r10 : 0 ≤ rd b 10 ∧ rd b 10 < 256 := rdr 10 (by omega)
  obtain ⟨sv, ma, mp, gs, mb, hg3, hs3, ha3, hp3, hw3, hne3, hws3, hok3⟩ := hm3
  obtain ⟨mo, rfl⟩ : ∃ o, mp = .map o := by
    rcases hp3 with ⟨e, _⟩ | ⟨b', _, e, _⟩
    · exact ⟨_, e⟩
    · exact ⟨_, e⟩
  obtain ⟨_, _, _, k3, k4, _, k6, k7, k8, k9⟩ := lcell hg3
  change W3.cell? ⟨g, 3, none⟩ = some (.bool s.any) at k3
  change W3.cell? ⟨g, 4, none⟩ = some (.int .u16 s.last) at k4
  change W3.cell? ⟨g, 6, none⟩ = some (.bool s.waits) at k6
  change W3.cell? ⟨g, 7, none⟩ = some (.int .u16 s.n) at k7
  change W3.cell? ⟨g, 8, none⟩ = some (.int .i64 s.many) at k8
  have hNe : bits .or .u16 (rd b 7 * 256) (rd b 8) = rd b 7 * 256 + rd b 8 := or_add16 _ _ r7 r8
  have hfz : ∀ j, W3.frozen? ⟨g, j, none⟩ = false := fun j => blk_frozen hg3 j
  have hgl : g < W3.heap.size := (Array.getElem?_eq_some_iff.1 hg3).1
  have hsamea : ∀ (o : Obj) (n : Nat), ((W3.drewN n).alloc o).heap[g]? = W3.heap[g]? := fun o n => (MapKept.heap_alloc (W3.drewN n) o).2 g hgl
  have al : ∀ (o : Obj) (n j : Nat), ((W3.drewN n).alloc o).cell? ⟨g, j, none⟩ = W3.cell? ⟨g, j, none⟩ ∧ ((W3.drewN n).alloc o).frozen? ⟨g, j, none⟩ = W3.frozen? ⟨g, j, none⟩ := fun o n j => ⟨World.cell?_of_block (a := ⟨g, j, none⟩) (hsamea o n), World.frozen?_of_block (a := ⟨g, j, none⟩) (hsamea o n)⟩
  have hok := HH.out.ok
  have HOK := Aside0.mk hok; clear hok
  have HAL := Aside0.mk al
  clear al hsamea hg3 hs3 ha3 hp3 hw3 hne3 hws3 hok3 hbk3 hk3 rdr
  have hx9 := HX9.out; have hx10 := HX10.out; have hNx := HNX.out
  rw [← hNx] at hNe
  have hNr : 0 ≤ N ∧ N < 65536 := by omega
  obtain ⟨x7, hx7⟩ : ∃ x, x = rd b 7 := ⟨_, rfl⟩
  obtain ⟨x8, hx8⟩ : ∃ x, x = rd b 8 := ⟨_, rfl⟩
  rw [← hx7] at c7 r7 hNe; rw [← hx8] at c8 r8 hNe; rw [← hx9] at c9 r9 hpm; rw [← hx10] at c10 r10 hm1 hm10 hpm
  clear hx7 hx8 hx9 hx10 hNx
  rw [HWA.out] at k6
  have n1 : decide (N = s.n) = false := decide_eq_false hne
  have n2 : (N == s.n) = false := beq_eq_false_iff_ne.2 hne
  have n3 : (N != s.n) = true := bne_iff_ne.2 hne
  rw [HANY.out] at k3
  have hnw := HNW.out
  go_wp2
  go_quiet (fail)
  go_wp2_with fail
  ((with_reducible refine (newer_calls _ _ _).mono ?_); rintro e_ Wn ⟨rfl, rfl⟩)
  rw [hnw]
  go_wp2_with fail
  ((with_reducible refine (newer_calls _ _ _).mono ?_); rintro e_ Wn ⟨rfl, rfl⟩)
  rw [hnn]
  go_wp2
  go_step3
  refine ⟨rfl, ?_⟩
  go_wp2
  (try simp only [Exit.jump])
  go_ret3
  exact ⟨_, ws, rfl, RS.nil _ _, HM3.out.below (pw_below_drewN (Below.refl _ _) _), fun k hk => .inl hk, HK3.out⟩

end Go.Proofs.YtbdocgddidcfeaaDoor
