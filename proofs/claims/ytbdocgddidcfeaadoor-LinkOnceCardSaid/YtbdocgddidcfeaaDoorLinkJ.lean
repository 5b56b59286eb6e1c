/- Receive, more ways. Printed by gen_h.py. -/
import Derived.Test.YtbdocgddidcfeaaDoorLinkH
namespace Go.Proofs.YtbdocgddidcfeaaDoor
open Go.RowKit Go.Proofs.YtbdocgddidcfeaaDoorW.PrintWords Go.Proofs.YtbdocgddidcfeaaDoorW.PrintLast Go.Proofs.YtbdocgddidcfeaaDoorW.PrintMore
set_option linter.unusedVariables false
set_option linter.unusedSimpArgs false

set_option maxHeartbeats 8000000 in
set_option maxRecDepth 100000 in
theorem rcv_same_wrong (A : Option Addr) (c : Nat) (d : List Int) (g : Nat) (s : LS) (ws : List Nat) (w : World) (h : LinkM w g s ws) (hC : Kd.C (Kd.int .u8) w A d.length d) (hc : d.length ≤ c) (hd : ∀ x ∈ d, 0 ≤ x ∧ x < 256) (hl : d.length ≤ 140737488351232) (hT : Tab w)
    (b : List Int) (N x9 x10 : Int) (hbe : b = (opF d).1) (hNx : N = rd b 7 * 256 + rd b 8) (hx9 : x9 = rd b 9) (hx10 : x10 = rd b 10) (hbl : b.length ≤ 140737488355328) (h2 : (opF d).2 = true) (h3 : formedF b = true) (hany : s.any = false) (hw : s.waits = true) (hsame : N = s.n) (hmx : s.many ≠ x10) : Calls Tryd.prog 13 #[.pointer (some ⟨g, 0, none⟩), .slice A d.length c] w (RcvPost w g ws { s with acked := hearF s b } [] false 70) := by
  have HANY := Aside0.mk hany; clear hany
  have H0hsame := Aside0.mk hsame; clear hsame
  have H0hmx := Aside0.mk hmx; clear hmx
  have HWA := Aside0.mk hw; clear hw
  have HX9 := Aside0.mk hx9; have HX10 := Aside0.mk hx10; have HNX := Aside0.mk hNx
  clear hx9 hx10 hNx
  have hbr : ∀ x ∈ b, 0 ≤ x ∧ x < 256 := by rw [hbe]; exact opF_range d hd
  have hO := Open_callsF A c d w hC hc (by omega) hT
  rw [h2, ← hbe] at hO
  obtain ⟨L, hL⟩ : ∃ L, L = b.length := ⟨_, rfl⟩
  rw [← hL] at hbl
  have HLN := Aside0.mk hL; have HBR := Aside0.mk hbr
  clear hbe hL hbr h2 hC hd hc hT
  go_enter Tryd.func13, Tryd.ntmps13
  go_wp2
  refine wp_scope_fwd 0 rfl ?_
  go_wp2_with fail
  ((with_reducible refine hO.mono ?_); rintro e_ W1 ⟨v0, rfl, ⟨sp, ho_⟩, hb_⟩)
  obtain ⟨Ab, hv, hA, _, hcm⟩ := ho_.form
  rw [List.length_append, ← HLN.out] at hv hcm
  subst hv
  have hRR := Kd.R_reads' ho_.R
  rw [← HLN.out] at hRR
  obtain ⟨h11, hm1, hm10, hpm, hsz⟩ := formed_facts h3
  rw [← HLN.out] at h11 hsz
  obtain ⟨gb, hgb, hbk⟩ := hA.resolve_left (fun hn => by
    have h1 := HLN.out
    rw [(List.append_eq_nil_iff.1 hn.2).1] at h1
    simp at h1
    omega)
  subst hgb
  have HBK := Aside0.mk hbk
  generalize hq_ : sp.length = q at hRR hcm ⊢
  clear hq_
  have hF := formed_calls (some ⟨gb, 0, none⟩) L (L + q) b W1 hRR.2.2 hRR.2.1 (fun _ => ⟨gb, rfl⟩) HBR.out hbl
  rw [h3] at hF
  have hgbn := ho_.base gb rfl
  have HL1 := Aside0.mk (h.below hb_); have HB := Aside0.mk hb_; have HH := Aside0.mk h; have HGB := Aside0.mk hgbn
  have HSZ := Aside0.mk hsz; have hLq := hRR.2.1
  clear h hbk ho_ hb_ hO hRR hA h3 hgbn hsz
  go_wp2_with fail
  ((with_reducible refine hF.mono ?_); rintro e_ W2 ⟨rfl, q_, rfl⟩)
  clear hF
  have HL2 := Aside0.mk (HL1.out.below (pw_below_drewN (Below.refl _ _) q_))
  have hcellf : ∀ (W : World), W.heap[gb]? = some (Obj.cells ((b ++ sp).map (Value.int .u8)).toArray 5 (0, 0)) → ∀ i : Nat, i < L → W.cell? ⟨gb, i, none⟩ = some (.int .u8 (rd b (i : Int))) := by
    intro W hW i hi
    have hi' : i < b.length := by have := HLN.out; omega
    rw [blk_cell hW, rd_get' hi']
    simp only [List.getElem?_toArray, List.map_append]
    rw [List.getElem?_append_left (by simpa using hi'), List.getElem?_map, List.getElem?_eq_getElem hi']
    rfl
  have HCF := Aside0.mk hcellf; clear hcellf
  have hh := hear_calls g s ws gb L (L + q) b (W1.drewN q_) HL2.out HLN.out.symm (HCF.out _ HBK.out) h11 HBR.out
  go_wp2_with fail
  ((with_reducible refine hh.mono ?_); rintro e_ W3 ⟨rfl, hm3, hk3⟩)
  clear hh
  have hbk3 := hk3.u8 HL2.out HBK.out
  have HBK3 := Aside0.mk hbk3
  have HK3 : Aside0 (Keeps w W3 ws) := ⟨(Keeps.of_below (pw_below_drewN HB.out q_) ws).then hk3⟩
  have HM3 := Aside0.mk hm3
  have c7 : W3.cell? ⟨gb, 7, none⟩ = some (.int .u8 (rd b 7)) := HCF.out _ hbk3 7 (by omega)
  have c8 : W3.cell? ⟨gb, 8, none⟩ = some (.int .u8 (rd b 8)) := HCF.out _ hbk3 8 (by omega)
  have c9 : W3.cell? ⟨gb, 9, none⟩ = some (.int .u8 (rd b 9)) := HCF.out _ hbk3 9 (by omega)
  have c10 : W3.cell? ⟨gb, 10, none⟩ = some (.int .u8 (rd b 10)) := HCF.out _ hbk3 10 (by omega)
  have rdr : ∀ i : Nat, i < 11 → 0 ≤ rd b (i : Int) ∧ rd b (i : Int) < 256 := fun i hi => rd_mem HBR.out (by omega) (by have := HLN.out; omega)
  have r7 : 0 ≤ rd b 7 ∧ rd b 7 < 256 := rdr 7 (by omega)
  have r8 : 0 ≤ rd b 8 ∧ rd b 8 < 256 := rdr 8 (by omega)
  have r9 : 0 ≤ rd b 9 ∧ rd b 9 < 256 := rdr 9 (by omega)
  have r10 : 0 ≤ rd b 10 ∧ rd b 10 < 256 := rdr 10 (by omega)
  obtain ⟨sv, ma, mp, gs, mb, hg3, hs3, ha3, hp3, hw3, hne3, hws3, hok3⟩ := hm3
  obtain ⟨mo, rfl⟩ : ∃ o, mp = .map o := by
    rcases hp3 with ⟨e, _⟩ | ⟨b', _, e, _⟩
    · exact ⟨_, e⟩
    · exact ⟨_, e⟩
  obtain ⟨_, _, _, k3, k4, _, k6, k7, k8, k9⟩ := lcell hg3
  change W3.cell? ⟨g, 3, none⟩ = some (.bool s.any) at k3
  change W3.cell? ⟨g, 4, none⟩ = some (.int .u16 s.last) at k4
  change W3.cell? ⟨g, 6, none⟩ = some (.bool s.waits) at k6
  change W3.cell? ⟨g, 7, none⟩ = some (.int .u16 s.n) at k7
  change W3.cell? ⟨g, 8, none⟩ = some (.int .i64 s.many) at k8
  have hNe : bits .or .u16 (rd b 7 * 256) (rd b 8) = rd b 7 * 256 + rd b 8 := or_add16 _ _ r7 r8
  have hfz : ∀ j, W3.frozen? ⟨g, j, none⟩ = false := fun j => blk_frozen hg3 j
  have hgl : g < W3.heap.size := (Array.getElem?_eq_some_iff.1 hg3).1
  have hsamea : ∀ (o : Obj) (n : Nat), ((W3.drewN n).alloc o).heap[g]? = W3.heap[g]? := fun o n => (MapKept.heap_alloc (W3.drewN n) o).2 g hgl
  have al : ∀ (o : Obj) (n j : Nat), ((W3.drewN n).alloc o).cell? ⟨g, j, none⟩ = W3.cell? ⟨g, j, none⟩ ∧ ((W3.drewN n).alloc o).frozen? ⟨g, j, none⟩ = W3.frozen? ⟨g, j, none⟩ := fun o n j => ⟨World.cell?_of_block (a := ⟨g, j, none⟩) (hsamea o n), World.frozen?_of_block (a := ⟨g, j, none⟩) (hsamea o n)⟩
  have hok := HH.out.ok
  have HOK := Aside0.mk hok; clear hok
  have HAL := Aside0.mk al
  clear al hsamea hg3 hs3 ha3 hp3 hw3 hne3 hws3 hok3 hbk3 hk3 rdr
  have hx9 := HX9.out; have hx10 := HX10.out; have hNx := HNX.out
  rw [← hNx] at hNe
  have hNr : 0 ≤ N ∧ N < 65536 := by omega
  obtain ⟨x7, hx7⟩ : ∃ x, x = rd b 7 := ⟨_, rfl⟩
  obtain ⟨x8, hx8⟩ : ∃ x, x = rd b 8 := ⟨_, rfl⟩
  rw [← hx7] at c7 r7 hNe; rw [← hx8] at c8 r8 hNe; rw [← hx9] at c9 r9 hpm; rw [← hx10] at c10 r10 hm1 hm10 hpm
  clear hx7 hx8 hx9 hx10 hNx
  have hsame := H0hsame.out
  have n1 : decide (N = s.n) = true := decide_eq_true hsame
  have n2 : (N == s.n) = true := beq_iff_eq.2 hsame
  have n3 : (N != s.n) = false := by rw [hsame]; exact bne_self_eq_false _
  clear hsame
  rw [HWA.out] at k6
  have HWT := Aside0.mk HWA.out
  rw [HANY.out] at k3
  go_wp2
  go_quiet (fail)
  go_wp2
  generalize hW4 : W3.drewN nq = W4
  have hb4 : Below W3.heap.size W3 W4 := by rw [← hW4]; exact pw_below_drewN (Below.refl _ _) _
  have hm4 := HM3.out.below hb4
  have HKK : Aside0 (Keeps w W4 ws) := ⟨HK3.out.then (Keeps.of_below hb4 ws)⟩
  have HWS : Aside0 (∀ k ∈ ws, k ∈ ws ∨ w.heap.size ≤ k) := ⟨fun k hk => .inl hk⟩
  have hbk4 : W4.heap[gb]? = some (Obj.cells ((b ++ sp).map (Value.int .u8)).toArray 5 (0, 0)) := by rw [← hW4]; exact HBK3.out
  clear hb4 hW4
  have c10' : W4.cell? ⟨gb, 10, none⟩ = some (.int .u8 x10) := by rw [HX10.out]; exact HCF.out _ hbk4 10 (by omega)
  obtain ⟨s2, hs2⟩ : ∃ x : LS, x = { s with acked := hearF s b } := ⟨_, rfl⟩
  rw [← hs2] at hm4
  obtain ⟨mbb, j8, j9, him, hgl4⟩ := waiting hm4 (by rw [hs2]; exact HWT.out)
  have e_parts : s2.parts = s.parts := by rw [hs2]
  have e_many : s2.many = s.many := by rw [hs2]
  rw [e_many] at j8
  have hok4 := hm4.ok
  have HS2 := Aside0.mk hs2; have HM4 := Aside0.mk hm4; have HIM := Aside0.mk him; have HBK4 := Aside0.mk hbk4; have HEP := Aside0.mk e_parts; have HEM := Aside0.mk e_many; have HOK4 := Aside0.mk hok4
  have hlk := him.lookS Tryd.underlying62 Tryd.underlying3 zslice x9
  rw [e_parts] at hlk
  have hmx := H0hmx.out
  clear hs2 hm4 him hbk4 e_parts e_many hok4 hlk
  have m1 : decide (s.many = x10) = false := decide_eq_false hmx
  have m2 : (s.many == x10) = false := beq_eq_false_iff_ne.2 hmx
  have m3 : (s.many != x10) = true := bne_iff_ne.2 hmx
  go_quiet (fail)
  go_wp2
  go_step3
  refine ⟨rfl, ?_⟩
  go_wp2
  (try simp only [Exit.jump])
  go_ret3
  exact ⟨_, ws, rfl, RS.nil _ _, by rw [← HS2.out]; exact HM4.out.below (pw_below_drewN (Below.refl _ _) _), fun k hk => .inl hk, HKK.out⟩

set_option maxHeartbeats 8000000 in
set_option maxRecDepth 100000 in
theorem rcv_same_stale (A : Option Addr) (c : Nat) (d : List Int) (g : Nat) (s : LS) (ws : List Nat) (w : World) (h : LinkM w g s ws) (hC : Kd.C (Kd.int .u8) w A d.length d) (hc : d.length ≤ c) (hd : ∀ x ∈ d, 0 ≤ x ∧ x < 256) (hl : d.length ≤ 140737488351232) (hT : Tab w)
    (b : List Int) (N x9 x10 : Int) (hbe : b = (opF d).1) (hNx : N = rd b 7 * 256 + rd b 8) (hx9 : x9 = rd b 9) (hx10 : x10 = rd b 10) (hbl : b.length ≤ 140737488355328) (h2 : (opF d).2 = true) (h3 : formedF b = true) (hany : s.any = false) (hw : s.waits = true) (hsame : N = s.n) (hmx : s.many = x10) (hpg : (pget x9 s.parts).isSome = true) : Calls Tryd.prog 13 #[.pointer (some ⟨g, 0, none⟩), .slice A d.length c] w (RcvPost w g ws { s with acked := hearF s b } [] false 71) := by
  have HANY := Aside0.mk hany; clear hany
  have H0hsame := Aside0.mk hsame; clear hsame
  have H0hmx := Aside0.mk hmx; clear hmx
  have H0hpg := Aside0.mk hpg; clear hpg
  have HWA := Aside0.mk hw; clear hw
  have HX9 := Aside0.mk hx9; have HX10 := Aside0.mk hx10; have HNX := Aside0.mk hNx
  clear hx9 hx10 hNx
  have hbr : ∀ x ∈ b, 0 ≤ x ∧ x < 256 := by rw [hbe]; exact opF_range d hd
  have hO := Open_callsF A c d w hC hc (by omega) hT
  rw [h2, ← hbe] at hO
  obtain ⟨L, hL⟩ : ∃ L, L = b.length := ⟨_, rfl⟩
  rw [← hL] at hbl
  have HLN := Aside0.mk hL; have HBR := Aside0.mk hbr
  clear hbe hL hbr h2 hC hd hc hT
  go_enter Tryd.func13, Tryd.ntmps13
  go_wp2
  refine wp_scope_fwd 1 rfl ?_
  go_wp2_with fail
  ((with_reducible refine hO.mono ?_); rintro e_ W1 ⟨v0, rfl, ⟨sp, ho_⟩, hb_⟩)
  obtain ⟨Ab, hv, hA, _, hcm⟩ := ho_.form
  rw [List.length_append, ← HLN.out] at hv hcm
  subst hv
  have hRR := Kd.R_reads' ho_.R
  rw [← HLN.out] at hRR
  obtain ⟨h11, hm1, hm10, hpm, hsz⟩ := formed_facts h3
  rw [← HLN.out] at h11 hsz
  obtain ⟨gb, hgb, hbk⟩ := hA.resolve_left (fun hn => by
    have h1 := HLN.out
    rw [(List.append_eq_nil_iff.1 hn.2).1] at h1
    simp at h1
    omega)
  subst hgb
  have HBK := Aside0.mk hbk
  generalize hq_ : sp.length = q at hRR hcm ⊢
  clear hq_
  have hF := formed_calls (some ⟨gb, 0, none⟩) L (L + q) b W1 hRR.2.2 hRR.2.1 (fun _ => ⟨gb, rfl⟩) HBR.out hbl
  rw [h3] at hF
  have hgbn := ho_.base gb rfl
  have HL1 := Aside0.mk (h.below hb_); have HB := Aside0.mk hb_; have HH := Aside0.mk h; have HGB := Aside0.mk hgbn
  have HSZ := Aside0.mk hsz; have hLq := hRR.2.1
  clear h hbk ho_ hb_ hO hRR hA h3 hgbn hsz
  go_wp2_with fail
  ((with_reducible refine hF.mono ?_); rintro e_ W2 ⟨rfl, q_, rfl⟩)
  clear hF
  have HL2 := Aside0.mk (HL1.out.below (pw_below_drewN (Below.refl _ _) q_))
  have hcellf : ∀ (W : World), W.heap[gb]? = some (Obj.cells ((b ++ sp).map (Value.int .u8)).toArray 5 (0, 0)) → ∀ i : Nat, i < L → W.cell? ⟨gb, i, none⟩ = some (.int .u8 (rd b (i : Int))) := by
    intro W hW i hi
    have hi' : i < b.length := by have := HLN.out; omega
    rw [blk_cell hW, rd_get' hi']
    simp only [List.getElem?_toArray, List.map_append]
    rw [List.getElem?_append_left (by simpa using hi'), List.getElem?_map, List.getElem?_eq_getElem hi']
    rfl
  have HCF := Aside0.mk hcellf; clear hcellf
  have hh := hear_calls g s ws gb L (L + q) b (W1.drewN q_) HL2.out HLN.out.symm (HCF.out _ HBK.out) h11 HBR.out
  go_wp2_with fail
  ((with_reducible refine hh.mono ?_); rintro e_ W3 ⟨rfl, hm3, hk3⟩)
  clear hh
  have hbk3 := hk3.u8 HL2.out HBK.out
  have HBK3 := Aside0.mk hbk3
  have HK3 : Aside0 (Keeps w W3 ws) := ⟨(Keeps.of_below (pw_below_drewN HB.out q_) ws).then hk3⟩
  have HM3 := Aside0.mk hm3
  have c7 : W3.cell? ⟨gb, 7, none⟩ = some (.int .u8 (rd b 7)) := HCF.out _ hbk3 7 (by omega)
  have c8 : W3.cell? ⟨gb, 8, none⟩ = some (.int .u8 (rd b 8)) := HCF.out _ hbk3 8 (by omega)
  have c9 : W3.cell? ⟨gb, 9, none⟩ = some (.int .u8 (rd b 9)) := HCF.out _ hbk3 9 (by omega)
  have c10 : W3.cell? ⟨gb, 10, none⟩ = some (.int .u8 (rd b 10)) := HCF.out _ hbk3 10 (by omega)
  have rdr : ∀ i : Nat, i < 11 → 0 ≤ rd b (i : Int) ∧ rd b (i : Int) < 256 := fun i hi => rd_mem HBR.out (by omega) (by have := HLN.out; omega)
  have r7 : 0 ≤ rd b 7 ∧ rd b 7 < 256 := rdr 7 (by omega)
  have r8 : 0 ≤ rd b 8 ∧ rd b 8 < 256 := rdr 8 (by omega)
  have r9 : 0 ≤ rd b 9 ∧ rd b 9 < 256 := rdr 9 (by omega)
  have r10 : 0 ≤ rd b 10 ∧ rd b 10 < 256 := rdr 10 (by omega)
  obtain ⟨sv, ma, mp, gs, mb, hg3, hs3, ha3, hp3, hw3, hne3, hws3, hok3⟩ := hm3
  obtain ⟨mo, rfl⟩ : ∃ o, mp = .map o := by
    rcases hp3 with ⟨e, _⟩ | ⟨b', _, e, _⟩
    · exact ⟨_, e⟩
    · exact ⟨_, e⟩
  obtain ⟨_, _, _, k3, k4, _, k6, k7, k8, k9⟩ := lcell hg3
  change W3.cell? ⟨g, 3, none⟩ = some (.bool s.any) at k3
  change W3.cell? ⟨g, 4, none⟩ = some (.int .u16 s.last) at k4
  change W3.cell? ⟨g, 6, none⟩ = some (.bool s.waits) at k6
  change W3.cell? ⟨g, 7, none⟩ = some (.int .u16 s.n) at k7
  change W3.cell? ⟨g, 8, none⟩ = some (.int .i64 s.many) at k8
  have hNe : bits .or .u16 (rd b 7 * 256) (rd b 8) = rd b 7 * 256 + rd b 8 := or_add16 _ _ r7 r8
  have hfz : ∀ j, W3.frozen? ⟨g, j, none⟩ = false := fun j => blk_frozen hg3 j
  have hgl : g < W3.heap.size := (Array.getElem?_eq_some_iff.1 hg3).1
  have hsamea : ∀ (o : Obj) (n : Nat), ((W3.drewN n).alloc o).heap[g]? = W3.heap[g]? := fun o n => (MapKept.heap_alloc (W3.drewN n) o).2 g hgl
  have al : ∀ (o : Obj) (n j : Nat), ((W3.drewN n).alloc o).cell? ⟨g, j, none⟩ = W3.cell? ⟨g, j, none⟩ ∧ ((W3.drewN n).alloc o).frozen? ⟨g, j, none⟩ = W3.frozen? ⟨g, j, none⟩ := fun o n j => ⟨World.cell?_of_block (a := ⟨g, j, none⟩) (hsamea o n), World.frozen?_of_block (a := ⟨g, j, none⟩) (hsamea o n)⟩
  have hok := HH.out.ok
  have HOK := Aside0.mk hok; clear hok
  have HAL := Aside0.mk al
  clear al hsamea hg3 hs3 ha3 hp3 hw3 hne3 hws3 hok3 hbk3 hk3 rdr
  have hx9 := HX9.out; have hx10 := HX10.out; have hNx := HNX.out
  rw [← hNx] at hNe
  have hNr : 0 ≤ N ∧ N < 65536 := by omega
  obtain ⟨x7, hx7⟩ : ∃ x, x = rd b 7 := ⟨_, rfl⟩
  obtain ⟨x8, hx8⟩ : ∃ x, x = rd b 8 := ⟨_, rfl⟩
  rw [← hx7] at c7 r7 hNe; rw [← hx8] at c8 r8 hNe; rw [← hx9] at c9 r9 hpm; rw [← hx10] at c10 r10 hm1 hm10 hpm
  clear hx7 hx8 hx9 hx10 hNx
  have hsame := H0hsame.out
  have n1 : decide (N = s.n) = true := decide_eq_true hsame
  have n2 : (N == s.n) = true := beq_iff_eq.2 hsame
  have n3 : (N != s.n) = false := by rw [hsame]; exact bne_self_eq_false _
  clear hsame
  rw [HWA.out] at k6
  have HWT := Aside0.mk HWA.out
  rw [HANY.out] at k3
  go_wp2
  go_quiet (fail)
  go_wp2
  generalize hW4 : W3.drewN nq = W4
  have hb4 : Below W3.heap.size W3 W4 := by rw [← hW4]; exact pw_below_drewN (Below.refl _ _) _
  have hm4 := HM3.out.below hb4
  have HKK : Aside0 (Keeps w W4 ws) := ⟨HK3.out.then (Keeps.of_below hb4 ws)⟩
  have HWS : Aside0 (∀ k ∈ ws, k ∈ ws ∨ w.heap.size ≤ k) := ⟨fun k hk => .inl hk⟩
  have hbk4 : W4.heap[gb]? = some (Obj.cells ((b ++ sp).map (Value.int .u8)).toArray 5 (0, 0)) := by rw [← hW4]; exact HBK3.out
  clear hb4 hW4
  have c10' : W4.cell? ⟨gb, 10, none⟩ = some (.int .u8 x10) := by rw [HX10.out]; exact HCF.out _ hbk4 10 (by omega)
  obtain ⟨s2, hs2⟩ : ∃ x : LS, x = { s with acked := hearF s b } := ⟨_, rfl⟩
  rw [← hs2] at hm4
  obtain ⟨mbb, j8, j9, him, hgl4⟩ := waiting hm4 (by rw [hs2]; exact HWT.out)
  have e_parts : s2.parts = s.parts := by rw [hs2]
  have e_many : s2.many = s.many := by rw [hs2]
  rw [e_many] at j8
  have hok4 := hm4.ok
  have HS2 := Aside0.mk hs2; have HM4 := Aside0.mk hm4; have HIM := Aside0.mk him; have HBK4 := Aside0.mk hbk4; have HEP := Aside0.mk e_parts; have HEM := Aside0.mk e_many; have HOK4 := Aside0.mk hok4
  have hlk := him.lookS Tryd.underlying62 Tryd.underlying3 zslice x9
  rw [e_parts] at hlk
  have hmx := H0hmx.out
  have hpg := H0hpg.out
  rw [hmx] at j8
  have HMX := Aside0.mk hmx; clear hmx
  obtain ⟨a_, v_, hsm, _, hl3⟩ := hlk.resolve_left (fun h => by rw [h.1] at hpg; cases hpg)
  have hl2 : ∀ n, (Instr.lookup 62 (.map (some mbb)) (.int .i64 x9) true).run Tryd.prog (W4.drewN n) = .ok (.tuple #[v_, .bool true]) (W4.drewN n) := fun n => hl3 true _ rfl
  clear hs2 hm4 him hbk4 e_parts e_many hok4 hlk hl3 hsm hpg
  have m1 : decide (x10 = x10) = true := decide_eq_true rfl
  have m3 : (x10 != x10) = false := bne_self_eq_false x10
  go_quiet (fail)
  go_wp2
  go_step3
  refine ⟨rfl, ?_⟩
  go_wp2
  (try simp only [Exit.jump])
  go_ret3
  exact ⟨_, ws, rfl, RS.nil _ _, by rw [← HS2.out]; exact HM4.out.below (pw_below_drewN (Below.refl _ _) _), fun k hk => .inl hk, HKK.out⟩

set_option maxHeartbeats 8000000 in
set_option maxRecDepth 100000 in
theorem rcv_same_pending (A : Option Addr) (c : Nat) (d : List Int) (g : Nat) (s : LS) (ws : List Nat) (w : World) (h : LinkM w g s ws) (hC : Kd.C (Kd.int .u8) w A d.length d) (hc : d.length ≤ c) (hd : ∀ x ∈ d, 0 ≤ x ∧ x < 256) (hl : d.length ≤ 140737488351232) (hT : Tab w)
    (b : List Int) (N x9 x10 : Int) (hbe : b = (opF d).1) (hNx : N = rd b 7 * 256 + rd b 8) (hx9 : x9 = rd b 9) (hx10 : x10 = rd b 10) (hbl : b.length ≤ 140737488355328) (h2 : (opF d).2 = true) (h3 : formedF b = true) (hany : s.any = false) (hw : s.waits = true) (hsame : N = s.n) (hmx : s.many = x10) (hpg : pget x9 s.parts = none) (hless : (s.parts.length : Int) + 1 < x10) : Calls Tryd.prog 13 #[.pointer (some ⟨g, 0, none⟩), .slice A d.length c] w (RcvPost w g ws { s with acked := hearF s b, parts := s.parts ++ [(x9, b.drop 11)] } [] false 0) := by
  have HANY := Aside0.mk hany; clear hany
  have H0hsame := Aside0.mk hsame; clear hsame
  have H0hmx := Aside0.mk hmx; clear hmx
  have H0hpg := Aside0.mk hpg; clear hpg
  have HWA := Aside0.mk hw; clear hw
  have HX9 := Aside0.mk hx9; have HX10 := Aside0.mk hx10; have HNX := Aside0.mk hNx
  clear hx9 hx10 hNx
  have hbr : ∀ x ∈ b, 0 ≤ x ∧ x < 256 := by rw [hbe]; exact opF_range d hd
  have hO := Open_callsF A c d w hC hc (by omega) hT
  rw [h2, ← hbe] at hO
  obtain ⟨L, hL⟩ : ∃ L, L = b.length := ⟨_, rfl⟩
  rw [← hL] at hbl
  have HLN := Aside0.mk hL; have HBR := Aside0.mk hbr
  clear hbe hL hbr h2 hC hd hc hT
  go_enter Tryd.func13, Tryd.ntmps13
  go_wp2
  refine wp_scope_fwd 1 rfl ?_
  go_wp2_with fail
  ((with_reducible refine hO.mono ?_); rintro e_ W1 ⟨v0, rfl, ⟨sp, ho_⟩, hb_⟩)
  obtain ⟨Ab, hv, hA, _, hcm⟩ := ho_.form
  rw [List.length_append, ← HLN.out] at hv hcm
  subst hv
  have hRR := Kd.R_reads' ho_.R
  rw [← HLN.out] at hRR
  obtain ⟨h11, hm1, hm10, hpm, hsz⟩ := formed_facts h3
  rw [← HLN.out] at h11 hsz
  obtain ⟨gb, hgb, hbk⟩ := hA.resolve_left (fun hn => by
    have h1 := HLN.out
    rw [(List.append_eq_nil_iff.1 hn.2).1] at h1
    simp at h1
    omega)
  subst hgb
  have HBK := Aside0.mk hbk
  generalize hq_ : sp.length = q at hRR hcm ⊢
  clear hq_
  have hF := formed_calls (some ⟨gb, 0, none⟩) L (L + q) b W1 hRR.2.2 hRR.2.1 (fun _ => ⟨gb, rfl⟩) HBR.out hbl
  rw [h3] at hF
  have hgbn := ho_.base gb rfl
  have HL1 := Aside0.mk (h.below hb_); have HB := Aside0.mk hb_; have HH := Aside0.mk h; have HGB := Aside0.mk hgbn
  have HSZ := Aside0.mk hsz; have hLq := hRR.2.1
  clear h hbk ho_ hb_ hO hRR hA h3 hgbn hsz
  go_wp2_with fail
  ((with_reducible refine hF.mono ?_); rintro e_ W2 ⟨rfl, q_, rfl⟩)
  clear hF
  have HL2 := Aside0.mk (HL1.out.below (pw_below_drewN (Below.refl _ _) q_))
  have hcellf : ∀ (W : World), W.heap[gb]? = some (Obj.cells ((b ++ sp).map (Value.int .u8)).toArray 5 (0, 0)) → ∀ i : Nat, i < L → W.cell? ⟨gb, i, none⟩ = some (.int .u8 (rd b (i : Int))) := by
    intro W hW i hi
    have hi' : i < b.length := by have := HLN.out; omega
    rw [blk_cell hW, rd_get' hi']
    simp only [List.getElem?_toArray, List.map_append]
    rw [List.getElem?_append_left (by simpa using hi'), List.getElem?_map, List.getElem?_eq_getElem hi']
    rfl
  have HCF := Aside0.mk hcellf; clear hcellf
  have hh := hear_calls g s ws gb L (L + q) b (W1.drewN q_) HL2.out HLN.out.symm (HCF.out _ HBK.out) h11 HBR.out
  go_wp2_with fail
  ((with_reducible refine hh.mono ?_); rintro e_ W3 ⟨rfl, hm3, hk3⟩)
  clear hh
  have hbk3 := hk3.u8 HL2.out HBK.out
  have HBK3 := Aside0.mk hbk3
  have HK3 : Aside0 (Keeps w W3 ws) := ⟨(Keeps.of_below (pw_below_drewN HB.out q_) ws).then hk3⟩
  have HM3 := Aside0.mk hm3
  have c7 : W3.cell? ⟨gb, 7, none⟩ = some (.int .u8 (rd b 7)) := HCF.out _ hbk3 7 (by omega)
  have c8 : W3.cell? ⟨gb, 8, none⟩ = some (.int .u8 (rd b 8)) := HCF.out _ hbk3 8 (by omega)
  have c9 : W3.cell? ⟨gb, 9, none⟩ = some (.int .u8 (rd b 9)) := HCF.out _ hbk3 9 (by omega)
  have c10 : W3.cell? ⟨gb, 10, none⟩ = some (.int .u8 (rd b 10)) := HCF.out _ hbk3 10 (by omega)
  have rdr : ∀ i : Nat, i < 11 → 0 ≤ rd b (i : Int) ∧ rd b (i : Int) < 256 := fun i hi => rd_mem HBR.out (by omega) (by have := HLN.out; omega)
  have r7 : 0 ≤ rd b 7 ∧ rd b 7 < 256 := rdr 7 (by omega)
  have r8 : 0 ≤ rd b 8 ∧ rd b 8 < 256 := rdr 8 (by omega)
  have r9 : 0 ≤ rd b 9 ∧ rd b 9 < 256 := rdr 9 (by omega)
  have r10 : 0 ≤ rd b 10 ∧ rd b 10 < 256 := rdr 10 (by omega)
  obtain ⟨sv, ma, mp, gs, mb, hg3, hs3, ha3, hp3, hw3, hne3, hws3, hok3⟩ := hm3
  obtain ⟨mo, rfl⟩ : ∃ o, mp = .map o := by
    rcases hp3 with ⟨e, _⟩ | ⟨b', _, e, _⟩
    · exact ⟨_, e⟩
    · exact ⟨_, e⟩
  obtain ⟨_, _, _, k3, k4, _, k6, k7, k8, k9⟩ := lcell hg3
  change W3.cell? ⟨g, 3, none⟩ = some (.bool s.any) at k3
  change W3.cell? ⟨g, 4, none⟩ = some (.int .u16 s.last) at k4
  change W3.cell? ⟨g, 6, none⟩ = some (.bool s.waits) at k6
  change W3.cell? ⟨g, 7, none⟩ = some (.int .u16 s.n) at k7
  change W3.cell? ⟨g, 8, none⟩ = some (.int .i64 s.many) at k8
  have hNe : bits .or .u16 (rd b 7 * 256) (rd b 8) = rd b 7 * 256 + rd b 8 := or_add16 _ _ r7 r8
  have hfz : ∀ j, W3.frozen? ⟨g, j, none⟩ = false := fun j => blk_frozen hg3 j
  have hgl : g < W3.heap.size := (Array.getElem?_eq_some_iff.1 hg3).1
  have hsamea : ∀ (o : Obj) (n : Nat), ((W3.drewN n).alloc o).heap[g]? = W3.heap[g]? := fun o n => (MapKept.heap_alloc (W3.drewN n) o).2 g hgl
  have al : ∀ (o : Obj) (n j : Nat), ((W3.drewN n).alloc o).cell? ⟨g, j, none⟩ = W3.cell? ⟨g, j, none⟩ ∧ ((W3.drewN n).alloc o).frozen? ⟨g, j, none⟩ = W3.frozen? ⟨g, j, none⟩ := fun o n j => ⟨World.cell?_of_block (a := ⟨g, j, none⟩) (hsamea o n), World.frozen?_of_block (a := ⟨g, j, none⟩) (hsamea o n)⟩
  have hok := HH.out.ok
  have HOK := Aside0.mk hok; clear hok
  have HAL := Aside0.mk al
  clear al hsamea hg3 hs3 ha3 hp3 hw3 hne3 hws3 hok3 hbk3 hk3 rdr
  have hx9 := HX9.out; have hx10 := HX10.out; have hNx := HNX.out
  rw [← hNx] at hNe
  have hNr : 0 ≤ N ∧ N < 65536 := by omega
  obtain ⟨x7, hx7⟩ : ∃ x, x = rd b 7 := ⟨_, rfl⟩
  obtain ⟨x8, hx8⟩ : ∃ x, x = rd b 8 := ⟨_, rfl⟩
  rw [← hx7] at c7 r7 hNe; rw [← hx8] at c8 r8 hNe; rw [← hx9] at c9 r9 hpm; rw [← hx10] at c10 r10 hm1 hm10 hpm
  clear hx7 hx8 hx9 hx10 hNx
  have hsame := H0hsame.out
  have n1 : decide (N = s.n) = true := decide_eq_true hsame
  have n2 : (N == s.n) = true := beq_iff_eq.2 hsame
  have n3 : (N != s.n) = false := by rw [hsame]; exact bne_self_eq_false _
  clear hsame
  rw [HWA.out] at k6
  have HWT := Aside0.mk HWA.out
  rw [HANY.out] at k3
  go_wp2
  go_quiet (fail)
  go_wp2
  generalize hW4 : W3.drewN nq = W4
  have hb4 : Below W3.heap.size W3 W4 := by rw [← hW4]; exact pw_below_drewN (Below.refl _ _) _
  have hm4 := HM3.out.below hb4
  have HKK : Aside0 (Keeps w W4 ws) := ⟨HK3.out.then (Keeps.of_below hb4 ws)⟩
  have HWS : Aside0 (∀ k ∈ ws, k ∈ ws ∨ w.heap.size ≤ k) := ⟨fun k hk => .inl hk⟩
  have hbk4 : W4.heap[gb]? = some (Obj.cells ((b ++ sp).map (Value.int .u8)).toArray 5 (0, 0)) := by rw [← hW4]; exact HBK3.out
  clear hb4 hW4
  have c10' : W4.cell? ⟨gb, 10, none⟩ = some (.int .u8 x10) := by rw [HX10.out]; exact HCF.out _ hbk4 10 (by omega)
  obtain ⟨s2, hs2⟩ : ∃ x : LS, x = { s with acked := hearF s b } := ⟨_, rfl⟩
  rw [← hs2] at hm4
  obtain ⟨mbb, j8, j9, him, hgl4⟩ := waiting hm4 (by rw [hs2]; exact HWT.out)
  have e_parts : s2.parts = s.parts := by rw [hs2]
  have e_many : s2.many = s.many := by rw [hs2]
  rw [e_many] at j8
  have hok4 := hm4.ok
  have HS2 := Aside0.mk hs2; have HM4 := Aside0.mk hm4; have HIM := Aside0.mk him; have HBK4 := Aside0.mk hbk4; have HEP := Aside0.mk e_parts; have HEM := Aside0.mk e_many; have HOK4 := Aside0.mk hok4
  have hlk := him.lookS Tryd.underlying62 Tryd.underlying3 zslice x9
  rw [e_parts] at hlk
  have hmx := H0hmx.out
  have hpg := H0hpg.out
  rw [hmx] at j8
  have HMX := Aside0.mk hmx; clear hmx
  have hnone : pget x9 s2.parts = none := by rw [e_parts]; exact hpg
  have hl2 : ∀ n, (Instr.lookup 62 (.map (some mbb)) (.int .i64 x9) true).run Tryd.prog (W4.drewN n) = .ok (.tuple #[.slice none 0 0, .bool false]) (W4.drewN n) := fun n => (hlk.resolve_right (fun ⟨a, _, h, _⟩ => by rw [e_parts] at hnone; rw [hnone] at h; cases h)).2 true _ rfl
  have HNONE := Aside0.mk hnone
  clear hs2 hm4 him hbk4 e_parts e_many hok4 hlk hnone
  have m1 : decide (x10 = x10) = true := decide_eq_true rfl
  have m3 : (x10 != x10) = false := bne_self_eq_false x10
  go_quiet (fail)
  go_wp2
  generalize hW5 : W4.drewN nq = W5
  have hh5 : W5.heap = W4.heap := by rw [← hW5]; rfl
  have hb5 : Below W4.heap.size W4 W5 := by rw [← hW5]; exact pw_below_drewN (Below.refl _ _) _
  have hm5 := HM4.out.below hb5
  have j95 : W5.cell? ⟨g, 9, none⟩ = some (.map (some mbb)) := (World.cell?_of_block (a := ⟨g, 9, none⟩) (by rw [hh5])).trans j9
  have hbk5 : W5.heap[gb]? = some (Obj.cells ((b ++ sp).map (Value.int .u8)).toArray 5 (0, 0)) := by rw [hh5]; exact HBK4.out
  have him5 : IM .i64 (PartR W5) W5 mbb s2.parts := (HIM.out.same (by rw [hh5])).imp (PartR.same (fun b cs _ => by rw [hh5]))
  obtain ⟨off, hoff, hcut⟩ := cut11 gb L (L + q) h11 hLq
  have hpr : PartR W5 (.slice (some ⟨gb, off, none⟩) (L - 11) (L + q - 11)) (b.drop 11) := part_of hbk5 HLN.out.symm h11 hoff
  obtain ⟨W6, hup, hgr6, him6⟩ := him5.put1 Tryd.underlying62 Tryd.underlying3 x9 HNONE.out _ (b.drop 11) hpr
  have hpp : ∀ y ∈ s2.parts ++ [(x9, b.drop 11)], y.2.length ≤ 200 ∧ ∀ z ∈ y.2, 0 ≤ z ∧ z < 256 := by
    intro y hy
    rcases List.mem_append.1 hy with hy | hy
    · exact HOK4.out.2.2.2.2.2.2.2 y hy
    · obtain rfl := List.mem_singleton.1 hy
      refine ⟨?_, fun z hz => HBR.out z (List.mem_of_mem_drop hz)⟩
      show (b.drop 11).length ≤ 200
      rw [List.length_drop, ← HLN.out]
      have := HSZ.out
      omega
  obtain ⟨hm6, hk6⟩ := more_parts hm5 j95 hgr6 him6 hpp
  have HM6 := Aside0.mk hm6
  have HK6 : Aside0 (Keeps w W6 ws) := ⟨(HKK.out.trans ((Keeps.of_below hb5 ws).then hk6) HWS.out)⟩
  clear hh5 hb5 hm5 hbk5 him5 hpr hgr6 him6 hpp hm6 hk6 hW5 j8 j9 hl2
  go_region
  generalize hW7 : W6.drew = W7
  have hb7 : Below W6.heap.size W6 W7 := by rw [← hW7]; exact below_drew1 (Below.refl _ _)
  have hm7 := HM6.out.below hb7
  obtain ⟨mb7, u8, u9, him7, hgl7⟩ := waiting hm7 (by rw [HS2.out]; exact HWT.out)
  change W7.cell? ⟨g, 8, none⟩ = some (.int .i64 s2.many) at u8
  rw [HEM.out, HMX.out] at u8
  have HM7 := Aside0.mk hm7; have HIM7 := Aside0.mk him7
  have HK7 : Aside0 (Keeps w W7 ws) := ⟨HK6.out.then (Keeps.of_below hb7 ws)⟩
  have hlen : ∀ ty n, (Builtin.len_ #[62] ty #[.map (some mb7)]).run Tryd.prog (W7.drewN n) = .ok (goInt ((s2.parts ++ [(x9, b.drop 11)]).length : Nat)) (W7.drewN n) := fun ty n => HIM7.out.lenS Tryd.underlying62 _ rfl
  clear hm7 him7 hb7 hW7
  have hcnt : ((s2.parts ++ [(x9, b.drop 11)]).length : Int) = (s.parts.length : Int) + 1 := by rw [HEP.out]; simp
  generalize (s2.parts ++ [(x9, b.drop 11)]).length = cnt at hlen hcnt
  have d5 : decide ((cnt : Int) < x10) = true := decide_eq_true (by rw [hcnt]; exact hless)
  clear hcnt hless
  go_wp2
  go_quiet (fail)
  go_wp2
  go_ret3
  exact ⟨_, ws, rfl, RS.nil _ _, by rw [HS2.out] at HM7; exact HM7.out.below (pw_below_drewN (Below.refl _ _) _), HWS.out, HK7.out⟩

set_option maxHeartbeats 8000000 in
set_option maxRecDepth 100000 in
theorem rcv_same_told (A : Option Addr) (c : Nat) (d : List Int) (g : Nat) (s : LS) (ws : List Nat) (w : World) (h : LinkM w g s ws) (hC : Kd.C (Kd.int .u8) w A d.length d) (hc : d.length ≤ c) (hd : ∀ x ∈ d, 0 ≤ x ∧ x < 256) (hl : d.length ≤ 140737488351232) (hT : Tab w)
    (b : List Int) (N x9 x10 : Int) (hbe : b = (opF d).1) (hNx : N = rd b 7 * 256 + rd b 8) (hx9 : x9 = rd b 9) (hx10 : x10 = rd b 10) (hbl : b.length ≤ 140737488355328) (h2 : (opF d).2 = true) (h3 : formedF b = true) (hany : s.any = false) (hw : s.waits = true) (hsame : N = s.n) (hmx : s.many = x10) (hpg : pget x9 s.parts = none) (hless : ¬ (s.parts.length : Int) + 1 < x10) : Calls Tryd.prog 13 #[.pointer (some ⟨g, 0, none⟩), .slice A d.length c] w (RcvPost w g ws (tellF { s with acked := hearF s b, parts := s.parts ++ [(x9, b.drop 11)] } N) (outF { s with acked := hearF s b, parts := s.parts ++ [(x9, b.drop 11)] }) true 0) := by
  have HANY := Aside0.mk hany; clear hany
  have H0hsame := Aside0.mk hsame; clear hsame
  have H0hmx := Aside0.mk hmx; clear hmx
  have H0hpg := Aside0.mk hpg; clear hpg
  have HWA := Aside0.mk hw; clear hw
  have HX9 := Aside0.mk hx9; have HX10 := Aside0.mk hx10; have HNX := Aside0.mk hNx
  clear hx9 hx10 hNx
  have hbr : ∀ x ∈ b, 0 ≤ x ∧ x < 256 := by rw [hbe]; exact opF_range d hd
  have hO := Open_callsF A c d w hC hc (by omega) hT
  rw [h2, ← hbe] at hO
  obtain ⟨L, hL⟩ : ∃ L, L = b.length := ⟨_, rfl⟩
  rw [← hL] at hbl
  have HLN := Aside0.mk hL; have HBR := Aside0.mk hbr
  clear hbe hL hbr h2 hC hd hc hT
  go_enter Tryd.func13, Tryd.ntmps13
  go_wp2
  refine wp_scope_fwd 1 rfl ?_
  go_wp2_with fail
  ((with_reducible refine hO.mono ?_); rintro e_ W1 ⟨v0, rfl, ⟨sp, ho_⟩, hb_⟩)
  obtain ⟨Ab, hv, hA, _, hcm⟩ := ho_.form
  rw [List.length_append, ← HLN.out] at hv hcm
  subst hv
  have hRR := Kd.R_reads' ho_.R
  rw [← HLN.out] at hRR
  obtain ⟨h11, hm1, hm10, hpm, hsz⟩ := formed_facts h3
  rw [← HLN.out] at h11 hsz
  obtain ⟨gb, hgb, hbk⟩ := hA.resolve_left (fun hn => by
    have h1 := HLN.out
    rw [(List.append_eq_nil_iff.1 hn.2).1] at h1
    simp at h1
    omega)
  subst hgb
  have HBK := Aside0.mk hbk
  generalize hq_ : sp.length = q at hRR hcm ⊢
  clear hq_
  have hF := formed_calls (some ⟨gb, 0, none⟩) L (L + q) b W1 hRR.2.2 hRR.2.1 (fun _ => ⟨gb, rfl⟩) HBR.out hbl
  rw [h3] at hF
  have hgbn := ho_.base gb rfl
  have HL1 := Aside0.mk (h.below hb_); have HB := Aside0.mk hb_; have HH := Aside0.mk h; have HGB := Aside0.mk hgbn
  have HSZ := Aside0.mk hsz; have hLq := hRR.2.1
  clear h hbk ho_ hb_ hO hRR hA h3 hgbn hsz
  go_wp2_with fail
  ((with_reducible refine hF.mono ?_); rintro e_ W2 ⟨rfl, q_, rfl⟩)
  clear hF
  have HL2 := Aside0.mk (HL1.out.below (pw_below_drewN (Below.refl _ _) q_))
  have hcellf : ∀ (W : World), W.heap[gb]? = some (Obj.cells ((b ++ sp).map (Value.int .u8)).toArray 5 (0, 0)) → ∀ i : Nat, i < L → W.cell? ⟨gb, i, none⟩ = some (.int .u8 (rd b (i : Int))) := by
    intro W hW i hi
    have hi' : i < b.length := by have := HLN.out; omega
    rw [blk_cell hW, rd_get' hi']
    simp only [List.getElem?_toArray, List.map_append]
    rw [List.getElem?_append_left (by simpa using hi'), List.getElem?_map, List.getElem?_eq_getElem hi']
    rfl
  have HCF := Aside0.mk hcellf; clear hcellf
  have hh := hear_calls g s ws gb L (L + q) b (W1.drewN q_) HL2.out HLN.out.symm (HCF.out _ HBK.out) h11 HBR.out
  go_wp2_with fail
  ((with_reducible refine hh.mono ?_); rintro e_ W3 ⟨rfl, hm3, hk3⟩)
  clear hh
  have hbk3 := hk3.u8 HL2.out HBK.out
  have HBK3 := Aside0.mk hbk3
  have HK3 : Aside0 (Keeps w W3 ws) := ⟨(Keeps.of_below (pw_below_drewN HB.out q_) ws).then hk3⟩
  have HM3 := Aside0.mk hm3
  have c7 : W3.cell? ⟨gb, 7, none⟩ = some (.int .u8 (rd b 7)) := HCF.out _ hbk3 7 (by omega)
  have c8 : W3.cell? ⟨gb, 8, none⟩ = some (.int .u8 (rd b 8)) := HCF.out _ hbk3 8 (by omega)
  have c9 : W3.cell? ⟨gb, 9, none⟩ = some (.int .u8 (rd b 9)) := HCF.out _ hbk3 9 (by omega)
  have c10 : W3.cell? ⟨gb, 10, none⟩ = some (.int .u8 (rd b 10)) := HCF.out _ hbk3 10 (by omega)
  have rdr : ∀ i : Nat, i < 11 → 0 ≤ rd b (i : Int) ∧ rd b (i : Int) < 256 := fun i hi => rd_mem HBR.out (by omega) (by have := HLN.out; omega)
  have r7 : 0 ≤ rd b 7 ∧ rd b 7 < 256 := rdr 7 (by omega)
  have r8 : 0 ≤ rd b 8 ∧ rd b 8 < 256 := rdr 8 (by omega)
  have r9 : 0 ≤ rd b 9 ∧ rd b 9 < 256 := rdr 9 (by omega)
  have r10 : 0 ≤ rd b 10 ∧ rd b 10 < 256 := rdr 10 (by omega)
  obtain ⟨sv, ma, mp, gs, mb, hg3, hs3, ha3, hp3, hw3, hne3, hws3, hok3⟩ := hm3
  obtain ⟨mo, rfl⟩ : ∃ o, mp = .map o := by
    rcases hp3 with ⟨e, _⟩ | ⟨b', _, e, _⟩
    · exact ⟨_, e⟩
    · exact ⟨_, e⟩
  obtain ⟨_, _, _, k3, k4, _, k6, k7, k8, k9⟩ := lcell hg3
  change W3.cell? ⟨g, 3, none⟩ = some (.bool s.any) at k3
  change W3.cell? ⟨g, 4, none⟩ = some (.int .u16 s.last) at k4
  change W3.cell? ⟨g, 6, none⟩ = some (.bool s.waits) at k6
  change W3.cell? ⟨g, 7, none⟩ = some (.int .u16 s.n) at k7
  change W3.cell? ⟨g, 8, none⟩ = some (.int .i64 s.many) at k8
  have hNe : bits .or .u16 (rd b 7 * 256) (rd b 8) = rd b 7 * 256 + rd b 8 := or_add16 _ _ r7 r8
  have hfz : ∀ j, W3.frozen? ⟨g, j, none⟩ = false := fun j => blk_frozen hg3 j
  have hgl : g < W3.heap.size := (Array.getElem?_eq_some_iff.1 hg3).1
  have hsamea : ∀ (o : Obj) (n : Nat), ((W3.drewN n).alloc o).heap[g]? = W3.heap[g]? := fun o n => (MapKept.heap_alloc (W3.drewN n) o).2 g hgl
  have al : ∀ (o : Obj) (n j : Nat), ((W3.drewN n).alloc o).cell? ⟨g, j, none⟩ = W3.cell? ⟨g, j, none⟩ ∧ ((W3.drewN n).alloc o).frozen? ⟨g, j, none⟩ = W3.frozen? ⟨g, j, none⟩ := fun o n j => ⟨World.cell?_of_block (a := ⟨g, j, none⟩) (hsamea o n), World.frozen?_of_block (a := ⟨g, j, none⟩) (hsamea o n)⟩
  have hok := HH.out.ok
  have HOK := Aside0.mk hok; clear hok
  have HAL := Aside0.mk al
  clear al hsamea hg3 hs3 ha3 hp3 hw3 hne3 hws3 hok3 hbk3 hk3 rdr
  have hx9 := HX9.out; have hx10 := HX10.out; have hNx := HNX.out
  rw [← hNx] at hNe
  have hNr : 0 ≤ N ∧ N < 65536 := by omega
  obtain ⟨x7, hx7⟩ : ∃ x, x = rd b 7 := ⟨_, rfl⟩
  obtain ⟨x8, hx8⟩ : ∃ x, x = rd b 8 := ⟨_, rfl⟩
  rw [← hx7] at c7 r7 hNe; rw [← hx8] at c8 r8 hNe; rw [← hx9] at c9 r9 hpm; rw [← hx10] at c10 r10 hm1 hm10 hpm
  clear hx7 hx8 hx9 hx10 hNx
  have hsame := H0hsame.out
  have n1 : decide (N = s.n) = true := decide_eq_true hsame
  have n2 : (N == s.n) = true := beq_iff_eq.2 hsame
  have n3 : (N != s.n) = false := by rw [hsame]; exact bne_self_eq_false _
  clear hsame
  rw [HWA.out] at k6
  have HWT := Aside0.mk HWA.out
  rw [HANY.out] at k3
  go_wp2
  go_quiet (fail)
  go_wp2
  generalize hW4 : W3.drewN nq = W4
  have hb4 : Below W3.heap.size W3 W4 := by rw [← hW4]; exact pw_below_drewN (Below.refl _ _) _
  have hm4 := HM3.out.below hb4
  have HKK : Aside0 (Keeps w W4 ws) := ⟨HK3.out.then (Keeps.of_below hb4 ws)⟩
  have HWS : Aside0 (∀ k ∈ ws, k ∈ ws ∨ w.heap.size ≤ k) := ⟨fun k hk => .inl hk⟩
  have hbk4 : W4.heap[gb]? = some (Obj.cells ((b ++ sp).map (Value.int .u8)).toArray 5 (0, 0)) := by rw [← hW4]; exact HBK3.out
  clear hb4 hW4
  have c10' : W4.cell? ⟨gb, 10, none⟩ = some (.int .u8 x10) := by rw [HX10.out]; exact HCF.out _ hbk4 10 (by omega)
  obtain ⟨s2, hs2⟩ : ∃ x : LS, x = { s with acked := hearF s b } := ⟨_, rfl⟩
  rw [← hs2] at hm4
  obtain ⟨mbb, j8, j9, him, hgl4⟩ := waiting hm4 (by rw [hs2]; exact HWT.out)
  have e_parts : s2.parts = s.parts := by rw [hs2]
  have e_many : s2.many = s.many := by rw [hs2]
  rw [e_many] at j8
  have hok4 := hm4.ok
  have HS2 := Aside0.mk hs2; have HM4 := Aside0.mk hm4; have HIM := Aside0.mk him; have HBK4 := Aside0.mk hbk4; have HEP := Aside0.mk e_parts; have HEM := Aside0.mk e_many; have HOK4 := Aside0.mk hok4
  have hlk := him.lookS Tryd.underlying62 Tryd.underlying3 zslice x9
  rw [e_parts] at hlk
  have hmx := H0hmx.out
  have hpg := H0hpg.out
  rw [hmx] at j8
  have HMX := Aside0.mk hmx; clear hmx
  have hnone : pget x9 s2.parts = none := by rw [e_parts]; exact hpg
  have hl2 : ∀ n, (Instr.lookup 62 (.map (some mbb)) (.int .i64 x9) true).run Tryd.prog (W4.drewN n) = .ok (.tuple #[.slice none 0 0, .bool false]) (W4.drewN n) := fun n => (hlk.resolve_right (fun ⟨a, _, h, _⟩ => by rw [e_parts] at hnone; rw [hnone] at h; cases h)).2 true _ rfl
  have HNONE := Aside0.mk hnone
  clear hs2 hm4 him hbk4 e_parts e_many hok4 hlk hnone
  have m1 : decide (x10 = x10) = true := decide_eq_true rfl
  have m3 : (x10 != x10) = false := bne_self_eq_false x10
  go_quiet (fail)
  go_wp2
  generalize hW5 : W4.drewN nq = W5
  have hh5 : W5.heap = W4.heap := by rw [← hW5]; rfl
  have hb5 : Below W4.heap.size W4 W5 := by rw [← hW5]; exact pw_below_drewN (Below.refl _ _) _
  have hm5 := HM4.out.below hb5
  have j95 : W5.cell? ⟨g, 9, none⟩ = some (.map (some mbb)) := (World.cell?_of_block (a := ⟨g, 9, none⟩) (by rw [hh5])).trans j9
  have hbk5 : W5.heap[gb]? = some (Obj.cells ((b ++ sp).map (Value.int .u8)).toArray 5 (0, 0)) := by rw [hh5]; exact HBK4.out
  have him5 : IM .i64 (PartR W5) W5 mbb s2.parts := (HIM.out.same (by rw [hh5])).imp (PartR.same (fun b cs _ => by rw [hh5]))
  obtain ⟨off, hoff, hcut⟩ := cut11 gb L (L + q) h11 hLq
  have hpr : PartR W5 (.slice (some ⟨gb, off, none⟩) (L - 11) (L + q - 11)) (b.drop 11) := part_of hbk5 HLN.out.symm h11 hoff
  obtain ⟨W6, hup, hgr6, him6⟩ := him5.put1 Tryd.underlying62 Tryd.underlying3 x9 HNONE.out _ (b.drop 11) hpr
  have hpp : ∀ y ∈ s2.parts ++ [(x9, b.drop 11)], y.2.length ≤ 200 ∧ ∀ z ∈ y.2, 0 ≤ z ∧ z < 256 := by
    intro y hy
    rcases List.mem_append.1 hy with hy | hy
    · exact HOK4.out.2.2.2.2.2.2.2 y hy
    · obtain rfl := List.mem_singleton.1 hy
      refine ⟨?_, fun z hz => HBR.out z (List.mem_of_mem_drop hz)⟩
      show (b.drop 11).length ≤ 200
      rw [List.length_drop, ← HLN.out]
      have := HSZ.out
      omega
  obtain ⟨hm6, hk6⟩ := more_parts hm5 j95 hgr6 him6 hpp
  have HM6 := Aside0.mk hm6
  have HK6 : Aside0 (Keeps w W6 ws) := ⟨(HKK.out.trans ((Keeps.of_below hb5 ws).then hk6) HWS.out)⟩
  clear hh5 hb5 hm5 hbk5 him5 hpr hgr6 him6 hpp hm6 hk6 hW5 j8 j9 hl2
  go_region
  generalize hW7 : W6.drew = W7
  have hb7 : Below W6.heap.size W6 W7 := by rw [← hW7]; exact below_drew1 (Below.refl _ _)
  have hm7 := HM6.out.below hb7
  obtain ⟨mb7, u8, u9, him7, hgl7⟩ := waiting hm7 (by rw [HS2.out]; exact HWT.out)
  change W7.cell? ⟨g, 8, none⟩ = some (.int .i64 s2.many) at u8
  rw [HEM.out, HMX.out] at u8
  have HM7 := Aside0.mk hm7; have HIM7 := Aside0.mk him7
  have HK7 : Aside0 (Keeps w W7 ws) := ⟨HK6.out.then (Keeps.of_below hb7 ws)⟩
  have hlen : ∀ ty n, (Builtin.len_ #[62] ty #[.map (some mb7)]).run Tryd.prog (W7.drewN n) = .ok (goInt ((s2.parts ++ [(x9, b.drop 11)]).length : Nat)) (W7.drewN n) := fun ty n => HIM7.out.lenS Tryd.underlying62 _ rfl
  clear hm7 him7 hb7 hW7
  have hcnt : ((s2.parts ++ [(x9, b.drop 11)]).length : Int) = (s.parts.length : Int) + 1 := by rw [HEP.out]; simp
  generalize (s2.parts ++ [(x9, b.drop 11)]).length = cnt at hlen hcnt
  have d5 : decide ((cnt : Int) < x10) = false := decide_eq_false (by rw [hcnt]; omega)
  clear hcnt hless
  go_wp2
  go_quiet (fail)
  go_wp2
  generalize hW8 : W7.drewN nq = W8
  have hb8 : Below W7.heap.size W7 W8 := by rw [← hW8]; exact pw_below_drewN (Below.refl _ _) _
  have hm8 := HM7.out.below hb8
  have hs3 : ({ s2 with parts := s2.parts ++ [(x9, b.drop 11)] } : LS) = { s with acked := hearF s b, parts := s.parts ++ [(x9, b.drop 11)] } := by rw [HS2.out]; first | done | rfl
  rw [hs3] at hm8
  have HM8 := Aside0.mk hm8
  have HK8 : Aside0 (Keeps w W8 ws) := ⟨HK7.out.then (Keeps.of_below hb8 ws)⟩
  have him8 : IM .i64 (PartR W8) W8 mb7 (s2.parts ++ [(x9, b.drop 11)]) := (HIM7.out.same (by rw [← hW8]; rfl)).imp (PartR.same (fun b cs _ => by rw [← hW8]; rfl))
  have y9 : W8.cell? ⟨g, 9, none⟩ = some (.map (some mb7)) := by rw [← hW8]; exact u9
  have hP : s2.parts ++ [(x9, b.drop 11)] = s.parts ++ [(x9, b.drop 11)] := by rw [HS2.out]; first | done | rfl
  rw [hP] at him8
  have HIM8 := Aside0.mk him8
  have hgl8 : g < W8.heap.size := HM8.out.g_in.2
  have hpl : ∀ (j : Nat), (((pget (j : Int) (s.parts ++ [(x9, b.drop 11)])).getD []).length ≤ 200) := by
    intro j
    cases hj : pget (j : Int) (s.parts ++ [(x9, b.drop 11)]) with
    | none => simp
    | some a => exact (HM8.out.ok.2.2.2.2.2.2.2 _ (pget_mem hj)).1
  generalize hPP : (s.parts ++ [(x9, b.drop 11)] : List (Int × List Int)) = P at HIM8 hpl
  have HPL := Aside0.mk hpl; have HPP := Aside0.mk hPP; have HGL8 := Aside0.mk hgl8
  clear hm8 hs3 him8 hP hpl hPP hgl8 hb8 hW8 u8 u9 hlen
  go_loopw [9, 141] (fun v vi wr => ∃ i : Int, vi = .int .i64 i ∧ 0 ≤ i ∧ i ≤ x10 ∧ Aside0 (RS W8.heap.size wr v ((List.range i.toNat).flatMap (fun j : Nat => (pget (j : Int) P).getD []))) ∧ Aside0 (Below W8.heap.size W8 wr)) (fun _ vi _ => (x10 - intOf vi).toNat)
  case atStart => exact ⟨0, rfl, by omega, by omega, ⟨RS.nil _ _⟩, ⟨Below.refl _ _⟩⟩
  case round =>
    obtain ⟨i, rfl, hi0, hi1, HO, HBW⟩ := hrel
    by_cases hx : i < x10
    · have dx : decide (i < x10) = true := decide_eq_true hx
      have y9w : wr.cell? ⟨g, 9, none⟩ = some (.map (some mb7)) := (HBW.out.cell (p := ⟨g, 9, none⟩) HGL8.out).trans y9
      have hsm : wr.heap[mb7]? = W8.heap[mb7]? := HBW.out.block _ HIM8.out.lt
      have hsucc := flat_succ P i hi0
      have hfl := flat_len HPL.out i.toNat
      generalize (List.range i.toNat).flatMap (fun j : Nat => (pget (j : Int) P).getD []) = acc at HO hsucc hfl
      have HSU := Aside0.mk hsucc; have HFL := Aside0.mk hfl
      clear hsucc hfl
      rcases HIM8.out.lookS Tryd.underlying62 Tryd.underlying3 zslice i with ⟨hg1, hl⟩ | ⟨a, v2, hg1, hv2, hl⟩
      · have hl0 := hl false wr hsm
        have HG1 := Aside0.mk hg1
        clear hl hg1 hsm
        go_wp2_with (first | ((with_reducible refine gate_builtin (b := .append) (xs := #[.tmp 144, .tmp 150]) rfl ?_); at_builtin; obtain ⟨sp0, ho_⟩ := HO.out; refine wp_rf_rows (w0 := W8) W8.heap.size rfl (.tmp 144) (.tmp 150) rfl _ acc sp0 [] _ _ _ rfl rfl ho_ (Kd.C_nil _ _) HBW.out (below_size HBW.out) (by have := HFL.out; omega) ?_; intro v1 w1 sp1 ho hb hg; have HO1 : Aside0 (RS W8.heap.size w1 v1 _) := Aside0.mk ⟨sp1, ho⟩; clear HBW; have HBW := Aside0.mk hb; clear ho_ ho hb hg))
        exact ⟨⟨i + 1, rfl, by omega, by omega, ⟨by rw [HSU.out, HG1.out]; exact HO1.out⟩, HBW⟩, by simp only [intOf]; omega⟩
      · have hl0 := hl false wr hsm
        have hal : a.length ≤ 200 := by have := HPL.out i.toNat; rw [Int.toNat_of_nonneg hi0, hg1] at this; exact this
        obtain ⟨A2, c2, rfl, hC2⟩ := (PartR.same (fun b cs hb => HBW.out.block b (Array.getElem?_eq_some_iff.1 hb).1) _ _ hv2 : PartR wr v2 a).C (by omega)
        have HG1 := Aside0.mk hg1; have HC2 := Aside0.mk hC2
        clear hl hg1 hsm hv2 hC2
        go_wp2_with (first | ((with_reducible refine gate_builtin (b := .append) (xs := #[.tmp 144, .tmp 150]) rfl ?_); at_builtin; obtain ⟨sp0, ho_⟩ := HO.out; refine wp_rf_rows (w0 := W8) W8.heap.size rfl (.tmp 144) (.tmp 150) rfl _ acc sp0 a _ _ _ rfl rfl ho_ HC2.out HBW.out (below_size HBW.out) (by have := HFL.out; omega) ?_; intro v1 w1 sp1 ho hb hg; have HO1 : Aside0 (RS W8.heap.size w1 v1 _) := Aside0.mk ⟨sp1, ho⟩; clear HBW; have HBW := Aside0.mk hb; clear ho_ ho hb hg))
        exact ⟨⟨i + 1, rfl, by omega, by omega, ⟨by rw [HSU.out, HG1.out]; exact HO1.out⟩, HBW⟩, by simp only [intOf]; omega⟩
    · have dx : decide (i < x10) = false := decide_eq_false hx
      have hie : i = x10 := by omega
      rw [hie] at HO
      clear hx dx hi0 hi1
      have hm9 := HM8.out.below HBW.out
      have ht := tell_calls g _ ws N wr hm9 hNr (by intro h; exact absurd (h.symm.trans HANY.out) (by simp))
      have HO9 := Aside0.mk HO.out
      go_wp2_with fail
      ((with_reducible refine ht.mono ?_); rintro e_ W9 ⟨rfl, hm10', hgr9⟩)
      clear ht
      go_wp2
      go_ret3
      refine ⟨_, ws, rfl, ?_, hm10', HWS.out, ?_⟩
      · have hout : outF { s with acked := hearF s b, parts := s.parts ++ [(x9, b.drop 11)] } = (List.range x10.toNat).flatMap (fun j : Nat => (pget (j : Int) P).getD []) := by rw [← HPP.out]; unfold outF; rw [HMX.out]
        rw [hout]
        refine (HO9.out.lower (Keeps.then HK8.out (Keeps.refl _ _)).2.2.2.1).move (fun b hb hlt => hgr9.block b hlt (fun e => ?_))
        injection e with e
        have h1 := (HO9.out.own b hb).1
        have h2 := HGL8.out
        omega
      · exact (HK8.out.then (Keeps.of_below HBW.out ws)).trans (Keeps.of_grown hgr9 hm9.g_in.1) HWS.out

set_option maxHeartbeats 8000000 in
set_option maxRecDepth 100000 in
theorem rcv_same_wronga (A : Option Addr) (c : Nat) (d : List Int) (g : Nat) (s : LS) (ws : List Nat) (w : World) (h : LinkM w g s ws) (hC : Kd.C (Kd.int .u8) w A d.length d) (hc : d.length ≤ c) (hd : ∀ x ∈ d, 0 ≤ x ∧ x < 256) (hl : d.length ≤ 140737488351232) (hT : Tab w)
    (b : List Int) (N x9 x10 : Int) (hbe : b = (opF d).1) (hNx : N = rd b 7 * 256 + rd b 8) (hx9 : x9 = rd b 9) (hx10 : x10 = rd b 10) (hbl : b.length ≤ 140737488355328) (h2 : (opF d).2 = true) (h3 : formedF b = true) (hany : s.any = true) (hnw : newerF N s.last = true) (hw : s.waits = true) (hsame : N = s.n) (hmx : s.many ≠ x10) : Calls Tryd.prog 13 #[.pointer (some ⟨g, 0, none⟩), .slice A d.length c] w (RcvPost w g ws { s with acked := hearF s b } [] false 70) := by
  have HANY := Aside0.mk hany; clear hany
  have HNW := Aside0.mk hnw; clear hnw
  have H0hsame := Aside0.mk hsame; clear hsame
  have H0hmx := Aside0.mk hmx; clear hmx
  have HWA := Aside0.mk hw; clear hw
  have HX9 := Aside0.mk hx9; have HX10 := Aside0.mk hx10; have HNX := Aside0.mk hNx
  clear hx9 hx10 hNx
  have hbr : ∀ x ∈ b, 0 ≤ x ∧ x < 256 := by rw [hbe]; exact opF_range d hd
  have hO := Open_callsF A c d w hC hc (by omega) hT
  rw [h2, ← hbe] at hO
  obtain ⟨L, hL⟩ : ∃ L, L = b.length := ⟨_, rfl⟩
  rw [← hL] at hbl
  have HLN := Aside0.mk hL; have HBR := Aside0.mk hbr
  clear hbe hL hbr h2 hC hd hc hT
  go_enter Tryd.func13, Tryd.ntmps13
  go_wp2
  refine wp_scope_fwd 0 rfl ?_
  go_wp2_with fail
  ((with_reducible refine hO.mono ?_); rintro e_ W1 ⟨v0, rfl, ⟨sp, ho_⟩, hb_⟩)
  obtain ⟨Ab, hv, hA, _, hcm⟩ := ho_.form
  rw [List.length_append, ← HLN.out] at hv hcm
  subst hv
  have hRR := Kd.R_reads' ho_.R
  rw [← HLN.out] at hRR
  obtain ⟨h11, hm1, hm10, hpm, hsz⟩ := formed_facts h3
  rw [← HLN.out] at h11 hsz
  obtain ⟨gb, hgb, hbk⟩ := hA.resolve_left (fun hn => by
    have h1 := HLN.out
    rw [(List.append_eq_nil_iff.1 hn.2).1] at h1
    simp at h1
    omega)
  subst hgb
  have HBK := Aside0.mk hbk
  generalize hq_ : sp.length = q at hRR hcm ⊢
  clear hq_
  have hF := formed_calls (some ⟨gb, 0, none⟩) L (L + q) b W1 hRR.2.2 hRR.2.1 (fun _ => ⟨gb, rfl⟩) HBR.out hbl
  rw [h3] at hF
  have hgbn := ho_.base gb rfl
  have HL1 := Aside0.mk (h.below hb_); have HB := Aside0.mk hb_; have HH := Aside0.mk h; have HGB := Aside0.mk hgbn
  have HSZ := Aside0.mk hsz; have hLq := hRR.2.1
  clear h hbk ho_ hb_ hO hRR hA h3 hgbn hsz
  go_wp2_with fail
  ((with_reducible refine hF.mono ?_); rintro e_ W2 ⟨rfl, q_, rfl⟩)
  clear hF
  have HL2 := Aside0.mk (HL1.out.below (pw_below_drewN (Below.refl _ _) q_))
  have hcellf : ∀ (W : World), W.heap[gb]? = some (Obj.cells ((b ++ sp).map (Value.int .u8)).toArray 5 (0, 0)) → ∀ i : Nat, i < L → W.cell? ⟨gb, i, none⟩ = some (.int .u8 (rd b (i : Int))) := by
    intro W hW i hi
    have hi' : i < b.length := by have := HLN.out; omega
    rw [blk_cell hW, rd_get' hi']
    simp only [List.getElem?_toArray, List.map_append]
    rw [List.getElem?_append_left (by simpa using hi'), List.getElem?_map, List.getElem?_eq_getElem hi']
    rfl
  have HCF := Aside0.mk hcellf; clear hcellf
  have hh := hear_calls g s ws gb L (L + q) b (W1.drewN q_) HL2.out HLN.out.symm (HCF.out _ HBK.out) h11 HBR.out
  go_wp2_with fail
  ((with_reducible refine hh.mono ?_); rintro e_ W3 ⟨rfl, hm3, hk3⟩)
  clear hh
  have hbk3 := hk3.u8 HL2.out HBK.out
  have HBK3 := Aside0.mk hbk3
  have HK3 : Aside0 (Keeps w W3 ws) := ⟨(Keeps.of_below (pw_below_drewN HB.out q_) ws).then hk3⟩
  have HM3 := Aside0.mk hm3
  have c7 : W3.cell? ⟨gb, 7, none⟩ = some (.int .u8 (rd b 7)) := HCF.out _ hbk3 7 (by omega)
  have c8 : W3.cell? ⟨gb, 8, none⟩ = some (.int .u8 (rd b 8)) := HCF.out _ hbk3 8 (by omega)
  have c9 : W3.cell? ⟨gb, 9, none⟩ = some (.int .u8 (rd b 9)) := HCF.out _ hbk3 9 (by omega)
  have c10 : W3.cell? ⟨gb, 10, none⟩ = some (.int .u8 (rd b 10)) := HCF.out _ hbk3 10 (by omega)
  have rdr : ∀ i : Nat, i < 11 → 0 ≤ rd b (i : Int) ∧ rd b (i : Int) < 256 := fun i hi => rd_mem HBR.out (by omega) (by have := HLN.out; omega)
  have r7 : 0 ≤ rd b 7 ∧ rd b 7 < 256 := rdr 7 (by omega)
  have r8 : 0 ≤ rd b 8 ∧ rd b 8 < 256 := rdr 8 (by omega)
  have r9 : 0 ≤ rd b 9 ∧ rd b 9 < 256 := rdr 9 (by omega)
  have r10 : 0 ≤ rd b 10 ∧ rd b 10 < 256 := rdr 10 (by omega)
  obtain ⟨sv, ma, mp, gs, mb, hg3, hs3, ha3, hp3, hw3, hne3, hws3, hok3⟩ := hm3
  obtain ⟨mo, rfl⟩ : ∃ o, mp = .map o := by
    rcases hp3 with ⟨e, _⟩ | ⟨b', _, e, _⟩
    · exact ⟨_, e⟩
    · exact ⟨_, e⟩
  obtain ⟨_, _, _, k3, k4, _, k6, k7, k8, k9⟩ := lcell hg3
  change W3.cell? ⟨g, 3, none⟩ = some (.bool s.any) at k3
  change W3.cell? ⟨g, 4, none⟩ = some (.int .u16 s.last) at k4
  change W3.cell? ⟨g, 6, none⟩ = some (.bool s.waits) at k6
  change W3.cell? ⟨g, 7, none⟩ = some (.int .u16 s.n) at k7
  change W3.cell? ⟨g, 8, none⟩ = some (.int .i64 s.many) at k8
  have hNe : bits .or .u16 (rd b 7 * 256) (rd b 8) = rd b 7 * 256 + rd b 8 := or_add16 _ _ r7 r8
  have hfz : ∀ j, W3.frozen? ⟨g, j, none⟩ = false := fun j => blk_frozen hg3 j
  have hgl : g < W3.heap.size := (Array.getElem?_eq_some_iff.1 hg3).1
  have hsamea : ∀ (o : Obj) (n : Nat), ((W3.drewN n).alloc o).heap[g]? = W3.heap[g]? := fun o n => (MapKept.heap_alloc (W3.drewN n) o).2 g hgl
  have al : ∀ (o : Obj) (n j : Nat), ((W3.drewN n).alloc o).cell? ⟨g, j, none⟩ = W3.cell? ⟨g, j, none⟩ ∧ ((W3.drewN n).alloc o).frozen? ⟨g, j, none⟩ = W3.frozen? ⟨g, j, none⟩ := fun o n j => ⟨World.cell?_of_block (a := ⟨g, j, none⟩) (hsamea o n), World.frozen?_of_block (a := ⟨g, j, none⟩) (hsamea o n)⟩
  have hok := HH.out.ok
  have HOK := Aside0.mk hok; clear hok
  have HAL := Aside0.mk al
  clear al hsamea hg3 hs3 ha3 hp3 hw3 hne3 hws3 hok3 hbk3 hk3 rdr
  have hx9 := HX9.out; have hx10 := HX10.out; have hNx := HNX.out
  rw [← hNx] at hNe
  have hNr : 0 ≤ N ∧ N < 65536 := by omega
  obtain ⟨x7, hx7⟩ : ∃ x, x = rd b 7 := ⟨_, rfl⟩
  obtain ⟨x8, hx8⟩ : ∃ x, x = rd b 8 := ⟨_, rfl⟩
  rw [← hx7] at c7 r7 hNe; rw [← hx8] at c8 r8 hNe; rw [← hx9] at c9 r9 hpm; rw [← hx10] at c10 r10 hm1 hm10 hpm
  clear hx7 hx8 hx9 hx10 hNx
  have hsame := H0hsame.out
  have n1 : decide (N = s.n) = true := decide_eq_true hsame
  have n2 : (N == s.n) = true := beq_iff_eq.2 hsame
  have n3 : (N != s.n) = false := by rw [hsame]; exact bne_self_eq_false _
  clear hsame
  rw [HWA.out] at k6
  have HWT := Aside0.mk HWA.out
  rw [HANY.out] at k3
  have hnw := HNW.out
  go_wp2
  go_quiet (fail)
  go_wp2_with fail
  ((with_reducible refine (newer_calls _ _ _).mono ?_); rintro e_ Wn ⟨rfl, rfl⟩)
  rw [hnw]
  go_wp2
  generalize hW4 : W3.drewN nq = W4
  have hb4 : Below W3.heap.size W3 W4 := by rw [← hW4]; exact pw_below_drewN (Below.refl _ _) _
  have hm4 := HM3.out.below hb4
  have HKK : Aside0 (Keeps w W4 ws) := ⟨HK3.out.then (Keeps.of_below hb4 ws)⟩
  have HWS : Aside0 (∀ k ∈ ws, k ∈ ws ∨ w.heap.size ≤ k) := ⟨fun k hk => .inl hk⟩
  have hbk4 : W4.heap[gb]? = some (Obj.cells ((b ++ sp).map (Value.int .u8)).toArray 5 (0, 0)) := by rw [← hW4]; exact HBK3.out
  clear hb4 hW4
  have c10' : W4.cell? ⟨gb, 10, none⟩ = some (.int .u8 x10) := by rw [HX10.out]; exact HCF.out _ hbk4 10 (by omega)
  obtain ⟨s2, hs2⟩ : ∃ x : LS, x = { s with acked := hearF s b } := ⟨_, rfl⟩
  rw [← hs2] at hm4
  obtain ⟨mbb, j8, j9, him, hgl4⟩ := waiting hm4 (by rw [hs2]; exact HWT.out)
  have e_parts : s2.parts = s.parts := by rw [hs2]
  have e_many : s2.many = s.many := by rw [hs2]
  rw [e_many] at j8
  have hok4 := hm4.ok
  have HS2 := Aside0.mk hs2; have HM4 := Aside0.mk hm4; have HIM := Aside0.mk him; have HBK4 := Aside0.mk hbk4; have HEP := Aside0.mk e_parts; have HEM := Aside0.mk e_many; have HOK4 := Aside0.mk hok4
  have hlk := him.lookS Tryd.underlying62 Tryd.underlying3 zslice x9
  rw [e_parts] at hlk
  have hmx := H0hmx.out
  clear hs2 hm4 him hbk4 e_parts e_many hok4 hlk
  have m1 : decide (s.many = x10) = false := decide_eq_false hmx
  have m2 : (s.many == x10) = false := beq_eq_false_iff_ne.2 hmx
  have m3 : (s.many != x10) = true := bne_iff_ne.2 hmx
  go_quiet (fail)
  go_wp2
  go_step3
  refine ⟨rfl, ?_⟩
  go_wp2
  (try simp only [Exit.jump])
  go_ret3
  exact ⟨_, ws, rfl, RS.nil _ _, by rw [← HS2.out]; exact HM4.out.below (pw_below_drewN (Below.refl _ _) _), fun k hk => .inl hk, HKK.out⟩

set_option maxHeartbeats 8000000 in
set_option maxRecDepth 100000 in
theorem rcv_same_stalea (A : Option Addr) (c : Nat) (d : List Int) (g : Nat) (s : LS) (ws : List Nat) (w : World) (h : LinkM w g s ws) (hC : Kd.C (Kd.int .u8) w A d.length d) (hc : d.length ≤ c) (hd : ∀ x ∈ d, 0 ≤ x ∧ x < 256) (hl : d.length ≤ 140737488351232) (hT : Tab w)
    (b : List Int) (N x9 x10 : Int) (hbe : b = (opF d).1) (hNx : N = rd b 7 * 256 + rd b 8) (hx9 : x9 = rd b 9) (hx10 : x10 = rd b 10) (hbl : b.length ≤ 140737488355328) (h2 : (opF d).2 = true) (h3 : formedF b = true) (hany : s.any = true) (hnw : newerF N s.last = true) (hw : s.waits = true) (hsame : N = s.n) (hmx : s.many = x10) (hpg : (pget x9 s.parts).isSome = true) : Calls Tryd.prog 13 #[.pointer (some ⟨g, 0, none⟩), .slice A d.length c] w (RcvPost w g ws { s with acked := hearF s b } [] false 71) := by
  have HANY := Aside0.mk hany; clear hany
  have HNW := Aside0.mk hnw; clear hnw
  have H0hsame := Aside0.mk hsame; clear hsame
  have H0hmx := Aside0.mk hmx; clear hmx
  have H0hpg := Aside0.mk hpg; clear hpg
  have HWA := Aside0.mk hw; clear hw
  have HX9 := Aside0.mk hx9; have HX10 := Aside0.mk hx10; have HNX := Aside0.mk hNx
  clear hx9 hx10 hNx
  have hbr : ∀ x ∈ b, 0 ≤ x ∧ x < 256 := by rw [hbe]; exact opF_range d hd
  have hO := Open_callsF A c d w hC hc (by omega) hT
  rw [h2, ← hbe] at hO
  obtain ⟨L, hL⟩ : ∃ L, L = b.length := ⟨_, rfl⟩
  rw [← hL] at hbl
  have HLN := Aside0.mk hL; have HBR := Aside0.mk hbr
  clear hbe hL hbr h2 hC hd hc hT
  go_enter Tryd.func13, Tryd.ntmps13
  go_wp2
  refine wp_scope_fwd 1 rfl ?_
  go_wp2_with fail
  ((with_reducible refine hO.mono ?_); rintro e_ W1 ⟨v0, rfl, ⟨sp, ho_⟩, hb_⟩)
  obtain ⟨Ab, hv, hA, _, hcm⟩ := ho_.form
  rw [List.length_append, ← HLN.out] at hv hcm
  subst hv
  have hRR := Kd.R_reads' ho_.R
  rw [← HLN.out] at hRR
  obtain ⟨h11, hm1, hm10, hpm, hsz⟩ := formed_facts h3
  rw [← HLN.out] at h11 hsz
  obtain ⟨gb, hgb, hbk⟩ := hA.resolve_left (fun hn => by
    have h1 := HLN.out
    rw [(List.append_eq_nil_iff.1 hn.2).1] at h1
    simp at h1
    omega)
  subst hgb
  have HBK := Aside0.mk hbk
  generalize hq_ : sp.length = q at hRR hcm ⊢
  clear hq_
  have hF := formed_calls (some ⟨gb, 0, none⟩) L (L + q) b W1 hRR.2.2 hRR.2.1 (fun _ => ⟨gb, rfl⟩) HBR.out hbl
  rw [h3] at hF
  have hgbn := ho_.base gb rfl
  have HL1 := Aside0.mk (h.below hb_); have HB := Aside0.mk hb_; have HH := Aside0.mk h; have HGB := Aside0.mk hgbn
  have HSZ := Aside0.mk hsz; have hLq := hRR.2.1
  clear h hbk ho_ hb_ hO hRR hA h3 hgbn hsz
  go_wp2_with fail
  ((with_reducible refine hF.mono ?_); rintro e_ W2 ⟨rfl, q_, rfl⟩)
  clear hF
  have HL2 := Aside0.mk (HL1.out.below (pw_below_drewN (Below.refl _ _) q_))
  have hcellf : ∀ (W : World), W.heap[gb]? = some (Obj.cells ((b ++ sp).map (Value.int .u8)).toArray 5 (0, 0)) → ∀ i : Nat, i < L → W.cell? ⟨gb, i, none⟩ = some (.int .u8 (rd b (i : Int))) := by
    intro W hW i hi
    have hi' : i < b.length := by have := HLN.out; omega
    rw [blk_cell hW, rd_get' hi']
    simp only [List.getElem?_toArray, List.map_append]
    rw [List.getElem?_append_left (by simpa using hi'), List.getElem?_map, List.getElem?_eq_getElem hi']
    rfl
  have HCF := Aside0.mk hcellf; clear hcellf
  have hh := hear_calls g s ws gb L (L + q) b (W1.drewN q_) HL2.out HLN.out.symm (HCF.out _ HBK.out) h11 HBR.out
  go_wp2_with fail
  ((with_reducible refine hh.mono ?_); rintro e_ W3 ⟨rfl, hm3, hk3⟩)
  clear hh
  have hbk3 := hk3.u8 HL2.out HBK.out
  have HBK3 := Aside0.mk hbk3
  have HK3 : Aside0 (Keeps w W3 ws) := ⟨(Keeps.of_below (pw_below_drewN HB.out q_) ws).then hk3⟩
  have HM3 := Aside0.mk hm3
  have c7 : W3.cell? ⟨gb, 7, none⟩ = some (.int .u8 (rd b 7)) := HCF.out _ hbk3 7 (by omega)
  have c8 : W3.cell? ⟨gb, 8, none⟩ = some (.int .u8 (rd b 8)) := HCF.out _ hbk3 8 (by omega)
  have c9 : W3.cell? ⟨gb, 9, none⟩ = some (.int .u8 (rd b 9)) := HCF.out _ hbk3 9 (by omega)
  have c10 : W3.cell? ⟨gb, 10, none⟩ = some (.int .u8 (rd b 10)) := HCF.out _ hbk3 10 (by omega)
  have rdr : ∀ i : Nat, i < 11 → 0 ≤ rd b (i : Int) ∧ rd b (i : Int) < 256 := fun i hi => rd_mem HBR.out (by omega) (by have := HLN.out; omega)
  have r7 : 0 ≤ rd b 7 ∧ rd b 7 < 256 := rdr 7 (by omega)
  have r8 : 0 ≤ rd b 8 ∧ rd b 8 < 256 := rdr 8 (by omega)
  have r9 : 0 ≤ rd b 9 ∧ rd b 9 < 256 := rdr 9 (by omega)
  have r10 : 0 ≤ rd b 10 ∧ rd b 10 < 256 := rdr 10 (by omega)
  obtain ⟨sv, ma, mp, gs, mb, hg3, hs3, ha3, hp3, hw3, hne3, hws3, hok3⟩ := hm3
  obtain ⟨mo, rfl⟩ : ∃ o, mp = .map o := by
    rcases hp3 with ⟨e, _⟩ | ⟨b', _, e, _⟩
    · exact ⟨_, e⟩
    · exact ⟨_, e⟩
  obtain ⟨_, _, _, k3, k4, _, k6, k7, k8, k9⟩ := lcell hg3
  change W3.cell? ⟨g, 3, none⟩ = some (.bool s.any) at k3
  change W3.cell? ⟨g, 4, none⟩ = some (.int .u16 s.last) at k4
  change W3.cell? ⟨g, 6, none⟩ = some (.bool s.waits) at k6
  change W3.cell? ⟨g, 7, none⟩ = some (.int .u16 s.n) at k7
  change W3.cell? ⟨g, 8, none⟩ = some (.int .i64 s.many) at k8
  have hNe : bits .or .u16 (rd b 7 * 256) (rd b 8) = rd b 7 * 256 + rd b 8 := or_add16 _ _ r7 r8
  have hfz : ∀ j, W3.frozen? ⟨g, j, none⟩ = false := fun j => blk_frozen hg3 j
  have hgl : g < W3.heap.size := (Array.getElem?_eq_some_iff.1 hg3).1
  have hsamea : ∀ (o : Obj) (n : Nat), ((W3.drewN n).alloc o).heap[g]? = W3.heap[g]? := fun o n => (MapKept.heap_alloc (W3.drewN n) o).2 g hgl
  have al : ∀ (o : Obj) (n j : Nat), ((W3.drewN n).alloc o).cell? ⟨g, j, none⟩ = W3.cell? ⟨g, j, none⟩ ∧ ((W3.drewN n).alloc o).frozen? ⟨g, j, none⟩ = W3.frozen? ⟨g, j, none⟩ := fun o n j => ⟨World.cell?_of_block (a := ⟨g, j, none⟩) (hsamea o n), World.frozen?_of_block (a := ⟨g, j, none⟩) (hsamea o n)⟩
  have hok := HH.out.ok
  have HOK := Aside0.mk hok; clear hok
  have HAL := Aside0.mk al
  clear al hsamea hg3 hs3 ha3 hp3 hw3 hne3 hws3 hok3 hbk3 hk3 rdr
  have hx9 := HX9.out; have hx10 := HX10.out; have hNx := HNX.out
  rw [← hNx] at hNe
  have hNr : 0 ≤ N ∧ N < 65536 := by omega
  obtain ⟨x7, hx7⟩ : ∃ x, x = rd b 7 := ⟨_, rfl⟩
  obtain ⟨x8, hx8⟩ : ∃ x, x = rd b 8 := ⟨_, rfl⟩
  rw [← hx7] at c7 r7 hNe; rw [← hx8] at c8 r8 hNe; rw [← hx9] at c9 r9 hpm; rw [← hx10] at c10 r10 hm1 hm10 hpm
  clear hx7 hx8 hx9 hx10 hNx
  have hsame := H0hsame.out
  have n1 : decide (N = s.n) = true := decide_eq_true hsame
  have n2 : (N == s.n) = true := beq_iff_eq.2 hsame
  have n3 : (N != s.n) = false := by rw [hsame]; exact bne_self_eq_false _
  clear hsame
  rw [HWA.out] at k6
  have HWT := Aside0.mk HWA.out
  rw [HANY.out] at k3
  have hnw := HNW.out
  go_wp2
  go_quiet (fail)
  go_wp2_with fail
  ((with_reducible refine (newer_calls _ _ _).mono ?_); rintro e_ Wn ⟨rfl, rfl⟩)
  rw [hnw]
  go_wp2
  generalize hW4 : W3.drewN nq = W4
  have hb4 : Below W3.heap.size W3 W4 := by rw [← hW4]; exact pw_below_drewN (Below.refl _ _) _
  have hm4 := HM3.out.below hb4
  have HKK : Aside0 (Keeps w W4 ws) := ⟨HK3.out.then (Keeps.of_below hb4 ws)⟩
  have HWS : Aside0 (∀ k ∈ ws, k ∈ ws ∨ w.heap.size ≤ k) := ⟨fun k hk => .inl hk⟩
  have hbk4 : W4.heap[gb]? = some (Obj.cells ((b ++ sp).map (Value.int .u8)).toArray 5 (0, 0)) := by rw [← hW4]; exact HBK3.out
  clear hb4 hW4
  have c10' : W4.cell? ⟨gb, 10, none⟩ = some (.int .u8 x10) := by rw [HX10.out]; exact HCF.out _ hbk4 10 (by omega)
  obtain ⟨s2, hs2⟩ : ∃ x : LS, x = { s with acked := hearF s b } := ⟨_, rfl⟩
  rw [← hs2] at hm4
  obtain ⟨mbb, j8, j9, him, hgl4⟩ := waiting hm4 (by rw [hs2]; exact HWT.out)
  have e_parts : s2.parts = s.parts := by rw [hs2]
  have e_many : s2.many = s.many := by rw [hs2]
  rw [e_many] at j8
  have hok4 := hm4.ok
  have HS2 := Aside0.mk hs2; have HM4 := Aside0.mk hm4; have HIM := Aside0.mk him; have HBK4 := Aside0.mk hbk4; have HEP := Aside0.mk e_parts; have HEM := Aside0.mk e_many; have HOK4 := Aside0.mk hok4
  have hlk := him.lookS Tryd.underlying62 Tryd.underlying3 zslice x9
  rw [e_parts] at hlk
  have hmx := H0hmx.out
  have hpg := H0hpg.out
  rw [hmx] at j8
  have HMX := Aside0.mk hmx; clear hmx
  obtain ⟨a_, v_, hsm, _, hl3⟩ := hlk.resolve_left (fun h => by rw [h.1] at hpg; cases hpg)
  have hl2 : ∀ n, (Instr.lookup 62 (.map (some mbb)) (.int .i64 x9) true).run Tryd.prog (W4.drewN n) = .ok (.tuple #[v_, .bool true]) (W4.drewN n) := fun n => hl3 true _ rfl
  clear hs2 hm4 him hbk4 e_parts e_many hok4 hlk hl3 hsm hpg
  have m1 : decide (x10 = x10) = true := decide_eq_true rfl
  have m3 : (x10 != x10) = false := bne_self_eq_false x10
  go_quiet (fail)
  go_wp2
  go_step3
  refine ⟨rfl, ?_⟩
  go_wp2
  (try simp only [Exit.jump])
  go_ret3
  exact ⟨_, ws, rfl, RS.nil _ _, by rw [← HS2.out]; exact HM4.out.below (pw_below_drewN (Below.refl _ _) _), fun k hk => .inl hk, HKK.out⟩

set_option maxHeartbeats 8000000 in
set_option maxRecDepth 100000 in
theorem rcv_same_pendinga (A : Option Addr) (c : Nat) (d : List Int) (g : Nat) (s : LS) (ws : List Nat) (w : World) (h : LinkM w g s ws) (hC : Kd.C (Kd.int .u8) w A d.length d) (hc : d.length ≤ c) (hd : ∀ x ∈ d, 0 ≤ x ∧ x < 256) (hl : d.length ≤ 140737488351232) (hT : Tab w)
    (b : List Int) (N x9 x10 : Int) (hbe : b = (opF d).1) (hNx : N = rd b 7 * 256 + rd b 8) (hx9 : x9 = rd b 9) (hx10 : x10 = rd b 10) (hbl : b.length ≤ 140737488355328) (h2 : (opF d).2 = true) (h3 : formedF b = true) (hany : s.any = true) (hnw : newerF N s.last = true) (hw : s.waits = true) (hsame : N = s.n) (hmx : s.many = x10) (hpg : pget x9 s.parts = none) (hless : (s.parts.length : Int) + 1 < x10) : Calls Tryd.prog 13 #[.pointer (some ⟨g, 0, none⟩), .slice A d.length c] w (RcvPost w g ws { s with acked := hearF s b, parts := s.parts ++ [(x9, b.drop 11)] } [] false 0) := by
  have HANY := Aside0.mk hany; clear hany
  have HNW := Aside0.mk hnw; clear hnw
  have H0hsame := Aside0.mk hsame; clear hsame
  have H0hmx := Aside0.mk hmx; clear hmx
  have H0hpg := Aside0.mk hpg; clear hpg
  have HWA := Aside0.mk hw; clear hw
  have HX9 := Aside0.mk hx9; have HX10 := Aside0.mk hx10; have HNX := Aside0.mk hNx
  clear hx9 hx10 hNx
  have hbr : ∀ x ∈ b, 0 ≤ x ∧ x < 256 := by rw [hbe]; exact opF_range d hd
  have hO := Open_callsF A c d w hC hc (by omega) hT
  rw [h2, ← hbe] at hO
  obtain ⟨L, hL⟩ : ∃ L, L = b.length := ⟨_, rfl⟩
  rw [← hL] at hbl
  have HLN := Aside0.mk hL; have HBR := Aside0.mk hbr
  clear hbe hL hbr h2 hC hd hc hT
  go_enter Tryd.func13, Tryd.ntmps13
  go_wp2
  refine wp_scope_fwd 1 rfl ?_
  go_wp2_with fail
  ((with_reducible refine hO.mono ?_); rintro e_ W1 ⟨v0, rfl, ⟨sp, ho_⟩, hb_⟩)
  obtain ⟨Ab, hv, hA, _, hcm⟩ := ho_.form
  rw [List.length_append, ← HLN.out] at hv hcm
  subst hv
  have hRR := Kd.R_reads' ho_.R
  rw [← HLN.out] at hRR
  obtain ⟨h11, hm1, hm10, hpm, hsz⟩ := formed_facts h3
  rw [← HLN.out] at h11 hsz
  obtain ⟨gb, hgb, hbk⟩ := hA.resolve_left (fun hn => by
    have h1 := HLN.out
    rw [(List.append_eq_nil_iff.1 hn.2).1] at h1
    simp at h1
    omega)
  subst hgb
  have HBK := Aside0.mk hbk
  generalize hq_ : sp.length = q at hRR hcm ⊢
  clear hq_
  have hF := formed_calls (some ⟨gb, 0, none⟩) L (L + q) b W1 hRR.2.2 hRR.2.1 (fun _ => ⟨gb, rfl⟩) HBR.out hbl
  rw [h3] at hF
  have hgbn := ho_.base gb rfl
  have HL1 := Aside0.mk (h.below hb_); have HB := Aside0.mk hb_; have HH := Aside0.mk h; have HGB := Aside0.mk hgbn
  have HSZ := Aside0.mk hsz; have hLq := hRR.2.1
  clear h hbk ho_ hb_ hO hRR hA h3 hgbn hsz
  go_wp2_with fail
  ((with_reducible refine hF.mono ?_); rintro e_ W2 ⟨rfl, q_, rfl⟩)
  clear hF
  have HL2 := Aside0.mk (HL1.out.below (pw_below_drewN (Below.refl _ _) q_))
  have hcellf : ∀ (W : World), W.heap[gb]? = some (Obj.cells ((b ++ sp).map (Value.int .u8)).toArray 5 (0, 0)) → ∀ i : Nat, i < L → W.cell? ⟨gb, i, none⟩ = some (.int .u8 (rd b (i : Int))) := by
    intro W hW i hi
    have hi' : i < b.length := by have := HLN.out; omega
    rw [blk_cell hW, rd_get' hi']
    simp only [List.getElem?_toArray, List.map_append]
    rw [List.getElem?_append_left (by simpa using hi'), List.getElem?_map, List.getElem?_eq_getElem hi']
    rfl
  have HCF := Aside0.mk hcellf; clear hcellf
  have hh := hear_calls g s ws gb L (L + q) b (W1.drewN q_) HL2.out HLN.out.symm (HCF.out _ HBK.out) h11 HBR.out
  go_wp2_with fail
  ((with_reducible refine hh.mono ?_); rintro e_ W3 ⟨rfl, hm3, hk3⟩)
  clear hh
  have hbk3 := hk3.u8 HL2.out HBK.out
  have HBK3 := Aside0.mk hbk3
  have HK3 : Aside0 (Keeps w W3 ws) := ⟨(Keeps.of_below (pw_below_drewN HB.out q_) ws).then hk3⟩
  have HM3 := Aside0.mk hm3
  have c7 : W3.cell? ⟨gb, 7, none⟩ = some (.int .u8 (rd b 7)) := HCF.out _ hbk3 7 (by omega)
  have c8 : W3.cell? ⟨gb, 8, none⟩ = some (.int .u8 (rd b 8)) := HCF.out _ hbk3 8 (by omega)
  have c9 : W3.cell? ⟨gb, 9, none⟩ = some (.int .u8 (rd b 9)) := HCF.out _ hbk3 9 (by omega)
  have c10 : W3.cell? ⟨gb, 10, none⟩ = some (.int .u8 (rd b 10)) := HCF.out _ hbk3 10 (by omega)
  have rdr : ∀ i : Nat, i < 11 → 0 ≤ rd b (i : Int) ∧ rd b (i : Int) < 256 := fun i hi => rd_mem HBR.out (by omega) (by have := HLN.out; omega)
  have r7 : 0 ≤ rd b 7 ∧ rd b 7 < 256 := rdr 7 (by omega)
  have r8 : 0 ≤ rd b 8 ∧ rd b 8 < 256 := rdr 8 (by omega)
  have r9 : 0 ≤ rd b 9 ∧ rd b 9 < 256 := rdr 9 (by omega)
  have r10 : 0 ≤ rd b 10 ∧ rd b 10 < 256 := rdr 10 (by omega)
  obtain ⟨sv, ma, mp, gs, mb, hg3, hs3, ha3, hp3, hw3, hne3, hws3, hok3⟩ := hm3
  obtain ⟨mo, rfl⟩ : ∃ o, mp = .map o := by
    rcases hp3 with ⟨e, _⟩ | ⟨b', _, e, _⟩
    · exact ⟨_, e⟩
    · exact ⟨_, e⟩
  obtain ⟨_, _, _, k3, k4, _, k6, k7, k8, k9⟩ := lcell hg3
  change W3.cell? ⟨g, 3, none⟩ = some (.bool s.any) at k3
  change W3.cell? ⟨g, 4, none⟩ = some (.int .u16 s.last) at k4
  change W3.cell? ⟨g, 6, none⟩ = some (.bool s.waits) at k6
  change W3.cell? ⟨g, 7, none⟩ = some (.int .u16 s.n) at k7
  change W3.cell? ⟨g, 8, none⟩ = some (.int .i64 s.many) at k8
  have hNe : bits .or .u16 (rd b 7 * 256) (rd b 8) = rd b 7 * 256 + rd b 8 := or_add16 _ _ r7 r8
  have hfz : ∀ j, W3.frozen? ⟨g, j, none⟩ = false := fun j => blk_frozen hg3 j
  have hgl : g < W3.heap.size := (Array.getElem?_eq_some_iff.1 hg3).1
  have hsamea : ∀ (o : Obj) (n : Nat), ((W3.drewN n).alloc o).heap[g]? = W3.heap[g]? := fun o n => (MapKept.heap_alloc (W3.drewN n) o).2 g hgl
  have al : ∀ (o : Obj) (n j : Nat), ((W3.drewN n).alloc o).cell? ⟨g, j, none⟩ = W3.cell? ⟨g, j, none⟩ ∧ ((W3.drewN n).alloc o).frozen? ⟨g, j, none⟩ = W3.frozen? ⟨g, j, none⟩ := fun o n j => ⟨World.cell?_of_block (a := ⟨g, j, none⟩) (hsamea o n), World.frozen?_of_block (a := ⟨g, j, none⟩) (hsamea o n)⟩
  have hok := HH.out.ok
  have HOK := Aside0.mk hok; clear hok
  have HAL := Aside0.mk al
  clear al hsamea hg3 hs3 ha3 hp3 hw3 hne3 hws3 hok3 hbk3 hk3 rdr
  have hx9 := HX9.out; have hx10 := HX10.out; have hNx := HNX.out
  rw [← hNx] at hNe
  have hNr : 0 ≤ N ∧ N < 65536 := by omega
  obtain ⟨x7, hx7⟩ : ∃ x, x = rd b 7 := ⟨_, rfl⟩
  obtain ⟨x8, hx8⟩ : ∃ x, x = rd b 8 := ⟨_, rfl⟩
  rw [← hx7] at c7 r7 hNe; rw [← hx8] at c8 r8 hNe; rw [← hx9] at c9 r9 hpm; rw [← hx10] at c10 r10 hm1 hm10 hpm
  clear hx7 hx8 hx9 hx10 hNx
  have hsame := H0hsame.out
  have n1 : decide (N = s.n) = true := decide_eq_true hsame
  have n2 : (N == s.n) = true := beq_iff_eq.2 hsame
  have n3 : (N != s.n) = false := by rw [hsame]; exact bne_self_eq_false _
  clear hsame
  rw [HWA.out] at k6
  have HWT := Aside0.mk HWA.out
  rw [HANY.out] at k3
  have hnw := HNW.out
  go_wp2
  go_quiet (fail)
  go_wp2_with fail
  ((with_reducible refine (newer_calls _ _ _).mono ?_); rintro e_ Wn ⟨rfl, rfl⟩)
  rw [hnw]
  go_wp2
  generalize hW4 : W3.drewN nq = W4
  have hb4 : Below W3.heap.size W3 W4 := by rw [← hW4]; exact pw_below_drewN (Below.refl _ _) _
  have hm4 := HM3.out.below hb4
  have HKK : Aside0 (Keeps w W4 ws) := ⟨HK3.out.then (Keeps.of_below hb4 ws)⟩
  have HWS : Aside0 (∀ k ∈ ws, k ∈ ws ∨ w.heap.size ≤ k) := ⟨fun k hk => .inl hk⟩
  have hbk4 : W4.heap[gb]? = some (Obj.cells ((b ++ sp).map (Value.int .u8)).toArray 5 (0, 0)) := by rw [← hW4]; exact HBK3.out
  clear hb4 hW4
  have c10' : W4.cell? ⟨gb, 10, none⟩ = some (.int .u8 x10) := by rw [HX10.out]; exact HCF.out _ hbk4 10 (by omega)
  obtain ⟨s2, hs2⟩ : ∃ x : LS, x = { s with acked := hearF s b } := ⟨_, rfl⟩
  rw [← hs2] at hm4
  obtain ⟨mbb, j8, j9, him, hgl4⟩ := waiting hm4 (by rw [hs2]; exact HWT.out)
  have e_parts : s2.parts = s.parts := by rw [hs2]
  have e_many : s2.many = s.many := by rw [hs2]
  rw [e_many] at j8
  have hok4 := hm4.ok
  have HS2 := Aside0.mk hs2; have HM4 := Aside0.mk hm4; have HIM := Aside0.mk him; have HBK4 := Aside0.mk hbk4; have HEP := Aside0.mk e_parts; have HEM := Aside0.mk e_many; have HOK4 := Aside0.mk hok4
  have hlk := him.lookS Tryd.underlying62 Tryd.underlying3 zslice x9
  rw [e_parts] at hlk
  have hmx := H0hmx.out
  have hpg := H0hpg.out
  rw [hmx] at j8
  have HMX := Aside0.mk hmx; clear hmx
  have hnone : pget x9 s2.parts = none := by rw [e_parts]; exact hpg
  have hl2 : ∀ n, (Instr.lookup 62 (.map (some mbb)) (.int .i64 x9) true).run Tryd.prog (W4.drewN n) = .ok (.tuple #[.slice none 0 0, .bool false]) (W4.drewN n) := fun n => (hlk.resolve_right (fun ⟨a, _, h, _⟩ => by rw [e_parts] at hnone; rw [hnone] at h; cases h)).2 true _ rfl
  have HNONE := Aside0.mk hnone
  clear hs2 hm4 him hbk4 e_parts e_many hok4 hlk hnone
  have m1 : decide (x10 = x10) = true := decide_eq_true rfl
  have m3 : (x10 != x10) = false := bne_self_eq_false x10
  go_quiet (fail)
  go_wp2
  generalize hW5 : W4.drewN nq = W5
  have hh5 : W5.heap = W4.heap := by rw [← hW5]; rfl
  have hb5 : Below W4.heap.size W4 W5 := by rw [← hW5]; exact pw_below_drewN (Below.refl _ _) _
  have hm5 := HM4.out.below hb5
  have j95 : W5.cell? ⟨g, 9, none⟩ = some (.map (some mbb)) := (World.cell?_of_block (a := ⟨g, 9, none⟩) (by rw [hh5])).trans j9
  have hbk5 : W5.heap[gb]? = some (Obj.cells ((b ++ sp).map (Value.int .u8)).toArray 5 (0, 0)) := by rw [hh5]; exact HBK4.out
  have him5 : IM .i64 (PartR W5) W5 mbb s2.parts := (HIM.out.same (by rw [hh5])).imp (PartR.same (fun b cs _ => by rw [hh5]))
  obtain ⟨off, hoff, hcut⟩ := cut11 gb L (L + q) h11 hLq
  have hpr : PartR W5 (.slice (some ⟨gb, off, none⟩) (L - 11) (L + q - 11)) (b.drop 11) := part_of hbk5 HLN.out.symm h11 hoff
  obtain ⟨W6, hup, hgr6, him6⟩ := him5.put1 Tryd.underlying62 Tryd.underlying3 x9 HNONE.out _ (b.drop 11) hpr
  have hpp : ∀ y ∈ s2.parts ++ [(x9, b.drop 11)], y.2.length ≤ 200 ∧ ∀ z ∈ y.2, 0 ≤ z ∧ z < 256 := by
    intro y hy
    rcases List.mem_append.1 hy with hy | hy
    · exact HOK4.out.2.2.2.2.2.2.2 y hy
    · obtain rfl := List.mem_singleton.1 hy
      refine ⟨?_, fun z hz => HBR.out z (List.mem_of_mem_drop hz)⟩
      show (b.drop 11).length ≤ 200
      rw [List.length_drop, ← HLN.out]
      have := HSZ.out
      omega
  obtain ⟨hm6, hk6⟩ := more_parts hm5 j95 hgr6 him6 hpp
  have HM6 := Aside0.mk hm6
  have HK6 : Aside0 (Keeps w W6 ws) := ⟨(HKK.out.trans ((Keeps.of_below hb5 ws).then hk6) HWS.out)⟩
  clear hh5 hb5 hm5 hbk5 him5 hpr hgr6 him6 hpp hm6 hk6 hW5 j8 j9 hl2
  go_region
  generalize hW7 : W6.drew = W7
  have hb7 : Below W6.heap.size W6 W7 := by rw [← hW7]; exact below_drew1 (Below.refl _ _)
  have hm7 := HM6.out.below hb7
  obtain ⟨mb7, u8, u9, him7, hgl7⟩ := waiting hm7 (by rw [HS2.out]; exact HWT.out)
  change W7.cell? ⟨g, 8, none⟩ = some (.int .i64 s2.many) at u8
  rw [HEM.out, HMX.out] at u8
  have HM7 := Aside0.mk hm7; have HIM7 := Aside0.mk him7
  have HK7 : Aside0 (Keeps w W7 ws) := ⟨HK6.out.then (Keeps.of_below hb7 ws)⟩
  have hlen : ∀ ty n, (Builtin.len_ #[62] ty #[.map (some mb7)]).run Tryd.prog (W7.drewN n) = .ok (goInt ((s2.parts ++ [(x9, b.drop 11)]).length : Nat)) (W7.drewN n) := fun ty n => HIM7.out.lenS Tryd.underlying62 _ rfl
  clear hm7 him7 hb7 hW7
  have hcnt : ((s2.parts ++ [(x9, b.drop 11)]).length : Int) = (s.parts.length : Int) + 1 := by rw [HEP.out]; simp
  generalize (s2.parts ++ [(x9, b.drop 11)]).length = cnt at hlen hcnt
  have d5 : decide ((cnt : Int) < x10) = true := decide_eq_true (by rw [hcnt]; exact hless)
  clear hcnt hless
  go_wp2
  go_quiet (fail)
  go_wp2
  go_ret3
  exact ⟨_, ws, rfl, RS.nil _ _, by rw [HS2.out] at HM7; exact HM7.out.below (pw_below_drewN (Below.refl _ _) _), HWS.out, HK7.out⟩

set_option maxHeartbeats 8000000 in
set_option maxRecDepth 100000 in
theorem rcv_same_tolda (A : Option Addr) (c : Nat) (d : List Int) (g : Nat) (s : LS) (ws : List Nat) (w : World) (h : LinkM w g s ws) (hC : Kd.C (Kd.int .u8) w A d.length d) (hc : d.length ≤ c) (hd : ∀ x ∈ d, 0 ≤ x ∧ x < 256) (hl : d.length ≤ 140737488351232) (hT : Tab w)
    (b : List Int) (N x9 x10 : Int) (hbe : b = (opF d).1) (hNx : N = rd b 7 * 256 + rd b 8) (hx9 : x9 = rd b 9) (hx10 : x10 = rd b 10) (hbl : b.length ≤ 140737488355328) (h2 : (opF d).2 = true) (h3 : formedF b = true) (hany : s.any = true) (hnw : newerF N s.last = true) (hw : s.waits = true) (hsame : N = s.n) (hmx : s.many = x10) (hpg : pget x9 s.parts = none) (hless : ¬ (s.parts.length : Int) + 1 < x10) : Calls Tryd.prog 13 #[.pointer (some ⟨g, 0, none⟩), .slice A d.length c] w (RcvPost w g ws (tellF { s with acked := hearF s b, parts := s.parts ++ [(x9, b.drop 11)] } N) (outF { s with acked := hearF s b, parts := s.parts ++ [(x9, b.drop 11)] }) true 0) := by
  have HANY := Aside0.mk hany; clear hany
  have HNW := Aside0.mk hnw; clear hnw
  have H0hsame := Aside0.mk hsame; clear hsame
  have H0hmx := Aside0.mk hmx; clear hmx
  have H0hpg := Aside0.mk hpg; clear hpg
  have HWA := Aside0.mk hw; clear hw
  have HX9 := Aside0.mk hx9; have HX10 := Aside0.mk hx10; have HNX := Aside0.mk hNx
  clear hx9 hx10 hNx
  have hbr : ∀ x ∈ b, 0 ≤ x ∧ x < 256 := by rw [hbe]; exact opF_range d hd
  have hO := Open_callsF A c d w hC hc (by omega) hT
  rw [h2, ← hbe] at hO
  obtain ⟨L, hL⟩ : ∃ L, L = b.length := ⟨_, rfl⟩
  rw [← hL] at hbl
  have HLN := Aside0.mk hL; have HBR := Aside0.mk hbr
  clear hbe hL hbr h2 hC hd hc hT
  go_enter Tryd.func13, Tryd.ntmps13
  go_wp2
  refine wp_scope_fwd 1 rfl ?_
  go_wp2_with fail
  ((with_reducible refine hO.mono ?_); rintro e_ W1 ⟨v0, rfl, ⟨sp, ho_⟩, hb_⟩)
  obtain ⟨Ab, hv, hA, _, hcm⟩ := ho_.form
  rw [List.length_append, ← HLN.out] at hv hcm
  subst hv
  have hRR := Kd.R_reads' ho_.R
  rw [← HLN.out] at hRR
  obtain ⟨h11, hm1, hm10, hpm, hsz⟩ := formed_facts h3
  rw [← HLN.out] at h11 hsz
  obtain ⟨gb, hgb, hbk⟩ := hA.resolve_left (fun hn => by
    have h1 := HLN.out
    rw [(List.append_eq_nil_iff.1 hn.2).1] at h1
    simp at h1
    omega)
  subst hgb
  have HBK := Aside0.mk hbk
  generalize hq_ : sp.length = q at hRR hcm ⊢
  clear hq_
  have hF := formed_calls (some ⟨gb, 0, none⟩) L (L + q) b W1 hRR.2.2 hRR.2.1 (fun _ => ⟨gb, rfl⟩) HBR.out hbl
  rw [h3] at hF
  have hgbn := ho_.base gb rfl
  have HL1 := Aside0.mk (h.below hb_); have HB := Aside0.mk hb_; have HH := Aside0.mk h; have HGB := Aside0.mk hgbn
  have HSZ := Aside0.mk hsz; have hLq := hRR.2.1
  clear h hbk ho_ hb_ hO hRR hA h3 hgbn hsz
  go_wp2_with fail
  ((with_reducible refine hF.mono ?_); rintro e_ W2 ⟨rfl, q_, rfl⟩)
  clear hF
  have HL2 := Aside0.mk (HL1.out.below (pw_below_drewN (Below.refl _ _) q_))
  have hcellf : ∀ (W : World), W.heap[gb]? = some (Obj.cells ((b ++ sp).map (Value.int .u8)).toArray 5 (0, 0)) → ∀ i : Nat, i < L → W.cell? ⟨gb, i, none⟩ = some (.int .u8 (rd b (i : Int))) := by
    intro W hW i hi
    have hi' : i < b.length := by have := HLN.out; omega
    rw [blk_cell hW, rd_get' hi']
    simp only [List.getElem?_toArray, List.map_append]
    rw [List.getElem?_append_left (by simpa using hi'), List.getElem?_map, List.getElem?_eq_getElem hi']
    rfl
  have HCF := Aside0.mk hcellf; clear hcellf
  have hh := hear_calls g s ws gb L (L + q) b (W1.drewN q_) HL2.out HLN.out.symm (HCF.out _ HBK.out) h11 HBR.out
  go_wp2_with fail
  ((with_reducible refine hh.mono ?_); rintro e_ W3 ⟨rfl, hm3, hk3⟩)
  clear hh
  have hbk3 := hk3.u8 HL2.out HBK.out
  have HBK3 := Aside0.mk hbk3
  have HK3 : Aside0 (Keeps w W3 ws) := ⟨(Keeps.of_below (pw_below_drewN HB.out q_) ws).then hk3⟩
  have HM3 := Aside0.mk hm3
  have c7 : W3.cell? ⟨gb, 7, none⟩ = some (.int .u8 (rd b 7)) := HCF.out _ hbk3 7 (by omega)
  have c8 : W3.cell? ⟨gb, 8, none⟩ = some (.int .u8 (rd b 8)) := HCF.out _ hbk3 8 (by omega)
  have c9 : W3.cell? ⟨gb, 9, none⟩ = some (.int .u8 (rd b 9)) := HCF.out _ hbk3 9 (by omega)
  have c10 : W3.cell? ⟨gb, 10, none⟩ = some (.int .u8 (rd b 10)) := HCF.out _ hbk3 10 (by omega)
  have rdr : ∀ i : Nat, i < 11 → 0 ≤ rd b (i : Int) ∧ rd b (i : Int) < 256 := fun i hi => rd_mem HBR.out (by omega) (by have := HLN.out; omega)
  have r7 : 0 ≤ rd b 7 ∧ rd b 7 < 256 := rdr 7 (by omega)
  have r8 : 0 ≤ rd b 8 ∧ rd b 8 < 256 := rdr 8 (by omega)
  have r9 : 0 ≤ rd b 9 ∧ rd b 9 < 256 := rdr 9 (by omega)
  have r10 : 0 ≤ rd b 10 ∧ rd b 10 < 256 := rdr 10 (by omega)
  obtain ⟨sv, ma, mp, gs, mb, hg3, hs3, ha3, hp3, hw3, hne3, hws3, hok3⟩ := hm3
  obtain ⟨mo, rfl⟩ : ∃ o, mp = .map o := by
    rcases hp3 with ⟨e, _⟩ | ⟨b', _, e, _⟩
    · exact ⟨_, e⟩
    · exact ⟨_, e⟩
  obtain ⟨_, _, _, k3, k4, _, k6, k7, k8, k9⟩ := lcell hg3
  change W3.cell? ⟨g, 3, none⟩ = some (.bool s.any) at k3
  change W3.cell? ⟨g, 4, none⟩ = some (.int .u16 s.last) at k4
  change W3.cell? ⟨g, 6, none⟩ = some (.bool s.waits) at k6
  change W3.cell? ⟨g, 7, none⟩ = some (.int .u16 s.n) at k7
  change W3.cell? ⟨g, 8, none⟩ = some (.int .i64 s.many) at k8
  have hNe : bits .or .u16 (rd b 7 * 256) (rd b 8) = rd b 7 * 256 + rd b 8 := or_add16 _ _ r7 r8
  have hfz : ∀ j, W3.frozen? ⟨g, j, none⟩ = false := fun j => blk_frozen hg3 j
  have hgl : g < W3.heap.size := (Array.getElem?_eq_some_iff.1 hg3).1
  have hsamea : ∀ (o : Obj) (n : Nat), ((W3.drewN n).alloc o).heap[g]? = W3.heap[g]? := fun o n => (MapKept.heap_alloc (W3.drewN n) o).2 g hgl
  have al : ∀ (o : Obj) (n j : Nat), ((W3.drewN n).alloc o).cell? ⟨g, j, none⟩ = W3.cell? ⟨g, j, none⟩ ∧ ((W3.drewN n).alloc o).frozen? ⟨g, j, none⟩ = W3.frozen? ⟨g, j, none⟩ := fun o n j => ⟨World.cell?_of_block (a := ⟨g, j, none⟩) (hsamea o n), World.frozen?_of_block (a := ⟨g, j, none⟩) (hsamea o n)⟩
  have hok := HH.out.ok
  have HOK := Aside0.mk hok; clear hok
  have HAL := Aside0.mk al
  clear al hsamea hg3 hs3 ha3 hp3 hw3 hne3 hws3 hok3 hbk3 hk3 rdr
  have hx9 := HX9.out; have hx10 := HX10.out; have hNx := HNX.out
  rw [← hNx] at hNe
  have hNr : 0 ≤ N ∧ N < 65536 := by omega
  obtain ⟨x7, hx7⟩ : ∃ x, x = rd b 7 := ⟨_, rfl⟩
  obtain ⟨x8, hx8⟩ : ∃ x, x = rd b 8 := ⟨_, rfl⟩
  rw [← hx7] at c7 r7 hNe; rw [← hx8] at c8 r8 hNe; rw [← hx9] at c9 r9 hpm; rw [← hx10] at c10 r10 hm1 hm10 hpm
  clear hx7 hx8 hx9 hx10 hNx
  have hsame := H0hsame.out
  have n1 : decide (N = s.n) = true := decide_eq_true hsame
  have n2 : (N == s.n) = true := beq_iff_eq.2 hsame
  have n3 : (N != s.n) = false := by rw [hsame]; exact bne_self_eq_false _
  clear hsame
  rw [HWA.out] at k6
  have HWT := Aside0.mk HWA.out
  rw [HANY.out] at k3
  have hnw := HNW.out
  go_wp2
  go_quiet (fail)
  go_wp2_with fail
  ((with_reducible refine (newer_calls _ _ _).mono ?_); rintro e_ Wn ⟨rfl, rfl⟩)
  rw [hnw]
  go_wp2
  generalize hW4 : W3.drewN nq = W4
  have hb4 : Below W3.heap.size W3 W4 := by rw [← hW4]; exact pw_below_drewN (Below.refl _ _) _
  have hm4 := HM3.out.below hb4
  have HKK : Aside0 (Keeps w W4 ws) := ⟨HK3.out.then (Keeps.of_below hb4 ws)⟩
  have HWS : Aside0 (∀ k ∈ ws, k ∈ ws ∨ w.heap.size ≤ k) := ⟨fun k hk => .inl hk⟩
  have hbk4 : W4.heap[gb]? = some (Obj.cells ((b ++ sp).map (Value.int .u8)).toArray 5 (0, 0)) := by rw [← hW4]; exact HBK3.out
  clear hb4 hW4
  have c10' : W4.cell? ⟨gb, 10, none⟩ = some (.int .u8 x10) := by rw [HX10.out]; exact HCF.out _ hbk4 10 (by omega)
  obtain ⟨s2, hs2⟩ : ∃ x : LS, x = { s with acked := hearF s b } := ⟨_, rfl⟩
  rw [← hs2] at hm4
  obtain ⟨mbb, j8, j9, him, hgl4⟩ := waiting hm4 (by rw [hs2]; exact HWT.out)
  have e_parts : s2.parts = s.parts := by rw [hs2]
  have e_many : s2.many = s.many := by rw [hs2]
  rw [e_many] at j8
  have hok4 := hm4.ok
  have HS2 := Aside0.mk hs2; have HM4 := Aside0.mk hm4; have HIM := Aside0.mk him; have HBK4 := Aside0.mk hbk4; have HEP := Aside0.mk e_parts; have HEM := Aside0.mk e_many; have HOK4 := Aside0.mk hok4
  have hlk := him.lookS Tryd.underlying62 Tryd.underlying3 zslice x9
  rw [e_parts] at hlk
  have hmx := H0hmx.out
  have hpg := H0hpg.out
  rw [hmx] at j8
  have HMX := Aside0.mk hmx; clear hmx
  have hnone : pget x9 s2.parts = none := by rw [e_parts]; exact hpg
  have hl2 : ∀ n, (Instr.lookup 62 (.map (some mbb)) (.int .i64 x9) true).run Tryd.prog (W4.drewN n) = .ok (.tuple #[.slice none 0 0, .bool false]) (W4.drewN n) := fun n => (hlk.resolve_right (fun ⟨a, _, h, _⟩ => by rw [e_parts] at hnone; rw [hnone] at h; cases h)).2 true _ rfl
  have HNONE := Aside0.mk hnone
  clear hs2 hm4 him hbk4 e_parts e_many hok4 hlk hnone
  have m1 : decide (x10 = x10) = true := decide_eq_true rfl
  have m3 : (x10 != x10) = false := bne_self_eq_false x10
  go_quiet (fail)
  go_wp2
  generalize hW5 : W4.drewN nq = W5
  have hh5 : W5.heap = W4.heap := by rw [← hW5]; rfl
  have hb5 : Below W4.heap.size W4 W5 := by rw [← hW5]; exact pw_below_drewN (Below.refl _ _) _
  have hm5 := HM4.out.below hb5
  have j95 : W5.cell? ⟨g, 9, none⟩ = some (.map (some mbb)) := (World.cell?_of_block (a := ⟨g, 9, none⟩) (by rw [hh5])).trans j9
  have hbk5 : W5.heap[gb]? = some (Obj.cells ((b ++ sp).map (Value.int .u8)).toArray 5 (0, 0)) := by rw [hh5]; exact HBK4.out
  have him5 : IM .i64 (PartR W5) W5 mbb s2.parts := (HIM.out.same (by rw [hh5])).imp (PartR.same (fun b cs _ => by rw [hh5]))
  obtain ⟨off, hoff, hcut⟩ := cut11 gb L (L + q) h11 hLq
  have hpr : PartR W5 (.slice (some ⟨gb, off, none⟩) (L - 11) (L + q - 11)) (b.drop 11) := part_of hbk5 HLN.out.symm h11 hoff
  obtain ⟨W6, hup, hgr6, him6⟩ := him5.put1 Tryd.underlying62 Tryd.underlying3 x9 HNONE.out _ (b.drop 11) hpr
  have hpp : ∀ y ∈ s2.parts ++ [(x9, b.drop 11)], y.2.length ≤ 200 ∧ ∀ z ∈ y.2, 0 ≤ z ∧ z < 256 := by
    intro y hy
    rcases List.mem_append.1 hy with hy | hy
    · exact HOK4.out.2.2.2.2.2.2.2 y hy
    · obtain rfl := List.mem_singleton.1 hy
      refine ⟨?_, fun z hz => HBR.out z (List.mem_of_mem_drop hz)⟩
      show (b.drop 11).length ≤ 200
      rw [List.length_drop, ← HLN.out]
      have := HSZ.out
      omega
  obtain ⟨hm6, hk6⟩ := more_parts hm5 j95 hgr6 him6 hpp
  have HM6 := Aside0.mk hm6
  have HK6 : Aside0 (Keeps w W6 ws) := ⟨(HKK.out.trans ((Keeps.of_below hb5 ws).then hk6) HWS.out)⟩
  clear hh5 hb5 hm5 hbk5 him5 hpr hgr6 him6 hpp hm6 hk6 hW5 j8 j9 hl2
  go_region
  generalize hW7 : W6.drew = W7
  have hb7 : Below W6.heap.size W6 W7 := by rw [← hW7]; exact below_drew1 (Below.refl _ _)
  have hm7 := HM6.out.below hb7
  obtain ⟨mb7, u8, u9, him7, hgl7⟩ := waiting hm7 (by rw [HS2.out]; exact HWT.out)
  change W7.cell? ⟨g, 8, none⟩ = some (.int .i64 s2.many) at u8
  rw [HEM.out, HMX.out] at u8
  have HM7 := Aside0.mk hm7; have HIM7 := Aside0.mk him7
  have HK7 : Aside0 (Keeps w W7 ws) := ⟨HK6.out.then (Keeps.of_below hb7 ws)⟩
  have hlen : ∀ ty n, (Builtin.len_ #[62] ty #[.map (some mb7)]).run Tryd.prog (W7.drewN n) = .ok (goInt ((s2.parts ++ [(x9, b.drop 11)]).length : Nat)) (W7.drewN n) := fun ty n => HIM7.out.lenS Tryd.underlying62 _ rfl
  clear hm7 him7 hb7 hW7
  have hcnt : ((s2.parts ++ [(x9, b.drop 11)]).length : Int) = (s.parts.length : Int) + 1 := by rw [HEP.out]; simp
  generalize (s2.parts ++ [(x9, b.drop 11)]).length = cnt at hlen hcnt
  have d5 : decide ((cnt : Int) < x10) = false := decide_eq_false (by rw [hcnt]; omega)
  clear hcnt hless
  go_wp2
  go_quiet (fail)
  go_wp2
  generalize hW8 : W7.drewN nq = W8
  have hb8 : Below W7.heap.size W7 W8 := by rw [← hW8]; exact pw_below_drewN (Below.refl _ _) _
  have hm8 := HM7.out.below hb8
  have hs3 : ({ s2 with parts := s2.parts ++ [(x9, b.drop 11)] } : LS) = { s with acked := hearF s b, parts := s.parts ++ [(x9, b.drop 11)] } := by rw [HS2.out]; first | done | rfl
  rw [hs3] at hm8
  have HM8 := Aside0.mk hm8
  have HK8 : Aside0 (Keeps w W8 ws) := ⟨HK7.out.then (Keeps.of_below hb8 ws)⟩
  have him8 : IM .i64 (PartR W8) W8 mb7 (s2.parts ++ [(x9, b.drop 11)]) := (HIM7.out.same (by rw [← hW8]; rfl)).imp (PartR.same (fun b cs _ => by rw [← hW8]; rfl))
  have y9 : W8.cell? ⟨g, 9, none⟩ = some (.map (some mb7)) := by rw [← hW8]; exact u9
  have hP : s2.parts ++ [(x9, b.drop 11)] = s.parts ++ [(x9, b.drop 11)] := by rw [HS2.out]; first | done | rfl
  rw [hP] at him8
  have HIM8 := Aside0.mk him8
  have hgl8 : g < W8.heap.size := HM8.out.g_in.2
  have hpl : ∀ (j : Nat), (((pget (j : Int) (s.parts ++ [(x9, b.drop 11)])).getD []).length ≤ 200) := by
    intro j
    cases hj : pget (j : Int) (s.parts ++ [(x9, b.drop 11)]) with
    | none => simp
    | some a => exact (HM8.out.ok.2.2.2.2.2.2.2 _ (pget_mem hj)).1
  generalize hPP : (s.parts ++ [(x9, b.drop 11)] : List (Int × List Int)) = P at HIM8 hpl
  have HPL := Aside0.mk hpl; have HPP := Aside0.mk hPP; have HGL8 := Aside0.mk hgl8
  clear hm8 hs3 him8 hP hpl hPP hgl8 hb8 hW8 u8 u9 hlen
  go_loopw [9, 141] (fun v vi wr => ∃ i : Int, vi = .int .i64 i ∧ 0 ≤ i ∧ i ≤ x10 ∧ Aside0 (RS W8.heap.size wr v ((List.range i.toNat).flatMap (fun j : Nat => (pget (j : Int) P).getD []))) ∧ Aside0 (Below W8.heap.size W8 wr)) (fun _ vi _ => (x10 - intOf vi).toNat)
  case atStart => exact ⟨0, rfl, by omega, by omega, ⟨RS.nil _ _⟩, ⟨Below.refl _ _⟩⟩
  case round =>
    obtain ⟨i, rfl, hi0, hi1, HO, HBW⟩ := hrel
    by_cases hx : i < x10
    · have dx : decide (i < x10) = true := decide_eq_true hx
      have y9w : wr.cell? ⟨g, 9, none⟩ = some (.map (some mb7)) := (HBW.out.cell (p := ⟨g, 9, none⟩) HGL8.out).trans y9
      have hsm : wr.heap[mb7]? = W8.heap[mb7]? := HBW.out.block _ HIM8.out.lt
      have hsucc := flat_succ P i hi0
      have hfl := flat_len HPL.out i.toNat
      generalize (List.range i.toNat).flatMap (fun j : Nat => (pget (j : Int) P).getD []) = acc at HO hsucc hfl
      have HSU := Aside0.mk hsucc; have HFL := Aside0.mk hfl
      clear hsucc hfl
      rcases HIM8.out.lookS Tryd.underlying62 Tryd.underlying3 zslice i with ⟨hg1, hl⟩ | ⟨a, v2, hg1, hv2, hl⟩
      · have hl0 := hl false wr hsm
        have HG1 := Aside0.mk hg1
        clear hl hg1 hsm
        go_wp2_with (first | ((with_reducible refine gate_builtin (b := .append) (xs := #[.tmp 144, .tmp 150]) rfl ?_); at_builtin; obtain ⟨sp0, ho_⟩ := HO.out; refine wp_rf_rows (w0 := W8) W8.heap.size rfl (.tmp 144) (.tmp 150) rfl _ acc sp0 [] _ _ _ rfl rfl ho_ (Kd.C_nil _ _) HBW.out (below_size HBW.out) (by have := HFL.out; omega) ?_; intro v1 w1 sp1 ho hb hg; have HO1 : Aside0 (RS W8.heap.size w1 v1 _) := Aside0.mk ⟨sp1, ho⟩; clear HBW; have HBW := Aside0.mk hb; clear ho_ ho hb hg))
        exact ⟨⟨i + 1, rfl, by omega, by omega, ⟨by rw [HSU.out, HG1.out]; exact HO1.out⟩, HBW⟩, by simp only [intOf]; omega⟩
      · have hl0 := hl false wr hsm
        have hal : a.length ≤ 200 := by have := HPL.out i.toNat; rw [Int.toNat_of_nonneg hi0, hg1] at this; exact this
        obtain ⟨A2, c2, rfl, hC2⟩ := (PartR.same (fun b cs hb => HBW.out.block b (Array.getElem?_eq_some_iff.1 hb).1) _ _ hv2 : PartR wr v2 a).C (by omega)
        have HG1 := Aside0.mk hg1; have HC2 := Aside0.mk hC2
        clear hl hg1 hsm hv2 hC2
        go_wp2_with (first | ((with_reducible refine gate_builtin (b := .append) (xs := #[.tmp 144, .tmp 150]) rfl ?_); at_builtin; obtain ⟨sp0, ho_⟩ := HO.out; refine wp_rf_rows (w0 := W8) W8.heap.size rfl (.tmp 144) (.tmp 150) rfl _ acc sp0 a _ _ _ rfl rfl ho_ HC2.out HBW.out (below_size HBW.out) (by have := HFL.out; omega) ?_; intro v1 w1 sp1 ho hb hg; have HO1 : Aside0 (RS W8.heap.size w1 v1 _) := Aside0.mk ⟨sp1, ho⟩; clear HBW; have HBW := Aside0.mk hb; clear ho_ ho hb hg))
        exact ⟨⟨i + 1, rfl, by omega, by omega, ⟨by rw [HSU.out, HG1.out]; exact HO1.out⟩, HBW⟩, by simp only [intOf]; omega⟩
    · have dx : decide (i < x10) = false := decide_eq_false hx
      have hie : i = x10 := by omega
      rw [hie] at HO
      clear hx dx hi0 hi1
      have hm9 := HM8.out.below HBW.out
      have ht := tell_calls g _ ws N wr hm9 hNr (by intro _; have := tell_gap HNW.out; exact this)
      have HO9 := Aside0.mk HO.out
      go_wp2_with fail
      ((with_reducible refine ht.mono ?_); rintro e_ W9 ⟨rfl, hm10', hgr9⟩)
      clear ht
      go_wp2
      go_ret3
      refine ⟨_, ws, rfl, ?_, hm10', HWS.out, ?_⟩
      · have hout : outF { s with acked := hearF s b, parts := s.parts ++ [(x9, b.drop 11)] } = (List.range x10.toNat).flatMap (fun j : Nat => (pget (j : Int) P).getD []) := by rw [← HPP.out]; unfold outF; rw [HMX.out]
        rw [hout]
        refine (HO9.out.lower (Keeps.then HK8.out (Keeps.refl _ _)).2.2.2.1).move (fun b hb hlt => hgr9.block b hlt (fun e => ?_))
        injection e with e
        have h1 := (HO9.out.own b hb).1
        have h2 := HGL8.out
        omega
      · exact (HK8.out.then (Keeps.of_below HBW.out ws)).trans (Keeps.of_grown hgr9 hm9.g_in.1) HWS.out

end Go.Proofs.YtbdocgddidcfeaaDoor
