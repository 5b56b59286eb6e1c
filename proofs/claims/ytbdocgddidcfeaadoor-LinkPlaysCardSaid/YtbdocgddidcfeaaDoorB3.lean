/- Taken together by a program of mine: what the proof names, out of the texts of this seat (its words as the print wrote them), part 3. -/
import Derived.Test.YtbdocgddidcfeaaDoorB2
import Derived.Deep.DeepCutAuto
import Derived.Deep.CutBlock
import Derived.Deep.CutRange
import Derived.Deep.Cut
import Derived.SizedLaws
import Derived.Deep.Slices
namespace Go.Proofs.YtbdocgddidcfeaaDoor
open Go.RowKit Go.Proofs.YtbdocgddidcfeaaDoorW.PrintWords Go.Proofs.YtbdocgddidcfeaaDoorW.PrintLast Go.Proofs.YtbdocgddidcfeaaDoorW.PrintMore
set_option linter.unusedVariables false
set_option linter.unusedSimpArgs false
set_option maxHeartbeats 8000000 in
set_option maxRecDepth 100000 in
theorem rcv_same_wrong [Inhabited OkB] (A : Option Addr) (c : Nat) (d : List Int) (g : Nat) (s : LS) (ws : List Nat) (w : World) (h : LinkM w g s ws) (hC : Kd.C (Kd.int .u8) w A d.length d) (hc : d.length ≤ c) (hd : ∀ x ∈ d, 0 ≤ x ∧ x < 256) (hl : d.length ≤ 140737488351232) (hT : Tab w) (hokb : ∀ k, w.heap.size ≤ k → (default : OkB).ok k)
    (b : List Int) (N x9 x10 : Int) (hbe : b = (opF d).1) (hNx : N = rd b 7 * 256 + rd b 8) (hx9 : x9 = rd b 9) (hx10 : x10 = rd b 10) (hbl : b.length ≤ 140737488355328) (h2 : (opF d).2 = true) (h3 : formedF b = true) (hany : s.any = false) (hw : s.waits = true) (hsame : N = s.n) (hmx : s.many ≠ x10) : Calls Tryd.prog 13 #[.pointer (some ⟨g, 0, none⟩), .slice A d.length c] w (RcvPost w g ws { s with acked := hearF s b } [] false 70) := by
  have HANY := Aside0.mk hany; clear hany
  have H0hsame := Aside0.mk hsame; clear hsame
  have H0hmx := Aside0.mk hmx; clear hmx
  have HWA := Aside0.mk hw; clear hw
  have HOKB := Aside0.mk hokb; clear hokb
  have HX9 := Aside0.mk hx9; have HX10 := Aside0.mk hx10; have HNX := Aside0.mk hNx
  clear hx9 hx10 hNx
  have hbr : ∀ x ∈ b, 0 ≤ x ∧ x < 256 := by rw [hbe]; exact opF_range d hd
  have hO := Open_callsF A c d w hC hc (by omega) hT
  rw [h2, ← hbe] at hO
  obtain ⟨L, hL⟩ : ∃ L, L = b.length := ⟨_, rfl⟩
  rw [← hL] at hbl
  have HLN := Aside0.mk hL; have HBR := Aside0.mk hbr
  clear hbe hL hbr h2 hC hd hc hT
  go_enter Tryd.func13, Tryd.ntmps13
  go_wp2
  refine wp_scope_fwd 0 rfl ?_
  go_wp2_with fail
  ((with_reducible refine hO.mono ?_); rintro e_ W1 ⟨v0, rfl, ⟨sp, ho_⟩, hb_⟩)
  obtain ⟨Ab, hv, hA, _, hcm⟩ := ho_.form
  rw [List.length_append, ← HLN.out] at hv hcm
  subst hv
  have hRR := Kd.R_reads' ho_.R
  rw [← HLN.out] at hRR
  obtain ⟨h11, hm1, hm10, hpm, hsz⟩ := formed_facts h3
  rw [← HLN.out] at h11 hsz
  obtain ⟨gb, hgb, hbk⟩ := hA.resolve_left (fun hn => by
    have h1 := HLN.out
    rw [(List.append_eq_nil_iff.1 hn.2).1] at h1
    simp at h1
    omega)
  subst hgb
  have HBK := Aside0.mk hbk
  generalize hq_ : sp.length = q at hRR hcm ⊢
  clear hq_
  have hF := formed_calls (some ⟨gb, 0, none⟩) L (L + q) b W1 hRR.2.2 hRR.2.1 (fun _ => ⟨gb, rfl⟩) HBR.out hbl
  rw [h3] at hF
  have hgbn := ho_.base gb rfl
  have HL1 := Aside0.mk (h.below hb_); have HB := Aside0.mk hb_; have HH := Aside0.mk h; have HGB := Aside0.mk hgbn
  have HSZ := Aside0.mk hsz; have hLq := hRR.2.1
  clear h hbk ho_ hb_ hO hRR hA h3 hgbn hsz
  go_wp2_with fail
  ((with_reducible refine hF.mono ?_); rintro e_ W2 ⟨rfl, q_, rfl⟩)
  clear hF
  have HL2 := Aside0.mk (HL1.out.below (pw_below_drewN (Below.refl _ _) q_))
  have hcellf : ∀ (W : World), W.heap[gb]? = some (Obj.cells ((b ++ sp).map (Value.int .u8)).toArray 5 (0, 0)) → ∀ i : Nat, i < L → W.cell? ⟨gb, i, none⟩ = some (.int .u8 (rd b (i : Int))) := by
    intro W hW i hi
    have hi' : i < b.length := by have := HLN.out; omega
    rw [blk_cell hW, rd_get' hi']
    simp only [List.getElem?_toArray, List.map_append]
    rw [List.getElem?_append_left (by simpa using hi'), List.getElem?_map, List.getElem?_eq_getElem hi']
    rfl
  have HCF := Aside0.mk hcellf; clear hcellf
  have hh := hear_calls g s ws gb L (L + q) b (W1.drewN q_) HL2.out HLN.out.symm (HCF.out _ HBK.out) h11 HBR.out
  go_wp2_with fail
  ((with_reducible refine hh.mono ?_); rintro e_ W3 ⟨rfl, hm3, hk3⟩)
  clear hh
  have hbk3 := hk3.u8 HL2.out HBK.out
  have HBK3 := Aside0.mk hbk3
  have HK3 : Aside0 (Keeps w W3 ws) := ⟨(Keeps.of_below (pw_below_drewN HB.out q_) ws).then hk3⟩
  have HM3 := Aside0.mk hm3
  have c7 : W3.cell? ⟨gb, 7, none⟩ = some (.int .u8 (rd b 7)) := HCF.out _ hbk3 7 (by omega)
  have c8 : W3.cell? ⟨gb, 8, none⟩ = some (.int .u8 (rd b 8)) := HCF.out _ hbk3 8 (by omega)
  have c9 : W3.cell? ⟨gb, 9, none⟩ = some (.int .u8 (rd b 9)) := HCF.out _ hbk3 9 (by omega)
  have c10 : W3.cell? ⟨gb, 10, none⟩ = some (.int .u8 (rd b 10)) := HCF.out _ hbk3 10 (by omega)
  have rdr : ∀ i : Nat, i < 11 → 0 ≤ rd b (i : Int) ∧ rd b (i : Int) < 256 := fun i hi => rd_mem HBR.out (by omega) (by have := HLN.out; omega)
  have r7 : 0 ≤ rd b 7 ∧ rd b 7 < 256 := rdr 7 (by omega)
  have r8 : 0 ≤ rd b 8 ∧ rd b 8 < 256 := rdr 8 (by omega)
  have r9 : 0 ≤ rd b 9 ∧ rd b 9 < 256 := rdr 9 (by omega)
  have r10 : 0 ≤ rd b 10 ∧ rd b 10 < 256 := rdr 10 (by omega)
  obtain ⟨sv, ma, mp, gs, mb, hg3, hs3, ha3, hp3, hw3, hne3, hws3, hok3⟩ := hm3
  obtain ⟨mo, rfl⟩ : ∃ o, mp = .map o := by
    rcases hp3 with ⟨e, _⟩ | ⟨b', _, e, _⟩
    · exact ⟨_, e⟩
    · exact ⟨_, e⟩
  obtain ⟨_, _, _, k3, k4, _, k6, k7, k8, k9⟩ := lcell hg3
  change W3.cell? ⟨g, 3, none⟩ = some (.bool s.any) at k3
  change W3.cell? ⟨g, 4, none⟩ = some (.int .u16 s.last) at k4
  change W3.cell? ⟨g, 6, none⟩ = some (.bool s.waits) at k6
  change W3.cell? ⟨g, 7, none⟩ = some (.int .u16 s.n) at k7
  change W3.cell? ⟨g, 8, none⟩ = some (.int .i64 s.many) at k8
  have hNe : bits .or .u16 (rd b 7 * 256) (rd b 8) = rd b 7 * 256 + rd b 8 := or_add16 _ _ r7 r8
  have hfz : ∀ j, W3.frozen? ⟨g, j, none⟩ = false := fun j => blk_frozen hg3 j
  have hgl : g < W3.heap.size := (Array.getElem?_eq_some_iff.1 hg3).1
  have hsamea : ∀ (o : Obj) (n : Nat), ((W3.drewN n).alloc o).heap[g]? = W3.heap[g]? := fun o n => (MapKept.heap_alloc (W3.drewN n) o).2 g hgl
  have al : ∀ (o : Obj) (n j : Nat), ((W3.drewN n).alloc o).cell? ⟨g, j, none⟩ = W3.cell? ⟨g, j, none⟩ ∧ ((W3.drewN n).alloc o).frozen? ⟨g, j, none⟩ = W3.frozen? ⟨g, j, none⟩ := fun o n j => ⟨World.cell?_of_block (a := ⟨g, j, none⟩) (hsamea o n), World.frozen?_of_block (a := ⟨g, j, none⟩) (hsamea o n)⟩
  have hok := HH.out.ok
  have HOK := Aside0.mk hok; clear hok
  have HAL := Aside0.mk al
  clear al hsamea hg3 hs3 ha3 hp3 hw3 hne3 hws3 hok3 hbk3 hk3 rdr
  have hx9 := HX9.out; have hx10 := HX10.out; have hNx := HNX.out
  rw [← hNx] at hNe
  have hNr : 0 ≤ N ∧ N < 65536 := by omega
  obtain ⟨x7, hx7⟩ : ∃ x, x = rd b 7 := ⟨_, rfl⟩
  obtain ⟨x8, hx8⟩ : ∃ x, x = rd b 8 := ⟨_, rfl⟩
  rw [← hx7] at c7 r7 hNe; rw [← hx8] at c8 r8 hNe; rw [← hx9] at c9 r9 hpm; rw [← hx10] at c10 r10 hm1 hm10 hpm
  clear hx7 hx8 hx9 hx10 hNx
  have hsame := H0hsame.out
  have n1 : decide (N = s.n) = true := decide_eq_true hsame
  have n2 : (N == s.n) = true := beq_iff_eq.2 hsame
  have n3 : (N != s.n) = false := by rw [hsame]; exact bne_self_eq_false _
  clear hsame
  rw [HWA.out] at k6
  have HWT := Aside0.mk HWA.out
  rw [HANY.out] at k3
  go_wp2
  go_quiet (fail)
  go_wp2
  generalize hW4 : W3.drewN nq = W4
  have hb4 : Below W3.heap.size W3 W4 := by rw [← hW4]; exact pw_below_drewN (Below.refl _ _) _
  have hm4 := HM3.out.below hb4
  have HKK : Aside0 (Keeps w W4 ws) := ⟨HK3.out.then (Keeps.of_below hb4 ws)⟩
  have HWS : Aside0 (∀ k ∈ ws, k ∈ ws ∨ w.heap.size ≤ k) := ⟨fun k hk => .inl hk⟩
  have hbk4 : W4.heap[gb]? = some (Obj.cells ((b ++ sp).map (Value.int .u8)).toArray 5 (0, 0)) := by rw [← hW4]; exact HBK3.out
  clear hb4 hW4
  have c10' : W4.cell? ⟨gb, 10, none⟩ = some (.int .u8 x10) := by rw [HX10.out]; exact HCF.out _ hbk4 10 (by omega)
  obtain ⟨s2, hs2⟩ : ∃ x : LS, x = { s with acked := hearF s b } := ⟨_, rfl⟩
  rw [← hs2] at hm4
  obtain ⟨mbb, j8, j9, him, hgl4⟩ := waiting hm4 (by rw [hs2]; exact HWT.out)
  have e_parts : s2.parts = s.parts := by rw [hs2]
  have e_many : s2.many = s.many := by rw [hs2]
  rw [e_many] at j8
  have hok4 := hm4.ok
  have HS2 := Aside0.mk hs2; have HM4 := Aside0.mk hm4; have HIM := Aside0.mk him; have HBK4 := Aside0.mk hbk4; have HEP := Aside0.mk e_parts; have HEM := Aside0.mk e_many; have HOK4 := Aside0.mk hok4
  have hlk := him.lookS Tryd.underlying62 Tryd.underlying3 zslice x9
  rw [e_parts] at hlk
  have hmx := H0hmx.out
  clear hs2 hm4 him hbk4 e_parts e_many hok4 hlk
  have m1 : decide (s.many = x10) = false := decide_eq_false hmx
  have m2 : (s.many == x10) = false := beq_eq_false_iff_ne.2 hmx
  have m3 : (s.many != x10) = true := bne_iff_ne.2 hmx
  go_quiet (fail)
  go_wp2
  go_step3
  refine ⟨rfl, ?_⟩
  go_wp2
  (try simp only [Exit.jump])
  go_ret3
  exact ⟨_, ws, rfl, RS.nil _ _, by rw [← HS2.out]; exact HM4.out.below (pw_below_drewN (Below.refl _ _) _), fun k hk => .inl hk, HKK.out⟩
set_option maxHeartbeats 8000000 in
set_option maxRecDepth 100000 in
theorem rcv_same_stale [Inhabited OkB] (A : Option Addr) (c : Nat) (d : List Int) (g : Nat) (s : LS) (ws : List Nat) (w : World) (h : LinkM w g s ws) (hC : Kd.C (Kd.int .u8) w A d.length d) (hc : d.length ≤ c) (hd : ∀ x ∈ d, 0 ≤ x ∧ x < 256) (hl : d.length ≤ 140737488351232) (hT : Tab w) (hokb : ∀ k, w.heap.size ≤ k → (default : OkB).ok k)
    (b : List Int) (N x9 x10 : Int) (hbe : b = (opF d).1) (hNx : N = rd b 7 * 256 + rd b 8) (hx9 : x9 = rd b 9) (hx10 : x10 = rd b 10) (hbl : b.length ≤ 140737488355328) (h2 : (opF d).2 = true) (h3 : formedF b = true) (hany : s.any = false) (hw : s.waits = true) (hsame : N = s.n) (hmx : s.many = x10) (hpg : (pget x9 s.parts).isSome = true) : Calls Tryd.prog 13 #[.pointer (some ⟨g, 0, none⟩), .slice A d.length c] w (RcvPost w g ws { s with acked := hearF s b } [] false 71) := by
  have HANY := Aside0.mk hany; clear hany
  have H0hsame := Aside0.mk hsame; clear hsame
  have H0hmx := Aside0.mk hmx; clear hmx
  have H0hpg := Aside0.mk hpg; clear hpg
  have HWA := Aside0.mk hw; clear hw
  have HOKB := Aside0.mk hokb; clear hokb
  have HX9 := Aside0.mk hx9; have HX10 := Aside0.mk hx10; have HNX := Aside0.mk hNx
  clear hx9 hx10 hNx
  have hbr : ∀ x ∈ b, 0 ≤ x ∧ x < 256 := by rw [hbe]; exact opF_range d hd
  have hO := Open_callsF A c d w hC hc (by omega) hT
  rw [h2, ← hbe] at hO
  obtain ⟨L, hL⟩ : ∃ L, L = b.length := ⟨_, rfl⟩
  rw [← hL] at hbl
  have HLN := Aside0.mk hL; have HBR := Aside0.mk hbr
  clear hbe hL hbr h2 hC hd hc hT
  go_enter Tryd.func13, Tryd.ntmps13
  go_wp2
  refine wp_scope_fwd 1 rfl ?_
  go_wp2_with fail
  ((with_reducible refine hO.mono ?_); rintro e_ W1 ⟨v0, rfl, ⟨sp, ho_⟩, hb_⟩)
  obtain ⟨Ab, hv, hA, _, hcm⟩ := ho_.form
  rw [List.length_append, ← HLN.out] at hv hcm
  subst hv
  have hRR := Kd.R_reads' ho_.R
  rw [← HLN.out] at hRR
  obtain ⟨h11, hm1, hm10, hpm, hsz⟩ := formed_facts h3
  rw [← HLN.out] at h11 hsz
  obtain ⟨gb, hgb, hbk⟩ := hA.resolve_left (fun hn => by
    have h1 := HLN.out
    rw [(List.append_eq_nil_iff.1 hn.2).1] at h1
    simp at h1
    omega)
  subst hgb
  have HBK := Aside0.mk hbk
  generalize hq_ : sp.length = q at hRR hcm ⊢
  clear hq_
  have hF := formed_calls (some ⟨gb, 0, none⟩) L (L + q) b W1 hRR.2.2 hRR.2.1 (fun _ => ⟨gb, rfl⟩) HBR.out hbl
  rw [h3] at hF
  have hgbn := ho_.base gb rfl
  have HL1 := Aside0.mk (h.below hb_); have HB := Aside0.mk hb_; have HH := Aside0.mk h; have HGB := Aside0.mk hgbn
  have HSZ := Aside0.mk hsz; have hLq := hRR.2.1
  clear h hbk ho_ hb_ hO hRR hA h3 hgbn hsz
  go_wp2_with fail
  ((with_reducible refine hF.mono ?_); rintro e_ W2 ⟨rfl, q_, rfl⟩)
  clear hF
  have HL2 := Aside0.mk (HL1.out.below (pw_below_drewN (Below.refl _ _) q_))
  have hcellf : ∀ (W : World), W.heap[gb]? = some (Obj.cells ((b ++ sp).map (Value.int .u8)).toArray 5 (0, 0)) → ∀ i : Nat, i < L → W.cell? ⟨gb, i, none⟩ = some (.int .u8 (rd b (i : Int))) := by
    intro W hW i hi
    have hi' : i < b.length := by have := HLN.out; omega
    rw [blk_cell hW, rd_get' hi']
    simp only [List.getElem?_toArray, List.map_append]
    rw [List.getElem?_append_left (by simpa using hi'), List.getElem?_map, List.getElem?_eq_getElem hi']
    rfl
  have HCF := Aside0.mk hcellf; clear hcellf
  have hh := hear_calls g s ws gb L (L + q) b (W1.drewN q_) HL2.out HLN.out.symm (HCF.out _ HBK.out) h11 HBR.out
  go_wp2_with fail
  ((with_reducible refine hh.mono ?_); rintro e_ W3 ⟨rfl, hm3, hk3⟩)
  clear hh
  have hbk3 := hk3.u8 HL2.out HBK.out
  have HBK3 := Aside0.mk hbk3
  have HK3 : Aside0 (Keeps w W3 ws) := ⟨(Keeps.of_below (pw_below_drewN HB.out q_) ws).then hk3⟩
  have HM3 := Aside0.mk hm3
  have c7 : W3.cell? ⟨gb, 7, none⟩ = some (.int .u8 (rd b 7)) := HCF.out _ hbk3 7 (by omega)
  have c8 : W3.cell? ⟨gb, 8, none⟩ = some (.int .u8 (rd b 8)) := HCF.out _ hbk3 8 (by omega)
  have c9 : W3.cell? ⟨gb, 9, none⟩ = some (.int .u8 (rd b 9)) := HCF.out _ hbk3 9 (by omega)
  have c10 : W3.cell? ⟨gb, 10, none⟩ = some (.int .u8 (rd b 10)) := HCF.out _ hbk3 10 (by omega)
  have rdr : ∀ i : Nat, i < 11 → 0 ≤ rd b (i : Int) ∧ rd b (i : Int) < 256 := fun i hi => rd_mem HBR.out (by omega) (by have := HLN.out; omega)
  have r7 : 0 ≤ rd b 7 ∧ rd b 7 < 256 := rdr 7 (by omega)
  have r8 : 0 ≤ rd b 8 ∧ rd b 8 < 256 := rdr 8 (by omega)
  have r9 : 0 ≤ rd b 9 ∧ rd b 9 < 256 := rdr 9 (by omega)
  have r10 : 0 ≤ rd b 10 ∧ rd b 10 < 256 := rdr 10 (by omega)
  obtain ⟨sv, ma, mp, gs, mb, hg3, hs3, ha3, hp3, hw3, hne3, hws3, hok3⟩ := hm3
  obtain ⟨mo, rfl⟩ : ∃ o, mp = .map o := by
    rcases hp3 with ⟨e, _⟩ | ⟨b', _, e, _⟩
    · exact ⟨_, e⟩
    · exact ⟨_, e⟩
  obtain ⟨_, _, _, k3, k4, _, k6, k7, k8, k9⟩ := lcell hg3
  change W3.cell? ⟨g, 3, none⟩ = some (.bool s.any) at k3
  change W3.cell? ⟨g, 4, none⟩ = some (.int .u16 s.last) at k4
  change W3.cell? ⟨g, 6, none⟩ = some (.bool s.waits) at k6
  change W3.cell? ⟨g, 7, none⟩ = some (.int .u16 s.n) at k7
  change W3.cell? ⟨g, 8, none⟩ = some (.int .i64 s.many) at k8
  have hNe : bits .or .u16 (rd b 7 * 256) (rd b 8) = rd b 7 * 256 + rd b 8 := or_add16 _ _ r7 r8
  have hfz : ∀ j, W3.frozen? ⟨g, j, none⟩ = false := fun j => blk_frozen hg3 j
  have hgl : g < W3.heap.size := (Array.getElem?_eq_some_iff.1 hg3).1
  have hsamea : ∀ (o : Obj) (n : Nat), ((W3.drewN n).alloc o).heap[g]? = W3.heap[g]? := fun o n => (MapKept.heap_alloc (W3.drewN n) o).2 g hgl
  have al : ∀ (o : Obj) (n j : Nat), ((W3.drewN n).alloc o).cell? ⟨g, j, none⟩ = W3.cell? ⟨g, j, none⟩ ∧ ((W3.drewN n).alloc o).frozen? ⟨g, j, none⟩ = W3.frozen? ⟨g, j, none⟩ := fun o n j => ⟨World.cell?_of_block (a := ⟨g, j, none⟩) (hsamea o n), World.frozen?_of_block (a := ⟨g, j, none⟩) (hsamea o n)⟩
  have hok := HH.out.ok
  have HOK := Aside0.mk hok; clear hok
  have HAL := Aside0.mk al
  clear al hsamea hg3 hs3 ha3 hp3 hw3 hne3 hws3 hok3 hbk3 hk3 rdr
  have hx9 := HX9.out; have hx10 := HX10.out; have hNx := HNX.out
  rw [← hNx] at hNe
  have hNr : 0 ≤ N ∧ N < 65536 := by omega
  obtain ⟨x7, hx7⟩ : ∃ x, x = rd b 7 := ⟨_, rfl⟩
  obtain ⟨x8, hx8⟩ : ∃ x, x = rd b 8 := ⟨_, rfl⟩
  rw [← hx7] at c7 r7 hNe; rw [← hx8] at c8 r8 hNe; rw [← hx9] at c9 r9 hpm; rw [← hx10] at c10 r10 hm1 hm10 hpm
  clear hx7 hx8 hx9 hx10 hNx
  have hsame := H0hsame.out
  have n1 : decide (N = s.n) = true := decide_eq_true hsame
  have n2 : (N == s.n) = true := beq_iff_eq.2 hsame
  have n3 : (N != s.n) = false := by rw [hsame]; exact bne_self_eq_false _
  clear hsame
  rw [HWA.out] at k6
  have HWT := Aside0.mk HWA.out
  rw [HANY.out] at k3
  go_wp2
  go_quiet (fail)
  go_wp2
  generalize hW4 : W3.drewN nq = W4
  have hb4 : Below W3.heap.size W3 W4 := by rw [← hW4]; exact pw_below_drewN (Below.refl _ _) _
  have hm4 := HM3.out.below hb4
  have HKK : Aside0 (Keeps w W4 ws) := ⟨HK3.out.then (Keeps.of_below hb4 ws)⟩
  have HWS : Aside0 (∀ k ∈ ws, k ∈ ws ∨ w.heap.size ≤ k) := ⟨fun k hk => .inl hk⟩
  have hbk4 : W4.heap[gb]? = some (Obj.cells ((b ++ sp).map (Value.int .u8)).toArray 5 (0, 0)) := by rw [← hW4]; exact HBK3.out
  clear hb4 hW4
  have c10' : W4.cell? ⟨gb, 10, none⟩ = some (.int .u8 x10) := by rw [HX10.out]; exact HCF.out _ hbk4 10 (by omega)
  obtain ⟨s2, hs2⟩ : ∃ x : LS, x = { s with acked := hearF s b } := ⟨_, rfl⟩
  rw [← hs2] at hm4
  obtain ⟨mbb, j8, j9, him, hgl4⟩ := waiting hm4 (by rw [hs2]; exact HWT.out)
  have e_parts : s2.parts = s.parts := by rw [hs2]
  have e_many : s2.many = s.many := by rw [hs2]
  rw [e_many] at j8
  have hok4 := hm4.ok
  have HS2 := Aside0.mk hs2; have HM4 := Aside0.mk hm4; have HIM := Aside0.mk him; have HBK4 := Aside0.mk hbk4; have HEP := Aside0.mk e_parts; have HEM := Aside0.mk e_many; have HOK4 := Aside0.mk hok4
  have hlk := him.lookS Tryd.underlying62 Tryd.underlying3 zslice x9
  rw [e_parts] at hlk
  have hmx := H0hmx.out
  have hpg := H0hpg.out
  rw [hmx] at j8
  have HMX := Aside0.mk hmx; clear hmx
  obtain ⟨a_, v_, hsm, _, hl3⟩ := hlk.resolve_left (fun h => by rw [h.1] at hpg; cases hpg)
  have hl2 : ∀ n, (Instr.lookup 62 (.map (some mbb)) (.int .i64 x9) true).run Tryd.prog (W4.drewN n) = .ok (.tuple #[v_, .bool true]) (W4.drewN n) := fun n => hl3 true _ rfl
  clear hs2 hm4 him hbk4 e_parts e_many hok4 hlk hl3 hsm hpg
  have m1 : decide (x10 = x10) = true := decide_eq_true rfl
  have m3 : (x10 != x10) = false := bne_self_eq_false x10
  go_quiet (fail)
  go_wp2
  go_step3
  refine ⟨rfl, ?_⟩
  go_wp2
  (try simp only [Exit.jump])
  go_ret3
  exact ⟨_, ws, rfl, RS.nil _ _, by rw [← HS2.out]; exact HM4.out.below (pw_below_drewN (Below.refl _ _) _), fun k hk => .inl hk, HKK.out⟩
set_option maxHeartbeats 8000000 in
set_option maxRecDepth 100000 in
theorem rcv_same_pending [Inhabited OkB] (A : Option Addr) (c : Nat) (d : List Int) (g : Nat) (s : LS) (ws : List Nat) (w : World) (h : LinkM w g s ws) (hC : Kd.C (Kd.int .u8) w A d.length d) (hc : d.length ≤ c) (hd : ∀ x ∈ d, 0 ≤ x ∧ x < 256) (hl : d.length ≤ 140737488351232) (hT : Tab w) (hokb : ∀ k, w.heap.size ≤ k → (default : OkB).ok k)
    (b : List Int) (N x9 x10 : Int) (hbe : b = (opF d).1) (hNx : N = rd b 7 * 256 + rd b 8) (hx9 : x9 = rd b 9) (hx10 : x10 = rd b 10) (hbl : b.length ≤ 140737488355328) (h2 : (opF d).2 = true) (h3 : formedF b = true) (hany : s.any = false) (hw : s.waits = true) (hsame : N = s.n) (hmx : s.many = x10) (hpg : pget x9 s.parts = none) (hless : (s.parts.length : Int) + 1 < x10) : Calls Tryd.prog 13 #[.pointer (some ⟨g, 0, none⟩), .slice A d.length c] w (RcvPost w g ws { s with acked := hearF s b, parts := s.parts ++ [(x9, b.drop 11)] } [] false 0) := by
  have HANY := Aside0.mk hany; clear hany
  have H0hsame := Aside0.mk hsame; clear hsame
  have H0hmx := Aside0.mk hmx; clear hmx
  have H0hpg := Aside0.mk hpg; clear hpg
  have HWA := Aside0.mk hw; clear hw
  have HOKB := Aside0.mk hokb; clear hokb
  have HX9 := Aside0.mk hx9; have HX10 := Aside0.mk hx10; have HNX := Aside0.mk hNx
  clear hx9 hx10 hNx
  have hbr : ∀ x ∈ b, 0 ≤ x ∧ x < 256 := by rw [hbe]; exact opF_range d hd
  have hO := Open_callsF A c d w hC hc (by omega) hT
  rw [h2, ← hbe] at hO
  obtain ⟨L, hL⟩ : ∃ L, L = b.length := ⟨_, rfl⟩
  rw [← hL] at hbl
  have HLN := Aside0.mk hL; have HBR := Aside0.mk hbr
  clear hbe hL hbr h2 hC hd hc hT
  go_enter Tryd.func13, Tryd.ntmps13
  go_wp2
  refine wp_scope_fwd 1 rfl ?_
  go_wp2_with fail
  ((with_reducible refine hO.mono ?_); rintro e_ W1 ⟨v0, rfl, ⟨sp, ho_⟩, hb_⟩)
  obtain ⟨Ab, hv, hA, _, hcm⟩ := ho_.form
  rw [List.length_append, ← HLN.out] at hv hcm
  subst hv
  have hRR := Kd.R_reads' ho_.R
  rw [← HLN.out] at hRR
  obtain ⟨h11, hm1, hm10, hpm, hsz⟩ := formed_facts h3
  rw [← HLN.out] at h11 hsz
  obtain ⟨gb, hgb, hbk⟩ := hA.resolve_left (fun hn => by
    have h1 := HLN.out
    rw [(List.append_eq_nil_iff.1 hn.2).1] at h1
    simp at h1
    omega)
  subst hgb
  have HBK := Aside0.mk hbk
  generalize hq_ : sp.length = q at hRR hcm ⊢
  clear hq_
  have hF := formed_calls (some ⟨gb, 0, none⟩) L (L + q) b W1 hRR.2.2 hRR.2.1 (fun _ => ⟨gb, rfl⟩) HBR.out hbl
  rw [h3] at hF
  have hgbn := ho_.base gb rfl
  have HL1 := Aside0.mk (h.below hb_); have HB := Aside0.mk hb_; have HH := Aside0.mk h; have HGB := Aside0.mk hgbn
  have HSZ := Aside0.mk hsz; have hLq := hRR.2.1
  clear h hbk ho_ hb_ hO hRR hA h3 hgbn hsz
  go_wp2_with fail
  ((with_reducible refine hF.mono ?_); rintro e_ W2 ⟨rfl, q_, rfl⟩)
  clear hF
  have HL2 := Aside0.mk (HL1.out.below (pw_below_drewN (Below.refl _ _) q_))
  have hcellf : ∀ (W : World), W.heap[gb]? = some (Obj.cells ((b ++ sp).map (Value.int .u8)).toArray 5 (0, 0)) → ∀ i : Nat, i < L → W.cell? ⟨gb, i, none⟩ = some (.int .u8 (rd b (i : Int))) := by
    intro W hW i hi
    have hi' : i < b.length := by have := HLN.out; omega
    rw [blk_cell hW, rd_get' hi']
    simp only [List.getElem?_toArray, List.map_append]
    rw [List.getElem?_append_left (by simpa using hi'), List.getElem?_map, List.getElem?_eq_getElem hi']
    rfl
  have HCF := Aside0.mk hcellf; clear hcellf
  have hh := hear_calls g s ws gb L (L + q) b (W1.drewN q_) HL2.out HLN.out.symm (HCF.out _ HBK.out) h11 HBR.out
  go_wp2_with fail
  ((with_reducible refine hh.mono ?_); rintro e_ W3 ⟨rfl, hm3, hk3⟩)
  clear hh
  have hbk3 := hk3.u8 HL2.out HBK.out
  have HBK3 := Aside0.mk hbk3
  have HK3 : Aside0 (Keeps w W3 ws) := ⟨(Keeps.of_below (pw_below_drewN HB.out q_) ws).then hk3⟩
  have HM3 := Aside0.mk hm3
  have c7 : W3.cell? ⟨gb, 7, none⟩ = some (.int .u8 (rd b 7)) := HCF.out _ hbk3 7 (by omega)
  have c8 : W3.cell? ⟨gb, 8, none⟩ = some (.int .u8 (rd b 8)) := HCF.out _ hbk3 8 (by omega)
  have c9 : W3.cell? ⟨gb, 9, none⟩ = some (.int .u8 (rd b 9)) := HCF.out _ hbk3 9 (by omega)
  have c10 : W3.cell? ⟨gb, 10, none⟩ = some (.int .u8 (rd b 10)) := HCF.out _ hbk3 10 (by omega)
  have rdr : ∀ i : Nat, i < 11 → 0 ≤ rd b (i : Int) ∧ rd b (i : Int) < 256 := fun i hi => rd_mem HBR.out (by omega) (by have := HLN.out; omega)
  have r7 : 0 ≤ rd b 7 ∧ rd b 7 < 256 := rdr 7 (by omega)
  have r8 : 0 ≤ rd b 8 ∧ rd b 8 < 256 := rdr 8 (by omega)
  have r9 : 0 ≤ rd b 9 ∧ rd b 9 < 256 := rdr 9 (by omega)
  have r10 : 0 ≤ rd b 10 ∧ rd b 10 < 256 := rdr 10 (by omega)
  obtain ⟨sv, ma, mp, gs, mb, hg3, hs3, ha3, hp3, hw3, hne3, hws3, hok3⟩ := hm3
  obtain ⟨mo, rfl⟩ : ∃ o, mp = .map o := by
    rcases hp3 with ⟨e, _⟩ | ⟨b', _, e, _⟩
    · exact ⟨_, e⟩
    · exact ⟨_, e⟩
  obtain ⟨_, _, _, k3, k4, _, k6, k7, k8, k9⟩ := lcell hg3
  change W3.cell? ⟨g, 3, none⟩ = some (.bool s.any) at k3
  change W3.cell? ⟨g, 4, none⟩ = some (.int .u16 s.last) at k4
  change W3.cell? ⟨g, 6, none⟩ = some (.bool s.waits) at k6
  change W3.cell? ⟨g, 7, none⟩ = some (.int .u16 s.n) at k7
  change W3.cell? ⟨g, 8, none⟩ = some (.int .i64 s.many) at k8
  have hNe : bits .or .u16 (rd b 7 * 256) (rd b 8) = rd b 7 * 256 + rd b 8 := or_add16 _ _ r7 r8
  have hfz : ∀ j, W3.frozen? ⟨g, j, none⟩ = false := fun j => blk_frozen hg3 j
  have hgl : g < W3.heap.size := (Array.getElem?_eq_some_iff.1 hg3).1
  have hsamea : ∀ (o : Obj) (n : Nat), ((W3.drewN n).alloc o).heap[g]? = W3.heap[g]? := fun o n => (MapKept.heap_alloc (W3.drewN n) o).2 g hgl
  have al : ∀ (o : Obj) (n j : Nat), ((W3.drewN n).alloc o).cell? ⟨g, j, none⟩ = W3.cell? ⟨g, j, none⟩ ∧ ((W3.drewN n).alloc o).frozen? ⟨g, j, none⟩ = W3.frozen? ⟨g, j, none⟩ := fun o n j => ⟨World.cell?_of_block (a := ⟨g, j, none⟩) (hsamea o n), World.frozen?_of_block (a := ⟨g, j, none⟩) (hsamea o n)⟩
  have hok := HH.out.ok
  have HOK := Aside0.mk hok; clear hok
  have HAL := Aside0.mk al
  clear al hsamea hg3 hs3 ha3 hp3 hw3 hne3 hws3 hok3 hbk3 hk3 rdr
  have hx9 := HX9.out; have hx10 := HX10.out; have hNx := HNX.out
  rw [← hNx] at hNe
  have hNr : 0 ≤ N ∧ N < 65536 := by omega
  obtain ⟨x7, hx7⟩ : ∃ x, x = rd b 7 := ⟨_, rfl⟩
  obtain ⟨x8, hx8⟩ : ∃ x, x = rd b 8 := ⟨_, rfl⟩
  rw [← hx7] at c7 r7 hNe; rw [← hx8] at c8 r8 hNe; rw [← hx9] at c9 r9 hpm; rw [← hx10] at c10 r10 hm1 hm10 hpm
  clear hx7 hx8 hx9 hx10 hNx
  have hsame := H0hsame.out
  have n1 : decide (N = s.n) = true := decide_eq_true hsame
  have n2 : (N == s.n) = true := beq_iff_eq.2 hsame
  have n3 : (N != s.n) = false := by rw [hsame]; exact bne_self_eq_false _
  clear hsame
  rw [HWA.out] at k6
  have HWT := Aside0.mk HWA.out
  rw [HANY.out] at k3
  go_wp2
  go_quiet (fail)
  go_wp2
  generalize hW4 : W3.drewN nq = W4
  have hb4 : Below W3.heap.size W3 W4 := by rw [← hW4]; exact pw_below_drewN (Below.refl _ _) _
  have hm4 := HM3.out.below hb4
  have HKK : Aside0 (Keeps w W4 ws) := ⟨HK3.out.then (Keeps.of_below hb4 ws)⟩
  have HWS : Aside0 (∀ k ∈ ws, k ∈ ws ∨ w.heap.size ≤ k) := ⟨fun k hk => .inl hk⟩
  have hbk4 : W4.heap[gb]? = some (Obj.cells ((b ++ sp).map (Value.int .u8)).toArray 5 (0, 0)) := by rw [← hW4]; exact HBK3.out
  clear hb4 hW4
  have c10' : W4.cell? ⟨gb, 10, none⟩ = some (.int .u8 x10) := by rw [HX10.out]; exact HCF.out _ hbk4 10 (by omega)
  obtain ⟨s2, hs2⟩ : ∃ x : LS, x = { s with acked := hearF s b } := ⟨_, rfl⟩
  rw [← hs2] at hm4
  obtain ⟨mbb, j8, j9, him, hgl4⟩ := waiting hm4 (by rw [hs2]; exact HWT.out)
  have e_parts : s2.parts = s.parts := by rw [hs2]
  have e_many : s2.many = s.many := by rw [hs2]
  rw [e_many] at j8
  have hok4 := hm4.ok
  have HS2 := Aside0.mk hs2; have HM4 := Aside0.mk hm4; have HIM := Aside0.mk him; have HBK4 := Aside0.mk hbk4; have HEP := Aside0.mk e_parts; have HEM := Aside0.mk e_many; have HOK4 := Aside0.mk hok4
  have hlk := him.lookS Tryd.underlying62 Tryd.underlying3 zslice x9
  rw [e_parts] at hlk
  have hmx := H0hmx.out
  have hpg := H0hpg.out
  rw [hmx] at j8
  have HMX := Aside0.mk hmx; clear hmx
  have hnone : pget x9 s2.parts = none := by rw [e_parts]; exact hpg
  have hl2 : ∀ n, (Instr.lookup 62 (.map (some mbb)) (.int .i64 x9) true).run Tryd.prog (W4.drewN n) = .ok (.tuple #[.slice none 0 0, .bool false]) (W4.drewN n) := fun n => (hlk.resolve_right (fun ⟨a, _, h, _⟩ => by rw [e_parts] at hnone; rw [hnone] at h; cases h)).2 true _ rfl
  have HNONE := Aside0.mk hnone
  clear hs2 hm4 him hbk4 e_parts e_many hok4 hlk hnone
  have m1 : decide (x10 = x10) = true := decide_eq_true rfl
  have m3 : (x10 != x10) = false := bne_self_eq_false x10
  go_quiet (fail)
  go_wp2
  generalize hW5 : W4.drewN nq = W5
  have hh5 : W5.heap = W4.heap := by rw [← hW5]; rfl
  have hb5 : Below W4.heap.size W4 W5 := by rw [← hW5]; exact pw_below_drewN (Below.refl _ _) _
  have hm5 := HM4.out.below hb5
  have j95 : W5.cell? ⟨g, 9, none⟩ = some (.map (some mbb)) := (World.cell?_of_block (a := ⟨g, 9, none⟩) (by rw [hh5])).trans j9
  have hbk5 : W5.heap[gb]? = some (Obj.cells ((b ++ sp).map (Value.int .u8)).toArray 5 (0, 0)) := by rw [hh5]; exact HBK4.out
  have him5 : IM .i64 (PartR W5) W5 mbb s2.parts := (HIM.out.same (by rw [hh5])).imp (PartR.same (fun b cs _ => by rw [hh5]))
  obtain ⟨off, hoff, hcut⟩ := cut11 gb L (L + q) h11 hLq
  have hpr : PartR W5 (.slice (some ⟨gb, off, none⟩) (L - 11) (L + q - 11)) (b.drop 11) := part_of hbk5 HLN.out.symm h11 hoff (HOKB.out gb HGB.out)
  obtain ⟨W6, hup, hgr6, him6⟩ := him5.put1 Tryd.underlying62 Tryd.underlying3 x9 HNONE.out _ (b.drop 11) hpr
  have hpp : ∀ y ∈ s2.parts ++ [(x9, b.drop 11)], y.2.length ≤ 200 ∧ ∀ z ∈ y.2, 0 ≤ z ∧ z < 256 := by
    intro y hy
    rcases List.mem_append.1 hy with hy | hy
    · exact HOK4.out.2.2.2.2.2.2.2 y hy
    · obtain rfl := List.mem_singleton.1 hy
      refine ⟨?_, fun z hz => HBR.out z (List.mem_of_mem_drop hz)⟩
      show (b.drop 11).length ≤ 200
      rw [List.length_drop, ← HLN.out]
      have := HSZ.out
      omega
  obtain ⟨hm6, hk6⟩ := more_parts hm5 j95 hgr6 him6 hpp
  have HM6 := Aside0.mk hm6
  have HK6 : Aside0 (Keeps w W6 ws) := ⟨(HKK.out.trans ((Keeps.of_below hb5 ws).then hk6) HWS.out)⟩
  clear hh5 hb5 hm5 hbk5 him5 hpr hgr6 him6 hpp hm6 hk6 hW5 j8 j9 hl2
  go_region
  generalize hW7 : W6.drew = W7
  have hb7 : Below W6.heap.size W6 W7 := by rw [← hW7]; exact below_drew1 (Below.refl _ _)
  have hm7 := HM6.out.below hb7
  obtain ⟨mb7, u8, u9, him7, hgl7⟩ := waiting hm7 (by rw [HS2.out]; exact HWT.out)
  change W7.cell? ⟨g, 8, none⟩ = some (.int .i64 s2.many) at u8
  rw [HEM.out, HMX.out] at u8
  have HM7 := Aside0.mk hm7; have HIM7 := Aside0.mk him7
  have HK7 : Aside0 (Keeps w W7 ws) := ⟨HK6.out.then (Keeps.of_below hb7 ws)⟩
  have hlen : ∀ ty n, (Builtin.len_ #[62] ty #[.map (some mb7)]).run Tryd.prog (W7.drewN n) = .ok (goInt ((s2.parts ++ [(x9, b.drop 11)]).length : Nat)) (W7.drewN n) := fun ty n => HIM7.out.lenS Tryd.underlying62 _ rfl
  clear hm7 him7 hb7 hW7
  have hcnt : ((s2.parts ++ [(x9, b.drop 11)]).length : Int) = (s.parts.length : Int) + 1 := by rw [HEP.out]; simp
  generalize (s2.parts ++ [(x9, b.drop 11)]).length = cnt at hlen hcnt
  have d5 : decide ((cnt : Int) < x10) = true := decide_eq_true (by rw [hcnt]; exact hless)
  clear hcnt hless
  go_wp2
  go_quiet (fail)
  go_wp2
  go_ret3
  exact ⟨_, ws, rfl, RS.nil _ _, by rw [HS2.out] at HM7; exact HM7.out.below (pw_below_drewN (Below.refl _ _) _), HWS.out, HK7.out⟩
set_option maxHeartbeats 8000000 in
set_option maxRecDepth 100000 in
theorem rcv_same_told [Inhabited OkB] (A : Option Addr) (c : Nat) (d : List Int) (g : Nat) (s : LS) (ws : List Nat) (w : World) (h : LinkM w g s ws) (hC : Kd.C (Kd.int .u8) w A d.length d) (hc : d.length ≤ c) (hd : ∀ x ∈ d, 0 ≤ x ∧ x < 256) (hl : d.length ≤ 140737488351232) (hT : Tab w) (hokb : ∀ k, w.heap.size ≤ k → (default : OkB).ok k)
    (b : List Int) (N x9 x10 : Int) (hbe : b = (opF d).1) (hNx : N = rd b 7 * 256 + rd b 8) (hx9 : x9 = rd b 9) (hx10 : x10 = rd b 10) (hbl : b.length ≤ 140737488355328) (h2 : (opF d).2 = true) (h3 : formedF b = true) (hany : s.any = false) (hw : s.waits = true) (hsame : N = s.n) (hmx : s.many = x10) (hpg : pget x9 s.parts = none) (hless : ¬ (s.parts.length : Int) + 1 < x10) : Calls Tryd.prog 13 #[.pointer (some ⟨g, 0, none⟩), .slice A d.length c] w (RcvPost w g ws (tellF { s with acked := hearF s b, parts := s.parts ++ [(x9, b.drop 11)] } N) (outF { s with acked := hearF s b, parts := s.parts ++ [(x9, b.drop 11)] }) true 0) := by
  have HANY := Aside0.mk hany; clear hany
  have H0hsame := Aside0.mk hsame; clear hsame
  have H0hmx := Aside0.mk hmx; clear hmx
  have H0hpg := Aside0.mk hpg; clear hpg
  have HWA := Aside0.mk hw; clear hw
  have HOKB := Aside0.mk hokb; clear hokb
  have HX9 := Aside0.mk hx9; have HX10 := Aside0.mk hx10; have HNX := Aside0.mk hNx
  clear hx9 hx10 hNx
  have hbr : ∀ x ∈ b, 0 ≤ x ∧ x < 256 := by rw [hbe]; exact opF_range d hd
  have hO := Open_callsF A c d w hC hc (by omega) hT
  rw [h2, ← hbe] at hO
  obtain ⟨L, hL⟩ : ∃ L, L = b.length := ⟨_, rfl⟩
  rw [← hL] at hbl
  have HLN := Aside0.mk hL; have HBR := Aside0.mk hbr
  clear hbe hL hbr h2 hC hd hc hT
  go_enter Tryd.func13, Tryd.ntmps13
  go_wp2
  refine wp_scope_fwd 1 rfl ?_
  go_wp2_with fail
  ((with_reducible refine hO.mono ?_); rintro e_ W1 ⟨v0, rfl, ⟨sp, ho_⟩, hb_⟩)
  obtain ⟨Ab, hv, hA, _, hcm⟩ := ho_.form
  rw [List.length_append, ← HLN.out] at hv hcm
  subst hv
  have hRR := Kd.R_reads' ho_.R
  rw [← HLN.out] at hRR
  obtain ⟨h11, hm1, hm10, hpm, hsz⟩ := formed_facts h3
  rw [← HLN.out] at h11 hsz
  obtain ⟨gb, hgb, hbk⟩ := hA.resolve_left (fun hn => by
    have h1 := HLN.out
    rw [(List.append_eq_nil_iff.1 hn.2).1] at h1
    simp at h1
    omega)
  subst hgb
  have HBK := Aside0.mk hbk
  generalize hq_ : sp.length = q at hRR hcm ⊢
  clear hq_
  have hF := formed_calls (some ⟨gb, 0, none⟩) L (L + q) b W1 hRR.2.2 hRR.2.1 (fun _ => ⟨gb, rfl⟩) HBR.out hbl
  rw [h3] at hF
  have hgbn := ho_.base gb rfl
  have HL1 := Aside0.mk (h.below hb_); have HB := Aside0.mk hb_; have HH := Aside0.mk h; have HGB := Aside0.mk hgbn
  have HSZ := Aside0.mk hsz; have hLq := hRR.2.1
  clear h hbk ho_ hb_ hO hRR hA h3 hgbn hsz
  go_wp2_with fail
  ((with_reducible refine hF.mono ?_); rintro e_ W2 ⟨rfl, q_, rfl⟩)
  clear hF
  have HL2 := Aside0.mk (HL1.out.below (pw_below_drewN (Below.refl _ _) q_))
  have hcellf : ∀ (W : World), W.heap[gb]? = some (Obj.cells ((b ++ sp).map (Value.int .u8)).toArray 5 (0, 0)) → ∀ i : Nat, i < L → W.cell? ⟨gb, i, none⟩ = some (.int .u8 (rd b (i : Int))) := by
    intro W hW i hi
    have hi' : i < b.length := by have := HLN.out; omega
    rw [blk_cell hW, rd_get' hi']
    simp only [List.getElem?_toArray, List.map_append]
    rw [List.getElem?_append_left (by simpa using hi'), List.getElem?_map, List.getElem?_eq_getElem hi']
    rfl
  have HCF := Aside0.mk hcellf; clear hcellf
  have hh := hear_calls g s ws gb L (L + q) b (W1.drewN q_) HL2.out HLN.out.symm (HCF.out _ HBK.out) h11 HBR.out
  go_wp2_with fail
  ((with_reducible refine hh.mono ?_); rintro e_ W3 ⟨rfl, hm3, hk3⟩)
  clear hh
  have hbk3 := hk3.u8 HL2.out HBK.out
  have HBK3 := Aside0.mk hbk3
  have HK3 : Aside0 (Keeps w W3 ws) := ⟨(Keeps.of_below (pw_below_drewN HB.out q_) ws).then hk3⟩
  have HM3 := Aside0.mk hm3
  have c7 : W3.cell? ⟨gb, 7, none⟩ = some (.int .u8 (rd b 7)) := HCF.out _ hbk3 7 (by omega)
  have c8 : W3.cell? ⟨gb, 8, none⟩ = some (.int .u8 (rd b 8)) := HCF.out _ hbk3 8 (by omega)
  have c9 : W3.cell? ⟨gb, 9, none⟩ = some (.int .u8 (rd b 9)) := HCF.out _ hbk3 9 (by omega)
  have c10 : W3.cell? ⟨gb, 10, none⟩ = some (.int .u8 (rd b 10)) := HCF.out _ hbk3 10 (by omega)
  have rdr : ∀ i : Nat, i < 11 → 0 ≤ rd b (i : Int) ∧ rd b (i : Int) < 256 := fun i hi => rd_mem HBR.out (by omega) (by have := HLN.out; omega)
  have r7 : 0 ≤ rd b 7 ∧ rd b 7 < 256 := rdr 7 (by omega)
  have r8 : 0 ≤ rd b 8 ∧ rd b 8 < 256 := rdr 8 (by omega)
  have r9 : 0 ≤ rd b 9 ∧ rd b 9 < 256 := rdr 9 (by omega)
  have r10 : 0 ≤ rd b 10 ∧ rd b 10 < 256 := rdr 10 (by omega)
  obtain ⟨sv, ma, mp, gs, mb, hg3, hs3, ha3, hp3, hw3, hne3, hws3, hok3⟩ := hm3
  obtain ⟨mo, rfl⟩ : ∃ o, mp = .map o := by
    rcases hp3 with ⟨e, _⟩ | ⟨b', _, e, _⟩
    · exact ⟨_, e⟩
    · exact ⟨_, e⟩
  obtain ⟨_, _, _, k3, k4, _, k6, k7, k8, k9⟩ := lcell hg3
  change W3.cell? ⟨g, 3, none⟩ = some (.bool s.any) at k3
  change W3.cell? ⟨g, 4, none⟩ = some (.int .u16 s.last) at k4
  change W3.cell? ⟨g, 6, none⟩ = some (.bool s.waits) at k6
  change W3.cell? ⟨g, 7, none⟩ = some (.int .u16 s.n) at k7
  change W3.cell? ⟨g, 8, none⟩ = some (.int .i64 s.many) at k8
  have hNe : bits .or .u16 (rd b 7 * 256) (rd b 8) = rd b 7 * 256 + rd b 8 := or_add16 _ _ r7 r8
  have hfz : ∀ j, W3.frozen? ⟨g, j, none⟩ = false := fun j => blk_frozen hg3 j
  have hgl : g < W3.heap.size := (Array.getElem?_eq_some_iff.1 hg3).1
  have hsamea : ∀ (o : Obj) (n : Nat), ((W3.drewN n).alloc o).heap[g]? = W3.heap[g]? := fun o n => (MapKept.heap_alloc (W3.drewN n) o).2 g hgl
  have al : ∀ (o : Obj) (n j : Nat), ((W3.drewN n).alloc o).cell? ⟨g, j, none⟩ = W3.cell? ⟨g, j, none⟩ ∧ ((W3.drewN n).alloc o).frozen? ⟨g, j, none⟩ = W3.frozen? ⟨g, j, none⟩ := fun o n j => ⟨World.cell?_of_block (a := ⟨g, j, none⟩) (hsamea o n), World.frozen?_of_block (a := ⟨g, j, none⟩) (hsamea o n)⟩
  have hok := HH.out.ok
  have HOK := Aside0.mk hok; clear hok
  have HAL := Aside0.mk al
  clear al hsamea hg3 hs3 ha3 hp3 hw3 hne3 hws3 hok3 hbk3 hk3 rdr
  have hx9 := HX9.out; have hx10 := HX10.out; have hNx := HNX.out
  rw [← hNx] at hNe
  have hNr : 0 ≤ N ∧ N < 65536 := by omega
  obtain ⟨x7, hx7⟩ : ∃ x, x = rd b 7 := ⟨_, rfl⟩
  obtain ⟨x8, hx8⟩ : ∃ x, x = rd b 8 := ⟨_, rfl⟩
  rw [← hx7] at c7 r7 hNe; rw [← hx8] at c8 r8 hNe; rw [← hx9] at c9 r9 hpm; rw [← hx10] at c10 r10 hm1 hm10 hpm
  clear hx7 hx8 hx9 hx10 hNx
  have hsame := H0hsame.out
  have n1 : decide (N = s.n) = true := decide_eq_true hsame
  have n2 : (N == s.n) = true := beq_iff_eq.2 hsame
  have n3 : (N != s.n) = false := by rw [hsame]; exact bne_self_eq_false _
  clear hsame
  rw [HWA.out] at k6
  have HWT := Aside0.mk HWA.out
  rw [HANY.out] at k3
  go_wp2
  go_quiet (fail)
  go_wp2
  generalize hW4 : W3.drewN nq = W4
  have hb4 : Below W3.heap.size W3 W4 := by rw [← hW4]; exact pw_below_drewN (Below.refl _ _) _
  have hm4 := HM3.out.below hb4
  have HKK : Aside0 (Keeps w W4 ws) := ⟨HK3.out.then (Keeps.of_below hb4 ws)⟩
  have HWS : Aside0 (∀ k ∈ ws, k ∈ ws ∨ w.heap.size ≤ k) := ⟨fun k hk => .inl hk⟩
  have hbk4 : W4.heap[gb]? = some (Obj.cells ((b ++ sp).map (Value.int .u8)).toArray 5 (0, 0)) := by rw [← hW4]; exact HBK3.out
  clear hb4 hW4
  have c10' : W4.cell? ⟨gb, 10, none⟩ = some (.int .u8 x10) := by rw [HX10.out]; exact HCF.out _ hbk4 10 (by omega)
  obtain ⟨s2, hs2⟩ : ∃ x : LS, x = { s with acked := hearF s b } := ⟨_, rfl⟩
  rw [← hs2] at hm4
  obtain ⟨mbb, j8, j9, him, hgl4⟩ := waiting hm4 (by rw [hs2]; exact HWT.out)
  have e_parts : s2.parts = s.parts := by rw [hs2]
  have e_many : s2.many = s.many := by rw [hs2]
  rw [e_many] at j8
  have hok4 := hm4.ok
  have HS2 := Aside0.mk hs2; have HM4 := Aside0.mk hm4; have HIM := Aside0.mk him; have HBK4 := Aside0.mk hbk4; have HEP := Aside0.mk e_parts; have HEM := Aside0.mk e_many; have HOK4 := Aside0.mk hok4
  have hlk := him.lookS Tryd.underlying62 Tryd.underlying3 zslice x9
  rw [e_parts] at hlk
  have hmx := H0hmx.out
  have hpg := H0hpg.out
  rw [hmx] at j8
  have HMX := Aside0.mk hmx; clear hmx
  have hnone : pget x9 s2.parts = none := by rw [e_parts]; exact hpg
  have hl2 : ∀ n, (Instr.lookup 62 (.map (some mbb)) (.int .i64 x9) true).run Tryd.prog (W4.drewN n) = .ok (.tuple #[.slice none 0 0, .bool false]) (W4.drewN n) := fun n => (hlk.resolve_right (fun ⟨a, _, h, _⟩ => by rw [e_parts] at hnone; rw [hnone] at h; cases h)).2 true _ rfl
  have HNONE := Aside0.mk hnone
  clear hs2 hm4 him hbk4 e_parts e_many hok4 hlk hnone
  have m1 : decide (x10 = x10) = true := decide_eq_true rfl
  have m3 : (x10 != x10) = false := bne_self_eq_false x10
  go_quiet (fail)
  go_wp2
  generalize hW5 : W4.drewN nq = W5
  have hh5 : W5.heap = W4.heap := by rw [← hW5]; rfl
  have hb5 : Below W4.heap.size W4 W5 := by rw [← hW5]; exact pw_below_drewN (Below.refl _ _) _
  have hm5 := HM4.out.below hb5
  have j95 : W5.cell? ⟨g, 9, none⟩ = some (.map (some mbb)) := (World.cell?_of_block (a := ⟨g, 9, none⟩) (by rw [hh5])).trans j9
  have hbk5 : W5.heap[gb]? = some (Obj.cells ((b ++ sp).map (Value.int .u8)).toArray 5 (0, 0)) := by rw [hh5]; exact HBK4.out
  have him5 : IM .i64 (PartR W5) W5 mbb s2.parts := (HIM.out.same (by rw [hh5])).imp (PartR.same (fun b cs _ => by rw [hh5]))
  obtain ⟨off, hoff, hcut⟩ := cut11 gb L (L + q) h11 hLq
  have hpr : PartR W5 (.slice (some ⟨gb, off, none⟩) (L - 11) (L + q - 11)) (b.drop 11) := part_of hbk5 HLN.out.symm h11 hoff (HOKB.out gb HGB.out)
  obtain ⟨W6, hup, hgr6, him6⟩ := him5.put1 Tryd.underlying62 Tryd.underlying3 x9 HNONE.out _ (b.drop 11) hpr
  have hpp : ∀ y ∈ s2.parts ++ [(x9, b.drop 11)], y.2.length ≤ 200 ∧ ∀ z ∈ y.2, 0 ≤ z ∧ z < 256 := by
    intro y hy
    rcases List.mem_append.1 hy with hy | hy
    · exact HOK4.out.2.2.2.2.2.2.2 y hy
    · obtain rfl := List.mem_singleton.1 hy
      refine ⟨?_, fun z hz => HBR.out z (List.mem_of_mem_drop hz)⟩
      show (b.drop 11).length ≤ 200
      rw [List.length_drop, ← HLN.out]
      have := HSZ.out
      omega
  obtain ⟨hm6, hk6⟩ := more_parts hm5 j95 hgr6 him6 hpp
  have HM6 := Aside0.mk hm6
  have HK6 : Aside0 (Keeps w W6 ws) := ⟨(HKK.out.trans ((Keeps.of_below hb5 ws).then hk6) HWS.out)⟩
  clear hh5 hb5 hm5 hbk5 him5 hpr hgr6 him6 hpp hm6 hk6 hW5 j8 j9 hl2
  go_region
  generalize hW7 : W6.drew = W7
  have hb7 : Below W6.heap.size W6 W7 := by rw [← hW7]; exact below_drew1 (Below.refl _ _)
  have hm7 := HM6.out.below hb7
  obtain ⟨mb7, u8, u9, him7, hgl7⟩ := waiting hm7 (by rw [HS2.out]; exact HWT.out)
  change W7.cell? ⟨g, 8, none⟩ = some (.int .i64 s2.many) at u8
  rw [HEM.out, HMX.out] at u8
  have HM7 := Aside0.mk hm7; have HIM7 := Aside0.mk him7
  have HK7 : Aside0 (Keeps w W7 ws) := ⟨HK6.out.then (Keeps.of_below hb7 ws)⟩
  have hlen : ∀ ty n, (Builtin.len_ #[62] ty #[.map (some mb7)]).run Tryd.prog (W7.drewN n) = .ok (goInt ((s2.parts ++ [(x9, b.drop 11)]).length : Nat)) (W7.drewN n) := fun ty n => HIM7.out.lenS Tryd.underlying62 _ rfl
  clear hm7 him7 hb7 hW7
  have hcnt : ((s2.parts ++ [(x9, b.drop 11)]).length : Int) = (s.parts.length : Int) + 1 := by rw [HEP.out]; simp
  generalize (s2.parts ++ [(x9, b.drop 11)]).length = cnt at hlen hcnt
  have d5 : decide ((cnt : Int) < x10) = false := decide_eq_false (by rw [hcnt]; omega)
  clear hcnt hless
  go_wp2
  go_quiet (fail)
  go_wp2
  generalize hW8 : W7.drewN nq = W8
  have hb8 : Below W7.heap.size W7 W8 := by rw [← hW8]; exact pw_below_drewN (Below.refl _ _) _
  have hm8 := HM7.out.below hb8
  have hs3 : ({ s2 with parts := s2.parts ++ [(x9, b.drop 11)] } : LS) = { s with acked := hearF s b, parts := s.parts ++ [(x9, b.drop 11)] } := by rw [HS2.out]; first | done | rfl
  rw [hs3] at hm8
  have HM8 := Aside0.mk hm8
  have HK8 : Aside0 (Keeps w W8 ws) := ⟨HK7.out.then (Keeps.of_below hb8 ws)⟩
  have him8 : IM .i64 (PartR W8) W8 mb7 (s2.parts ++ [(x9, b.drop 11)]) := (HIM7.out.same (by rw [← hW8]; rfl)).imp (PartR.same (fun b cs _ => by rw [← hW8]; rfl))
  have y9 : W8.cell? ⟨g, 9, none⟩ = some (.map (some mb7)) := by rw [← hW8]; exact u9
  have hP : s2.parts ++ [(x9, b.drop 11)] = s.parts ++ [(x9, b.drop 11)] := by rw [HS2.out]; first | done | rfl
  rw [hP] at him8
  have HIM8 := Aside0.mk him8
  have hgl8 : g < W8.heap.size := HM8.out.g_in.2
  have hpl : ∀ (j : Nat), (((pget (j : Int) (s.parts ++ [(x9, b.drop 11)])).getD []).length ≤ 200) := by
    intro j
    cases hj : pget (j : Int) (s.parts ++ [(x9, b.drop 11)]) with
    | none => simp
    | some a => exact (HM8.out.ok.2.2.2.2.2.2.2 _ (pget_mem hj)).1
  generalize hPP : (s.parts ++ [(x9, b.drop 11)] : List (Int × List Int)) = P at HIM8 hpl
  have HPL := Aside0.mk hpl; have HPP := Aside0.mk hPP; have HGL8 := Aside0.mk hgl8
  clear hm8 hs3 him8 hP hpl hPP hgl8 hb8 hW8 u8 u9 hlen
  go_loopw [9, 141] (fun v vi wr => ∃ i : Int, vi = .int .i64 i ∧ 0 ≤ i ∧ i ≤ x10 ∧ Aside0 (RS W8.heap.size wr v ((List.range i.toNat).flatMap (fun j : Nat => (pget (j : Int) P).getD []))) ∧ Aside0 (Below W8.heap.size W8 wr)) (fun _ vi _ => (x10 - intOf vi).toNat)
  case atStart => exact ⟨0, rfl, by omega, by omega, ⟨RS.nil _ _⟩, ⟨Below.refl _ _⟩⟩
  case round =>
    obtain ⟨i, rfl, hi0, hi1, HO, HBW⟩ := hrel
    by_cases hx : i < x10
    · have dx : decide (i < x10) = true := decide_eq_true hx
      have y9w : wr.cell? ⟨g, 9, none⟩ = some (.map (some mb7)) := (HBW.out.cell (p := ⟨g, 9, none⟩) HGL8.out).trans y9
      have hsm : wr.heap[mb7]? = W8.heap[mb7]? := HBW.out.block _ HIM8.out.lt
      have hsucc := flat_succ P i hi0
      have hfl := flat_len HPL.out i.toNat
      generalize (List.range i.toNat).flatMap (fun j : Nat => (pget (j : Int) P).getD []) = acc at HO hsucc hfl
      have HSU := Aside0.mk hsucc; have HFL := Aside0.mk hfl
      clear hsucc hfl
      rcases HIM8.out.lookS Tryd.underlying62 Tryd.underlying3 zslice i with ⟨hg1, hl⟩ | ⟨a, v2, hg1, hv2, hl⟩
      · have hl0 := hl false wr hsm
        have HG1 := Aside0.mk hg1
        clear hl hg1 hsm
        go_wp2_with (first | ((with_reducible refine gate_builtin (b := .append) (xs := #[.tmp 144, .tmp 150]) rfl ?_); at_builtin; obtain ⟨sp0, ho_⟩ := HO.out; refine wp_rf_rows (w0 := W8) W8.heap.size rfl (.tmp 144) (.tmp 150) rfl _ acc sp0 [] _ _ _ rfl rfl ho_ (Kd.C_nil _ _) HBW.out (below_size HBW.out) (by have := HFL.out; omega) ?_; intro v1 w1 sp1 ho hb hg; have HO1 : Aside0 (RS W8.heap.size w1 v1 _) := Aside0.mk ⟨sp1, ho⟩; clear HBW; have HBW := Aside0.mk hb; clear ho_ ho hb hg))
        exact ⟨⟨i + 1, rfl, by omega, by omega, ⟨by rw [HSU.out, HG1.out]; exact HO1.out⟩, HBW⟩, by simp only [intOf]; omega⟩
      · have hl0 := hl false wr hsm
        have hal : a.length ≤ 200 := by have := HPL.out i.toNat; rw [Int.toNat_of_nonneg hi0, hg1] at this; exact this
        obtain ⟨A2, c2, rfl, hC2⟩ := (PartR.same (fun b cs hb => HBW.out.block b (Array.getElem?_eq_some_iff.1 hb).1) _ _ hv2 : PartR wr v2 a).C (by omega)
        have HG1 := Aside0.mk hg1; have HC2 := Aside0.mk hC2
        clear hl hg1 hsm hv2 hC2
        go_wp2_with (first | ((with_reducible refine gate_builtin (b := .append) (xs := #[.tmp 144, .tmp 150]) rfl ?_); at_builtin; obtain ⟨sp0, ho_⟩ := HO.out; refine wp_rf_rows (w0 := W8) W8.heap.size rfl (.tmp 144) (.tmp 150) rfl _ acc sp0 a _ _ _ rfl rfl ho_ HC2.out HBW.out (below_size HBW.out) (by have := HFL.out; omega) ?_; intro v1 w1 sp1 ho hb hg; have HO1 : Aside0 (RS W8.heap.size w1 v1 _) := Aside0.mk ⟨sp1, ho⟩; clear HBW; have HBW := Aside0.mk hb; clear ho_ ho hb hg))
        exact ⟨⟨i + 1, rfl, by omega, by omega, ⟨by rw [HSU.out, HG1.out]; exact HO1.out⟩, HBW⟩, by simp only [intOf]; omega⟩
    · have dx : decide (i < x10) = false := decide_eq_false hx
      have hie : i = x10 := by omega
      rw [hie] at HO
      clear hx dx hi0 hi1
      have hm9 := HM8.out.below HBW.out
      have ht := tell_calls g _ ws N wr hm9 hNr (by intro h; exact absurd (h.symm.trans HANY.out) (by simp))
      have HO9 := Aside0.mk HO.out
      go_wp2_with fail
      ((with_reducible refine ht.mono ?_); rintro e_ W9 ⟨rfl, hm10', hgr9⟩)
      clear ht
      go_wp2
      go_ret3
      refine ⟨_, ws, rfl, ?_, hm10', HWS.out, ?_⟩
      · have hout : outF { s with acked := hearF s b, parts := s.parts ++ [(x9, b.drop 11)] } = (List.range x10.toNat).flatMap (fun j : Nat => (pget (j : Int) P).getD []) := by rw [← HPP.out]; unfold outF; rw [HMX.out]
        rw [hout]
        refine (HO9.out.lower (Keeps.then HK8.out (Keeps.refl _ _)).2.2.2.1).move (fun b hb hlt => hgr9.block b hlt (fun e => ?_))
        injection e with e
        have h1 := (HO9.out.own b hb).1
        have h2 := HGL8.out
        omega
      · exact (HK8.out.then (Keeps.of_below HBW.out ws)).trans (Keeps.of_grown hgr9 hm9.g_in.1) HWS.out
set_option maxHeartbeats 8000000 in
set_option maxRecDepth 100000 in
theorem rcv_same_wronga [Inhabited OkB] (A : Option Addr) (c : Nat) (d : List Int) (g : Nat) (s : LS) (ws : List Nat) (w : World) (h : LinkM w g s ws) (hC : Kd.C (Kd.int .u8) w A d.length d) (hc : d.length ≤ c) (hd : ∀ x ∈ d, 0 ≤ x ∧ x < 256) (hl : d.length ≤ 140737488351232) (hT : Tab w) (hokb : ∀ k, w.heap.size ≤ k → (default : OkB).ok k)
    (b : List Int) (N x9 x10 : Int) (hbe : b = (opF d).1) (hNx : N = rd b 7 * 256 + rd b 8) (hx9 : x9 = rd b 9) (hx10 : x10 = rd b 10) (hbl : b.length ≤ 140737488355328) (h2 : (opF d).2 = true) (h3 : formedF b = true) (hany : s.any = true) (hnw : newerF N s.last = true) (hw : s.waits = true) (hsame : N = s.n) (hmx : s.many ≠ x10) : Calls Tryd.prog 13 #[.pointer (some ⟨g, 0, none⟩), .slice A d.length c] w (RcvPost w g ws { s with acked := hearF s b } [] false 70) := by
  have HANY := Aside0.mk hany; clear hany
  have HNW := Aside0.mk hnw; clear hnw
  have H0hsame := Aside0.mk hsame; clear hsame
  have H0hmx := Aside0.mk hmx; clear hmx
  have HWA := Aside0.mk hw; clear hw
  have HOKB := Aside0.mk hokb; clear hokb
  have HX9 := Aside0.mk hx9; have HX10 := Aside0.mk hx10; have HNX := Aside0.mk hNx
  clear hx9 hx10 hNx
  have hbr : ∀ x ∈ b, 0 ≤ x ∧ x < 256 := by rw [hbe]; exact opF_range d hd
  have hO := Open_callsF A c d w hC hc (by omega) hT
  rw [h2, ← hbe] at hO
  obtain ⟨L, hL⟩ : ∃ L, L = b.length := ⟨_, rfl⟩
  rw [← hL] at hbl
  have HLN := Aside0.mk hL; have HBR := Aside0.mk hbr
  clear hbe hL hbr h2 hC hd hc hT
  go_enter Tryd.func13, Tryd.ntmps13
  go_wp2
  refine wp_scope_fwd 0 rfl ?_
  go_wp2_with fail
  ((with_reducible refine hO.mono ?_); rintro e_ W1 ⟨v0, rfl, ⟨sp, ho_⟩, hb_⟩)
  obtain ⟨Ab, hv, hA, _, hcm⟩ := ho_.form
  rw [List.length_append, ← HLN.out] at hv hcm
  subst hv
  have hRR := Kd.R_reads' ho_.R
  rw [← HLN.out] at hRR
  obtain ⟨h11, hm1, hm10, hpm, hsz⟩ := formed_facts h3
  rw [← HLN.out] at h11 hsz
  obtain ⟨gb, hgb, hbk⟩ := hA.resolve_left (fun hn => by
    have h1 := HLN.out
    rw [(List.append_eq_nil_iff.1 hn.2).1] at h1
    simp at h1
    omega)
  subst hgb
  have HBK := Aside0.mk hbk
  generalize hq_ : sp.length = q at hRR hcm ⊢
  clear hq_
  have hF := formed_calls (some ⟨gb, 0, none⟩) L (L + q) b W1 hRR.2.2 hRR.2.1 (fun _ => ⟨gb, rfl⟩) HBR.out hbl
  rw [h3] at hF
  have hgbn := ho_.base gb rfl
  have HL1 := Aside0.mk (h.below hb_); have HB := Aside0.mk hb_; have HH := Aside0.mk h; have HGB := Aside0.mk hgbn
  have HSZ := Aside0.mk hsz; have hLq := hRR.2.1
  clear h hbk ho_ hb_ hO hRR hA h3 hgbn hsz
  go_wp2_with fail
  ((with_reducible refine hF.mono ?_); rintro e_ W2 ⟨rfl, q_, rfl⟩)
  clear hF
  have HL2 := Aside0.mk (HL1.out.below (pw_below_drewN (Below.refl _ _) q_))
  have hcellf : ∀ (W : World), W.heap[gb]? = some (Obj.cells ((b ++ sp).map (Value.int .u8)).toArray 5 (0, 0)) → ∀ i : Nat, i < L → W.cell? ⟨gb, i, none⟩ = some (.int .u8 (rd b (i : Int))) := by
    intro W hW i hi
    have hi' : i < b.length := by have := HLN.out; omega
    rw [blk_cell hW, rd_get' hi']
    simp only [List.getElem?_toArray, List.map_append]
    rw [List.getElem?_append_left (by simpa using hi'), List.getElem?_map, List.getElem?_eq_getElem hi']
    rfl
  have HCF := Aside0.mk hcellf; clear hcellf
  have hh := hear_calls g s ws gb L (L + q) b (W1.drewN q_) HL2.out HLN.out.symm (HCF.out _ HBK.out) h11 HBR.out
  go_wp2_with fail
  ((with_reducible refine hh.mono ?_); rintro e_ W3 ⟨rfl, hm3, hk3⟩)
  clear hh
  have hbk3 := hk3.u8 HL2.out HBK.out
  have HBK3 := Aside0.mk hbk3
  have HK3 : Aside0 (Keeps w W3 ws) := ⟨(Keeps.of_below (pw_below_drewN HB.out q_) ws).then hk3⟩
  have HM3 := Aside0.mk hm3
  have c7 : W3.cell? ⟨gb, 7, none⟩ = some (.int .u8 (rd b 7)) := HCF.out _ hbk3 7 (by omega)
  have c8 : W3.cell? ⟨gb, 8, none⟩ = some (.int .u8 (rd b 8)) := HCF.out _ hbk3 8 (by omega)
  have c9 : W3.cell? ⟨gb, 9, none⟩ = some (.int .u8 (rd b 9)) := HCF.out _ hbk3 9 (by omega)
  have c10 : W3.cell? ⟨gb, 10, none⟩ = some (.int .u8 (rd b 10)) := HCF.out _ hbk3 10 (by omega)
  have rdr : ∀ i : Nat, i < 11 → 0 ≤ rd b (i : Int) ∧ rd b (i : Int) < 256 := fun i hi => rd_mem HBR.out (by omega) (by have := HLN.out; omega)
  have r7 : 0 ≤ rd b 7 ∧ rd b 7 < 256 := rdr 7 (by omega)
  have r8 : 0 ≤ rd b 8 ∧ rd b 8 < 256 := rdr 8 (by omega)
  have r9 : 0 ≤ rd b 9 ∧ rd b 9 < 256 := rdr 9 (by omega)
  have r10 : 0 ≤ rd b 10 ∧ rd b 10 < 256 := rdr 10 (by omega)
  obtain ⟨sv, ma, mp, gs, mb, hg3, hs3, ha3, hp3, hw3, hne3, hws3, hok3⟩ := hm3
  obtain ⟨mo, rfl⟩ : ∃ o, mp = .map o := by
    rcases hp3 with ⟨e, _⟩ | ⟨b', _, e, _⟩
    · exact ⟨_, e⟩
    · exact ⟨_, e⟩
  obtain ⟨_, _, _, k3, k4, _, k6, k7, k8, k9⟩ := lcell hg3
  change W3.cell? ⟨g, 3, none⟩ = some (.bool s.any) at k3
  change W3.cell? ⟨g, 4, none⟩ = some (.int .u16 s.last) at k4
  change W3.cell? ⟨g, 6, none⟩ = some (.bool s.waits) at k6
  change W3.cell? ⟨g, 7, none⟩ = some (.int .u16 s.n) at k7
  change W3.cell? ⟨g, 8, none⟩ = some (.int .i64 s.many) at k8
  have hNe : bits .or .u16 (rd b 7 * 256) (rd b 8) = rd b 7 * 256 + rd b 8 := or_add16 _ _ r7 r8
  have hfz : ∀ j, W3.frozen? ⟨g, j, none⟩ = false := fun j => blk_frozen hg3 j
  have hgl : g < W3.heap.size := (Array.getElem?_eq_some_iff.1 hg3).1
  have hsamea : ∀ (o : Obj) (n : Nat), ((W3.drewN n).alloc o).heap[g]? = W3.heap[g]? := fun o n => (MapKept.heap_alloc (W3.drewN n) o).2 g hgl
  have al : ∀ (o : Obj) (n j : Nat), ((W3.drewN n).alloc o).cell? ⟨g, j, none⟩ = W3.cell? ⟨g, j, none⟩ ∧ ((W3.drewN n).alloc o).frozen? ⟨g, j, none⟩ = W3.frozen? ⟨g, j, none⟩ := fun o n j => ⟨World.cell?_of_block (a := ⟨g, j, none⟩) (hsamea o n), World.frozen?_of_block (a := ⟨g, j, none⟩) (hsamea o n)⟩
  have hok := HH.out.ok
  have HOK := Aside0.mk hok; clear hok
  have HAL := Aside0.mk al
  clear al hsamea hg3 hs3 ha3 hp3 hw3 hne3 hws3 hok3 hbk3 hk3 rdr
  have hx9 := HX9.out; have hx10 := HX10.out; have hNx := HNX.out
  rw [← hNx] at hNe
  have hNr : 0 ≤ N ∧ N < 65536 := by omega
  obtain ⟨x7, hx7⟩ : ∃ x, x = rd b 7 := ⟨_, rfl⟩
  obtain ⟨x8, hx8⟩ : ∃ x, x = rd b 8 := ⟨_, rfl⟩
  rw [← hx7] at c7 r7 hNe; rw [← hx8] at c8 r8 hNe; rw [← hx9] at c9 r9 hpm; rw [← hx10] at c10 r10 hm1 hm10 hpm
  clear hx7 hx8 hx9 hx10 hNx
  have hsame := H0hsame.out
  have n1 : decide (N = s.n) = true := decide_eq_true hsame
  have n2 : (N == s.n) = true := beq_iff_eq.2 hsame
  have n3 : (N != s.n) = false := by rw [hsame]; exact bne_self_eq_false _
  clear hsame
  rw [HWA.out] at k6
  have HWT := Aside0.mk HWA.out
  rw [HANY.out] at k3
  have hnw := HNW.out
  go_wp2
  go_quiet (fail)
  go_wp2_with fail
  ((with_reducible refine (newer_calls _ _ _).mono ?_); rintro e_ Wn ⟨rfl, rfl⟩)
  rw [hnw]
  go_wp2
  generalize hW4 : W3.drewN nq = W4
  have hb4 : Below W3.heap.size W3 W4 := by rw [← hW4]; exact pw_below_drewN (Below.refl _ _) _
  have hm4 := HM3.out.below hb4
  have HKK : Aside0 (Keeps w W4 ws) := ⟨HK3.out.then (Keeps.of_below hb4 ws)⟩
  have HWS : Aside0 (∀ k ∈ ws, k ∈ ws ∨ w.heap.size ≤ k) := ⟨fun k hk => .inl hk⟩
  have hbk4 : W4.heap[gb]? = some (Obj.cells ((b ++ sp).map (Value.int .u8)).toArray 5 (0, 0)) := by rw [← hW4]; exact HBK3.out
  clear hb4 hW4
  have c10' : W4.cell? ⟨gb, 10, none⟩ = some (.int .u8 x10) := by rw [HX10.out]; exact HCF.out _ hbk4 10 (by omega)
  obtain ⟨s2, hs2⟩ : ∃ x : LS, x = { s with acked := hearF s b } := ⟨_, rfl⟩
  rw [← hs2] at hm4
  obtain ⟨mbb, j8, j9, him, hgl4⟩ := waiting hm4 (by rw [hs2]; exact HWT.out)
  have e_parts : s2.parts = s.parts := by rw [hs2]
  have e_many : s2.many = s.many := by rw [hs2]
  rw [e_many] at j8
  have hok4 := hm4.ok
  have HS2 := Aside0.mk hs2; have HM4 := Aside0.mk hm4; have HIM := Aside0.mk him; have HBK4 := Aside0.mk hbk4; have HEP := Aside0.mk e_parts; have HEM := Aside0.mk e_many; have HOK4 := Aside0.mk hok4
  have hlk := him.lookS Tryd.underlying62 Tryd.underlying3 zslice x9
  rw [e_parts] at hlk
  have hmx := H0hmx.out
  clear hs2 hm4 him hbk4 e_parts e_many hok4 hlk
  have m1 : decide (s.many = x10) = false := decide_eq_false hmx
  have m2 : (s.many == x10) = false := beq_eq_false_iff_ne.2 hmx
  have m3 : (s.many != x10) = true := bne_iff_ne.2 hmx
  go_quiet (fail)
  go_wp2
  go_step3
  refine ⟨rfl, ?_⟩
  go_wp2
  (try simp only [Exit.jump])
  go_ret3
  exact ⟨_, ws, rfl, RS.nil _ _, by rw [← HS2.out]; exact HM4.out.below (pw_below_drewN (Below.refl _ _) _), fun k hk => .inl hk, HKK.out⟩
set_option maxHeartbeats 8000000 in
set_option maxRecDepth 100000 in
theorem rcv_same_stalea [Inhabited OkB] (A : Option Addr) (c : Nat) (d : List Int) (g : Nat) (s : LS) (ws : List Nat) (w : World) (h : LinkM w g s ws) (hC : Kd.C (Kd.int .u8) w A d.length d) (hc : d.length ≤ c) (hd : ∀ x ∈ d, 0 ≤ x ∧ x < 256) (hl : d.length ≤ 140737488351232) (hT : Tab w) (hokb : ∀ k, w.heap.size ≤ k → (default : OkB).ok k)
    (b : List Int) (N x9 x10 : Int) (hbe : b = (opF d).1) (hNx : N = rd b 7 * 256 + rd b 8) (hx9 : x9 = rd b 9) (hx10 : x10 = rd b 10) (hbl : b.length ≤ 140737488355328) (h2 : (opF d).2 = true) (h3 : formedF b = true) (hany : s.any = true) (hnw : newerF N s.last = true) (hw : s.waits = true) (hsame : N = s.n) (hmx : s.many = x10) (hpg : (pget x9 s.parts).isSome = true) : Calls Tryd.prog 13 #[.pointer (some ⟨g, 0, none⟩), .slice A d.length c] w (RcvPost w g ws { s with acked := hearF s b } [] false 71) := by
  have HANY := Aside0.mk hany; clear hany
  have HNW := Aside0.mk hnw; clear hnw
  have H0hsame := Aside0.mk hsame; clear hsame
  have H0hmx := Aside0.mk hmx; clear hmx
  have H0hpg := Aside0.mk hpg; clear hpg
  have HWA := Aside0.mk hw; clear hw
  have HOKB := Aside0.mk hokb; clear hokb
  have HX9 := Aside0.mk hx9; have HX10 := Aside0.mk hx10; have HNX := Aside0.mk hNx
  clear hx9 hx10 hNx
  have hbr : ∀ x ∈ b, 0 ≤ x ∧ x < 256 := by rw [hbe]; exact opF_range d hd
  have hO := Open_callsF A c d w hC hc (by omega) hT
  rw [h2, ← hbe] at hO
  obtain ⟨L, hL⟩ : ∃ L, L = b.length := ⟨_, rfl⟩
  rw [← hL] at hbl
  have HLN := Aside0.mk hL; have HBR := Aside0.mk hbr
  clear hbe hL hbr h2 hC hd hc hT
  go_enter Tryd.func13, Tryd.ntmps13
  go_wp2
  refine wp_scope_fwd 1 rfl ?_
  go_wp2_with fail
  ((with_reducible refine hO.mono ?_); rintro e_ W1 ⟨v0, rfl, ⟨sp, ho_⟩, hb_⟩)
  obtain ⟨Ab, hv, hA, _, hcm⟩ := ho_.form
  rw [List.length_append, ← HLN.out] at hv hcm
  subst hv
  have hRR := Kd.R_reads' ho_.R
  rw [← HLN.out] at hRR
  obtain ⟨h11, hm1, hm10, hpm, hsz⟩ := formed_facts h3
  rw [← HLN.out] at h11 hsz
  obtain ⟨gb, hgb, hbk⟩ := hA.resolve_left (fun hn => by
    have h1 := HLN.out
    rw [(List.append_eq_nil_iff.1 hn.2).1] at h1
    simp at h1
    omega)
  subst hgb
  have HBK := Aside0.mk hbk
  generalize hq_ : sp.length = q at hRR hcm ⊢
  clear hq_
  have hF := formed_calls (some ⟨gb, 0, none⟩) L (L + q) b W1 hRR.2.2 hRR.2.1 (fun _ => ⟨gb, rfl⟩) HBR.out hbl
  rw [h3] at hF
  have hgbn := ho_.base gb rfl
  have HL1 := Aside0.mk (h.below hb_); have HB := Aside0.mk hb_; have HH := Aside0.mk h; have HGB := Aside0.mk hgbn
  have HSZ := Aside0.mk hsz; have hLq := hRR.2.1
  clear h hbk ho_ hb_ hO hRR hA h3 hgbn hsz
  go_wp2_with fail
  ((with_reducible refine hF.mono ?_); rintro e_ W2 ⟨rfl, q_, rfl⟩)
  clear hF
  have HL2 := Aside0.mk (HL1.out.below (pw_below_drewN (Below.refl _ _) q_))
  have hcellf : ∀ (W : World), W.heap[gb]? = some (Obj.cells ((b ++ sp).map (Value.int .u8)).toArray 5 (0, 0)) → ∀ i : Nat, i < L → W.cell? ⟨gb, i, none⟩ = some (.int .u8 (rd b (i : Int))) := by
    intro W hW i hi
    have hi' : i < b.length := by have := HLN.out; omega
    rw [blk_cell hW, rd_get' hi']
    simp only [List.getElem?_toArray, List.map_append]
    rw [List.getElem?_append_left (by simpa using hi'), List.getElem?_map, List.getElem?_eq_getElem hi']
    rfl
  have HCF := Aside0.mk hcellf; clear hcellf
  have hh := hear_calls g s ws gb L (L + q) b (W1.drewN q_) HL2.out HLN.out.symm (HCF.out _ HBK.out) h11 HBR.out
  go_wp2_with fail
  ((with_reducible refine hh.mono ?_); rintro e_ W3 ⟨rfl, hm3, hk3⟩)
  clear hh
  have hbk3 := hk3.u8 HL2.out HBK.out
  have HBK3 := Aside0.mk hbk3
  have HK3 : Aside0 (Keeps w W3 ws) := ⟨(Keeps.of_below (pw_below_drewN HB.out q_) ws).then hk3⟩
  have HM3 := Aside0.mk hm3
  have c7 : W3.cell? ⟨gb, 7, none⟩ = some (.int .u8 (rd b 7)) := HCF.out _ hbk3 7 (by omega)
  have c8 : W3.cell? ⟨gb, 8, none⟩ = some (.int .u8 (rd b 8)) := HCF.out _ hbk3 8 (by omega)
  have c9 : W3.cell? ⟨gb, 9, none⟩ = some (.int .u8 (rd b 9)) := HCF.out _ hbk3 9 (by omega)
  have c10 : W3.cell? ⟨gb, 10, none⟩ = some (.int .u8 (rd b 10)) := HCF.out _ hbk3 10 (by omega)
  have rdr : ∀ i : Nat, i < 11 → 0 ≤ rd b (i : Int) ∧ rd b (i : Int) < 256 := fun i hi => rd_mem HBR.out (by omega) (by have := HLN.out; omega)
  have r7 : 0 ≤ rd b 7 ∧ rd b 7 < 256 := rdr 7 (by omega)
  have r8 : 0 ≤ rd b 8 ∧ rd b 8 < 256 := rdr 8 (by omega)
  have r9 : 0 ≤ rd b 9 ∧ rd b 9 < 256 := rdr 9 (by omega)
  have r10 : 0 ≤ rd b 10 ∧ rd b 10 < 256 := rdr 10 (by omega)
  obtain ⟨sv, ma, mp, gs, mb, hg3, hs3, ha3, hp3, hw3, hne3, hws3, hok3⟩ := hm3
  obtain ⟨mo, rfl⟩ : ∃ o, mp = .map o := by
    rcases hp3 with ⟨e, _⟩ | ⟨b', _, e, _⟩
    · exact ⟨_, e⟩
    · exact ⟨_, e⟩
  obtain ⟨_, _, _, k3, k4, _, k6, k7, k8, k9⟩ := lcell hg3
  change W3.cell? ⟨g, 3, none⟩ = some (.bool s.any) at k3
  change W3.cell? ⟨g, 4, none⟩ = some (.int .u16 s.last) at k4
  change W3.cell? ⟨g, 6, none⟩ = some (.bool s.waits) at k6
  change W3.cell? ⟨g, 7, none⟩ = some (.int .u16 s.n) at k7
  change W3.cell? ⟨g, 8, none⟩ = some (.int .i64 s.many) at k8
  have hNe : bits .or .u16 (rd b 7 * 256) (rd b 8) = rd b 7 * 256 + rd b 8 := or_add16 _ _ r7 r8
  have hfz : ∀ j, W3.frozen? ⟨g, j, none⟩ = false := fun j => blk_frozen hg3 j
  have hgl : g < W3.heap.size := (Array.getElem?_eq_some_iff.1 hg3).1
  have hsamea : ∀ (o : Obj) (n : Nat), ((W3.drewN n).alloc o).heap[g]? = W3.heap[g]? := fun o n => (MapKept.heap_alloc (W3.drewN n) o).2 g hgl
  have al : ∀ (o : Obj) (n j : Nat), ((W3.drewN n).alloc o).cell? ⟨g, j, none⟩ = W3.cell? ⟨g, j, none⟩ ∧ ((W3.drewN n).alloc o).frozen? ⟨g, j, none⟩ = W3.frozen? ⟨g, j, none⟩ := fun o n j => ⟨World.cell?_of_block (a := ⟨g, j, none⟩) (hsamea o n), World.frozen?_of_block (a := ⟨g, j, none⟩) (hsamea o n)⟩
  have hok := HH.out.ok
  have HOK := Aside0.mk hok; clear hok
  have HAL := Aside0.mk al
  clear al hsamea hg3 hs3 ha3 hp3 hw3 hne3 hws3 hok3 hbk3 hk3 rdr
  have hx9 := HX9.out; have hx10 := HX10.out; have hNx := HNX.out
  rw [← hNx] at hNe
  have hNr : 0 ≤ N ∧ N < 65536 := by omega
  obtain ⟨x7, hx7⟩ : ∃ x, x = rd b 7 := ⟨_, rfl⟩
  obtain ⟨x8, hx8⟩ : ∃ x, x = rd b 8 := ⟨_, rfl⟩
  rw [← hx7] at c7 r7 hNe; rw [← hx8] at c8 r8 hNe; rw [← hx9] at c9 r9 hpm; rw [← hx10] at c10 r10 hm1 hm10 hpm
  clear hx7 hx8 hx9 hx10 hNx
  have hsame := H0hsame.out
  have n1 : decide (N = s.n) = true := decide_eq_true hsame
  have n2 : (N == s.n) = true := beq_iff_eq.2 hsame
  have n3 : (N != s.n) = false := by rw [hsame]; exact bne_self_eq_false _
  clear hsame
  rw [HWA.out] at k6
  have HWT := Aside0.mk HWA.out
  rw [HANY.out] at k3
  have hnw := HNW.out
  go_wp2
  go_quiet (fail)
  go_wp2_with fail
  ((with_reducible refine (newer_calls _ _ _).mono ?_); rintro e_ Wn ⟨rfl, rfl⟩)
  rw [hnw]
  go_wp2
  generalize hW4 : W3.drewN nq = W4
  have hb4 : Below W3.heap.size W3 W4 := by rw [← hW4]; exact pw_below_drewN (Below.refl _ _) _
  have hm4 := HM3.out.below hb4
  have HKK : Aside0 (Keeps w W4 ws) := ⟨HK3.out.then (Keeps.of_below hb4 ws)⟩
  have HWS : Aside0 (∀ k ∈ ws, k ∈ ws ∨ w.heap.size ≤ k) := ⟨fun k hk => .inl hk⟩
  have hbk4 : W4.heap[gb]? = some (Obj.cells ((b ++ sp).map (Value.int .u8)).toArray 5 (0, 0)) := by rw [← hW4]; exact HBK3.out
  clear hb4 hW4
  have c10' : W4.cell? ⟨gb, 10, none⟩ = some (.int .u8 x10) := by rw [HX10.out]; exact HCF.out _ hbk4 10 (by omega)
  obtain ⟨s2, hs2⟩ : ∃ x : LS, x = { s with acked := hearF s b } := ⟨_, rfl⟩
  rw [← hs2] at hm4
  obtain ⟨mbb, j8, j9, him, hgl4⟩ := waiting hm4 (by rw [hs2]; exact HWT.out)
  have e_parts : s2.parts = s.parts := by rw [hs2]
  have e_many : s2.many = s.many := by rw [hs2]
  rw [e_many] at j8
  have hok4 := hm4.ok
  have HS2 := Aside0.mk hs2; have HM4 := Aside0.mk hm4; have HIM := Aside0.mk him; have HBK4 := Aside0.mk hbk4; have HEP := Aside0.mk e_parts; have HEM := Aside0.mk e_many; have HOK4 := Aside0.mk hok4
  have hlk := him.lookS Tryd.underlying62 Tryd.underlying3 zslice x9
  rw [e_parts] at hlk
  have hmx := H0hmx.out
  have hpg := H0hpg.out
  rw [hmx] at j8
  have HMX := Aside0.mk hmx; clear hmx
  obtain ⟨a_, v_, hsm, _, hl3⟩ := hlk.resolve_left (fun h => by rw [h.1] at hpg; cases hpg)
  have hl2 : ∀ n, (Instr.lookup 62 (.map (some mbb)) (.int .i64 x9) true).run Tryd.prog (W4.drewN n) = .ok (.tuple #[v_, .bool true]) (W4.drewN n) := fun n => hl3 true _ rfl
  clear hs2 hm4 him hbk4 e_parts e_many hok4 hlk hl3 hsm hpg
  have m1 : decide (x10 = x10) = true := decide_eq_true rfl
  have m3 : (x10 != x10) = false := bne_self_eq_false x10
  go_quiet (fail)
  go_wp2
  go_step3
  refine ⟨rfl, ?_⟩
  go_wp2
  (try simp only [Exit.jump])
  go_ret3
  exact ⟨_, ws, rfl, RS.nil _ _, by rw [← HS2.out]; exact HM4.out.below (pw_below_drewN (Below.refl _ _) _), fun k hk => .inl hk, HKK.out⟩
set_option maxHeartbeats 8000000 in
set_option maxRecDepth 100000 in
theorem rcv_same_pendinga [Inhabited OkB] (A : Option Addr) (c : Nat) (d : List Int) (g : Nat) (s : LS) (ws : List Nat) (w : World) (h : LinkM w g s ws) (hC : Kd.C (Kd.int .u8) w A d.length d) (hc : d.length ≤ c) (hd : ∀ x ∈ d, 0 ≤ x ∧ x < 256) (hl : d.length ≤ 140737488351232) (hT : Tab w) (hokb : ∀ k, w.heap.size ≤ k → (default : OkB).ok k)
    (b : List Int) (N x9 x10 : Int) (hbe : b = (opF d).1) (hNx : N = rd b 7 * 256 + rd b 8) (hx9 : x9 = rd b 9) (hx10 : x10 = rd b 10) (hbl : b.length ≤ 140737488355328) (h2 : (opF d).2 = true) (h3 : formedF b = true) (hany : s.any = true) (hnw : newerF N s.last = true) (hw : s.waits = true) (hsame : N = s.n) (hmx : s.many = x10) (hpg : pget x9 s.parts = none) (hless : (s.parts.length : Int) + 1 < x10) : Calls Tryd.prog 13 #[.pointer (some ⟨g, 0, none⟩), .slice A d.length c] w (RcvPost w g ws { s with acked := hearF s b, parts := s.parts ++ [(x9, b.drop 11)] } [] false 0) := by
  have HANY := Aside0.mk hany; clear hany
  have HNW := Aside0.mk hnw; clear hnw
  have H0hsame := Aside0.mk hsame; clear hsame
  have H0hmx := Aside0.mk hmx; clear hmx
  have H0hpg := Aside0.mk hpg; clear hpg
  have HWA := Aside0.mk hw; clear hw
  have HOKB := Aside0.mk hokb; clear hokb
  have HX9 := Aside0.mk hx9; have HX10 := Aside0.mk hx10; have HNX := Aside0.mk hNx
  clear hx9 hx10 hNx
  have hbr : ∀ x ∈ b, 0 ≤ x ∧ x < 256 := by rw [hbe]; exact opF_range d hd
  have hO := Open_callsF A c d w hC hc (by omega) hT
  rw [h2, ← hbe] at hO
  obtain ⟨L, hL⟩ : ∃ L, L = b.length := ⟨_, rfl⟩
  rw [← hL] at hbl
  have HLN := Aside0.mk hL; have HBR := Aside0.mk hbr
  clear hbe hL hbr h2 hC hd hc hT
  go_enter Tryd.func13, Tryd.ntmps13
  go_wp2
  refine wp_scope_fwd 1 rfl ?_
  go_wp2_with fail
  ((with_reducible refine hO.mono ?_); rintro e_ W1 ⟨v0, rfl, ⟨sp, ho_⟩, hb_⟩)
  obtain ⟨Ab, hv, hA, _, hcm⟩ := ho_.form
  rw [List.length_append, ← HLN.out] at hv hcm
  subst hv
  have hRR := Kd.R_reads' ho_.R
  rw [← HLN.out] at hRR
  obtain ⟨h11, hm1, hm10, hpm, hsz⟩ := formed_facts h3
  rw [← HLN.out] at h11 hsz
  obtain ⟨gb, hgb, hbk⟩ := hA.resolve_left (fun hn => by
    have h1 := HLN.out
    rw [(List.append_eq_nil_iff.1 hn.2).1] at h1
    simp at h1
    omega)
  subst hgb
  have HBK := Aside0.mk hbk
  generalize hq_ : sp.length = q at hRR hcm ⊢
  clear hq_
  have hF := formed_calls (some ⟨gb, 0, none⟩) L (L + q) b W1 hRR.2.2 hRR.2.1 (fun _ => ⟨gb, rfl⟩) HBR.out hbl
  rw [h3] at hF
  have hgbn := ho_.base gb rfl
  have HL1 := Aside0.mk (h.below hb_); have HB := Aside0.mk hb_; have HH := Aside0.mk h; have HGB := Aside0.mk hgbn
  have HSZ := Aside0.mk hsz; have hLq := hRR.2.1
  clear h hbk ho_ hb_ hO hRR hA h3 hgbn hsz
  go_wp2_with fail
  ((with_reducible refine hF.mono ?_); rintro e_ W2 ⟨rfl, q_, rfl⟩)
  clear hF
  have HL2 := Aside0.mk (HL1.out.below (pw_below_drewN (Below.refl _ _) q_))
  have hcellf : ∀ (W : World), W.heap[gb]? = some (Obj.cells ((b ++ sp).map (Value.int .u8)).toArray 5 (0, 0)) → ∀ i : Nat, i < L → W.cell? ⟨gb, i, none⟩ = some (.int .u8 (rd b (i : Int))) := by
    intro W hW i hi
    have hi' : i < b.length := by have := HLN.out; omega
    rw [blk_cell hW, rd_get' hi']
    simp only [List.getElem?_toArray, List.map_append]
    rw [List.getElem?_append_left (by simpa using hi'), List.getElem?_map, List.getElem?_eq_getElem hi']
    rfl
  have HCF := Aside0.mk hcellf; clear hcellf
  have hh := hear_calls g s ws gb L (L + q) b (W1.drewN q_) HL2.out HLN.out.symm (HCF.out _ HBK.out) h11 HBR.out
  go_wp2_with fail
  ((with_reducible refine hh.mono ?_); rintro e_ W3 ⟨rfl, hm3, hk3⟩)
  clear hh
  have hbk3 := hk3.u8 HL2.out HBK.out
  have HBK3 := Aside0.mk hbk3
  have HK3 : Aside0 (Keeps w W3 ws) := ⟨(Keeps.of_below (pw_below_drewN HB.out q_) ws).then hk3⟩
  have HM3 := Aside0.mk hm3
  have c7 : W3.cell? ⟨gb, 7, none⟩ = some (.int .u8 (rd b 7)) := HCF.out _ hbk3 7 (by omega)
  have c8 : W3.cell? ⟨gb, 8, none⟩ = some (.int .u8 (rd b 8)) := HCF.out _ hbk3 8 (by omega)
  have c9 : W3.cell? ⟨gb, 9, none⟩ = some (.int .u8 (rd b 9)) := HCF.out _ hbk3 9 (by omega)
  have c10 : W3.cell? ⟨gb, 10, none⟩ = some (.int .u8 (rd b 10)) := HCF.out _ hbk3 10 (by omega)
  have rdr : ∀ i : Nat, i < 11 → 0 ≤ rd b (i : Int) ∧ rd b (i : Int) < 256 := fun i hi => rd_mem HBR.out (by omega) (by have := HLN.out; omega)
  have r7 : 0 ≤ rd b 7 ∧ rd b 7 < 256 := rdr 7 (by omega)
  have r8 : 0 ≤ rd b 8 ∧ rd b 8 < 256 := rdr 8 (by omega)
  have r9 : 0 ≤ rd b 9 ∧ rd b 9 < 256 := rdr 9 (by omega)
  have r10 : 0 ≤ rd b 10 ∧ rd b 10 < 256 := rdr 10 (by omega)
  obtain ⟨sv, ma, mp, gs, mb, hg3, hs3, ha3, hp3, hw3, hne3, hws3, hok3⟩ := hm3
  obtain ⟨mo, rfl⟩ : ∃ o, mp = .map o := by
    rcases hp3 with ⟨e, _⟩ | ⟨b', _, e, _⟩
    · exact ⟨_, e⟩
    · exact ⟨_, e⟩
  obtain ⟨_, _, _, k3, k4, _, k6, k7, k8, k9⟩ := lcell hg3
  change W3.cell? ⟨g, 3, none⟩ = some (.bool s.any) at k3
  change W3.cell? ⟨g, 4, none⟩ = some (.int .u16 s.last) at k4
  change W3.cell? ⟨g, 6, none⟩ = some (.bool s.waits) at k6
  change W3.cell? ⟨g, 7, none⟩ = some (.int .u16 s.n) at k7
  change W3.cell? ⟨g, 8, none⟩ = some (.int .i64 s.many) at k8
  have hNe : bits .or .u16 (rd b 7 * 256) (rd b 8) = rd b 7 * 256 + rd b 8 := or_add16 _ _ r7 r8
  have hfz : ∀ j, W3.frozen? ⟨g, j, none⟩ = false := fun j => blk_frozen hg3 j
  have hgl : g < W3.heap.size := (Array.getElem?_eq_some_iff.1 hg3).1
  have hsamea : ∀ (o : Obj) (n : Nat), ((W3.drewN n).alloc o).heap[g]? = W3.heap[g]? := fun o n => (MapKept.heap_alloc (W3.drewN n) o).2 g hgl
  have al : ∀ (o : Obj) (n j : Nat), ((W3.drewN n).alloc o).cell? ⟨g, j, none⟩ = W3.cell? ⟨g, j, none⟩ ∧ ((W3.drewN n).alloc o).frozen? ⟨g, j, none⟩ = W3.frozen? ⟨g, j, none⟩ := fun o n j => ⟨World.cell?_of_block (a := ⟨g, j, none⟩) (hsamea o n), World.frozen?_of_block (a := ⟨g, j, none⟩) (hsamea o n)⟩
  have hok := HH.out.ok
  have HOK := Aside0.mk hok; clear hok
  have HAL := Aside0.mk al
  clear al hsamea hg3 hs3 ha3 hp3 hw3 hne3 hws3 hok3 hbk3 hk3 rdr
  have hx9 := HX9.out; have hx10 := HX10.out; have hNx := HNX.out
  rw [← hNx] at hNe
  have hNr : 0 ≤ N ∧ N < 65536 := by omega
  obtain ⟨x7, hx7⟩ : ∃ x, x = rd b 7 := ⟨_, rfl⟩
  obtain ⟨x8, hx8⟩ : ∃ x, x = rd b 8 := ⟨_, rfl⟩
  rw [← hx7] at c7 r7 hNe; rw [← hx8] at c8 r8 hNe; rw [← hx9] at c9 r9 hpm; rw [← hx10] at c10 r10 hm1 hm10 hpm
  clear hx7 hx8 hx9 hx10 hNx
  have hsame := H0hsame.out
  have n1 : decide (N = s.n) = true := decide_eq_true hsame
  have n2 : (N == s.n) = true := beq_iff_eq.2 hsame
  have n3 : (N != s.n) = false := by rw [hsame]; exact bne_self_eq_false _
  clear hsame
  rw [HWA.out] at k6
  have HWT := Aside0.mk HWA.out
  rw [HANY.out] at k3
  have hnw := HNW.out
  go_wp2
  go_quiet (fail)
  go_wp2_with fail
  ((with_reducible refine (newer_calls _ _ _).mono ?_); rintro e_ Wn ⟨rfl, rfl⟩)
  rw [hnw]
  go_wp2
  generalize hW4 : W3.drewN nq = W4
  have hb4 : Below W3.heap.size W3 W4 := by rw [← hW4]; exact pw_below_drewN (Below.refl _ _) _
  have hm4 := HM3.out.below hb4
  have HKK : Aside0 (Keeps w W4 ws) := ⟨HK3.out.then (Keeps.of_below hb4 ws)⟩
  have HWS : Aside0 (∀ k ∈ ws, k ∈ ws ∨ w.heap.size ≤ k) := ⟨fun k hk => .inl hk⟩
  have hbk4 : W4.heap[gb]? = some (Obj.cells ((b ++ sp).map (Value.int .u8)).toArray 5 (0, 0)) := by rw [← hW4]; exact HBK3.out
  clear hb4 hW4
  have c10' : W4.cell? ⟨gb, 10, none⟩ = some (.int .u8 x10) := by rw [HX10.out]; exact HCF.out _ hbk4 10 (by omega)
  obtain ⟨s2, hs2⟩ : ∃ x : LS, x = { s with acked := hearF s b } := ⟨_, rfl⟩
  rw [← hs2] at hm4
  obtain ⟨mbb, j8, j9, him, hgl4⟩ := waiting hm4 (by rw [hs2]; exact HWT.out)
  have e_parts : s2.parts = s.parts := by rw [hs2]
  have e_many : s2.many = s.many := by rw [hs2]
  rw [e_many] at j8
  have hok4 := hm4.ok
  have HS2 := Aside0.mk hs2; have HM4 := Aside0.mk hm4; have HIM := Aside0.mk him; have HBK4 := Aside0.mk hbk4; have HEP := Aside0.mk e_parts; have HEM := Aside0.mk e_many; have HOK4 := Aside0.mk hok4
  have hlk := him.lookS Tryd.underlying62 Tryd.underlying3 zslice x9
  rw [e_parts] at hlk
  have hmx := H0hmx.out
  have hpg := H0hpg.out
  rw [hmx] at j8
  have HMX := Aside0.mk hmx; clear hmx
  have hnone : pget x9 s2.parts = none := by rw [e_parts]; exact hpg
  have hl2 : ∀ n, (Instr.lookup 62 (.map (some mbb)) (.int .i64 x9) true).run Tryd.prog (W4.drewN n) = .ok (.tuple #[.slice none 0 0, .bool false]) (W4.drewN n) := fun n => (hlk.resolve_right (fun ⟨a, _, h, _⟩ => by rw [e_parts] at hnone; rw [hnone] at h; cases h)).2 true _ rfl
  have HNONE := Aside0.mk hnone
  clear hs2 hm4 him hbk4 e_parts e_many hok4 hlk hnone
  have m1 : decide (x10 = x10) = true := decide_eq_true rfl
  have m3 : (x10 != x10) = false := bne_self_eq_false x10
  go_quiet (fail)
  go_wp2
  generalize hW5 : W4.drewN nq = W5
  have hh5 : W5.heap = W4.heap := by rw [← hW5]; rfl
  have hb5 : Below W4.heap.size W4 W5 := by rw [← hW5]; exact pw_below_drewN (Below.refl _ _) _
  have hm5 := HM4.out.below hb5
  have j95 : W5.cell? ⟨g, 9, none⟩ = some (.map (some mbb)) := (World.cell?_of_block (a := ⟨g, 9, none⟩) (by rw [hh5])).trans j9
  have hbk5 : W5.heap[gb]? = some (Obj.cells ((b ++ sp).map (Value.int .u8)).toArray 5 (0, 0)) := by rw [hh5]; exact HBK4.out
  have him5 : IM .i64 (PartR W5) W5 mbb s2.parts := (HIM.out.same (by rw [hh5])).imp (PartR.same (fun b cs _ => by rw [hh5]))
  obtain ⟨off, hoff, hcut⟩ := cut11 gb L (L + q) h11 hLq
  have hpr : PartR W5 (.slice (some ⟨gb, off, none⟩) (L - 11) (L + q - 11)) (b.drop 11) := part_of hbk5 HLN.out.symm h11 hoff (HOKB.out gb HGB.out)
  obtain ⟨W6, hup, hgr6, him6⟩ := him5.put1 Tryd.underlying62 Tryd.underlying3 x9 HNONE.out _ (b.drop 11) hpr
  have hpp : ∀ y ∈ s2.parts ++ [(x9, b.drop 11)], y.2.length ≤ 200 ∧ ∀ z ∈ y.2, 0 ≤ z ∧ z < 256 := by
    intro y hy
    rcases List.mem_append.1 hy with hy | hy
    · exact HOK4.out.2.2.2.2.2.2.2 y hy
    · obtain rfl := List.mem_singleton.1 hy
      refine ⟨?_, fun z hz => HBR.out z (List.mem_of_mem_drop hz)⟩
      show (b.drop 11).length ≤ 200
      rw [List.length_drop, ← HLN.out]
      have := HSZ.out
      omega
  obtain ⟨hm6, hk6⟩ := more_parts hm5 j95 hgr6 him6 hpp
  have HM6 := Aside0.mk hm6
  have HK6 : Aside0 (Keeps w W6 ws) := ⟨(HKK.out.trans ((Keeps.of_below hb5 ws).then hk6) HWS.out)⟩
  clear hh5 hb5 hm5 hbk5 him5 hpr hgr6 him6 hpp hm6 hk6 hW5 j8 j9 hl2
  go_region
  generalize hW7 : W6.drew = W7
  have hb7 : Below W6.heap.size W6 W7 := by rw [← hW7]; exact below_drew1 (Below.refl _ _)
  have hm7 := HM6.out.below hb7
  obtain ⟨mb7, u8, u9, him7, hgl7⟩ := waiting hm7 (by rw [HS2.out]; exact HWT.out)
  change W7.cell? ⟨g, 8, none⟩ = some (.int .i64 s2.many) at u8
  rw [HEM.out, HMX.out] at u8
  have HM7 := Aside0.mk hm7; have HIM7 := Aside0.mk him7
  have HK7 : Aside0 (Keeps w W7 ws) := ⟨HK6.out.then (Keeps.of_below hb7 ws)⟩
  have hlen : ∀ ty n, (Builtin.len_ #[62] ty #[.map (some mb7)]).run Tryd.prog (W7.drewN n) = .ok (goInt ((s2.parts ++ [(x9, b.drop 11)]).length : Nat)) (W7.drewN n) := fun ty n => HIM7.out.lenS Tryd.underlying62 _ rfl
  clear hm7 him7 hb7 hW7
  have hcnt : ((s2.parts ++ [(x9, b.drop 11)]).length : Int) = (s.parts.length : Int) + 1 := by rw [HEP.out]; simp
  generalize (s2.parts ++ [(x9, b.drop 11)]).length = cnt at hlen hcnt
  have d5 : decide ((cnt : Int) < x10) = true := decide_eq_true (by rw [hcnt]; exact hless)
  clear hcnt hless
  go_wp2
  go_quiet (fail)
  go_wp2
  go_ret3
  exact ⟨_, ws, rfl, RS.nil _ _, by rw [HS2.out] at HM7; exact HM7.out.below (pw_below_drewN (Below.refl _ _) _), HWS.out, HK7.out⟩
set_option maxHeartbeats 8000000 in
set_option maxRecDepth 100000 in
theorem rcv_same_tolda [Inhabited OkB] (A : Option Addr) (c : Nat) (d : List Int) (g : Nat) (s : LS) (ws : List Nat) (w : World) (h : LinkM w g s ws) (hC : Kd.C (Kd.int .u8) w A d.length d) (hc : d.length ≤ c) (hd : ∀ x ∈ d, 0 ≤ x ∧ x < 256) (hl : d.length ≤ 140737488351232) (hT : Tab w) (hokb : ∀ k, w.heap.size ≤ k → (default : OkB).ok k)
    (b : List Int) (N x9 x10 : Int) (hbe : b = (opF d).1) (hNx : N = rd b 7 * 256 + rd b 8) (hx9 : x9 = rd b 9) (hx10 : x10 = rd b 10) (hbl : b.length ≤ 140737488355328) (h2 : (opF d).2 = true) (h3 : formedF b = true) (hany : s.any = true) (hnw : newerF N s.last = true) (hw : s.waits = true) (hsame : N = s.n) (hmx : s.many = x10) (hpg : pget x9 s.parts = none) (hless : ¬ (s.parts.length : Int) + 1 < x10) : Calls Tryd.prog 13 #[.pointer (some ⟨g, 0, none⟩), .slice A d.length c] w (RcvPost w g ws (tellF { s with acked := hearF s b, parts := s.parts ++ [(x9, b.drop 11)] } N) (outF { s with acked := hearF s b, parts := s.parts ++ [(x9, b.drop 11)] }) true 0) := by
  have HANY := Aside0.mk hany; clear hany
  have HNW := Aside0.mk hnw; clear hnw
  have H0hsame := Aside0.mk hsame; clear hsame
  have H0hmx := Aside0.mk hmx; clear hmx
  have H0hpg := Aside0.mk hpg; clear hpg
  have HWA := Aside0.mk hw; clear hw
  have HOKB := Aside0.mk hokb; clear hokb
  have HX9 := Aside0.mk hx9; have HX10 := Aside0.mk hx10; have HNX := Aside0.mk hNx
  clear hx9 hx10 hNx
  have hbr : ∀ x ∈ b, 0 ≤ x ∧ x < 256 := by rw [hbe]; exact opF_range d hd
  have hO := Open_callsF A c d w hC hc (by omega) hT
  rw [h2, ← hbe] at hO
  obtain ⟨L, hL⟩ : ∃ L, L = b.length := ⟨_, rfl⟩
  rw [← hL] at hbl
  have HLN := Aside0.mk hL; have HBR := Aside0.mk hbr
  clear hbe hL hbr h2 hC hd hc hT
  go_enter Tryd.func13, Tryd.ntmps13
  go_wp2
  refine wp_scope_fwd 1 rfl ?_
  go_wp2_with fail
  ((with_reducible refine hO.mono ?_); rintro e_ W1 ⟨v0, rfl, ⟨sp, ho_⟩, hb_⟩)
  obtain ⟨Ab, hv, hA, _, hcm⟩ := ho_.form
  rw [List.length_append, ← HLN.out] at hv hcm
  subst hv
  have hRR := Kd.R_reads' ho_.R
  rw [← HLN.out] at hRR
  obtain ⟨h11, hm1, hm10, hpm, hsz⟩ := formed_facts h3
  rw [← HLN.out] at h11 hsz
  obtain ⟨gb, hgb, hbk⟩ := hA.resolve_left (fun hn => by
    have h1 := HLN.out
    rw [(List.append_eq_nil_iff.1 hn.2).1] at h1
    simp at h1
    omega)
  subst hgb
  have HBK := Aside0.mk hbk
  generalize hq_ : sp.length = q at hRR hcm ⊢
  clear hq_
  have hF := formed_calls (some ⟨gb, 0, none⟩) L (L + q) b W1 hRR.2.2 hRR.2.1 (fun _ => ⟨gb, rfl⟩) HBR.out hbl
  rw [h3] at hF
  have hgbn := ho_.base gb rfl
  have HL1 := Aside0.mk (h.below hb_); have HB := Aside0.mk hb_; have HH := Aside0.mk h; have HGB := Aside0.mk hgbn
  have HSZ := Aside0.mk hsz; have hLq := hRR.2.1
  clear h hbk ho_ hb_ hO hRR hA h3 hgbn hsz
  go_wp2_with fail
  ((with_reducible refine hF.mono ?_); rintro e_ W2 ⟨rfl, q_, rfl⟩)
  clear hF
  have HL2 := Aside0.mk (HL1.out.below (pw_below_drewN (Below.refl _ _) q_))
  have hcellf : ∀ (W : World), W.heap[gb]? = some (Obj.cells ((b ++ sp).map (Value.int .u8)).toArray 5 (0, 0)) → ∀ i : Nat, i < L → W.cell? ⟨gb, i, none⟩ = some (.int .u8 (rd b (i : Int))) := by
    intro W hW i hi
    have hi' : i < b.length := by have := HLN.out; omega
    rw [blk_cell hW, rd_get' hi']
    simp only [List.getElem?_toArray, List.map_append]
    rw [List.getElem?_append_left (by simpa using hi'), List.getElem?_map, List.getElem?_eq_getElem hi']
    rfl
  have HCF := Aside0.mk hcellf; clear hcellf
  have hh := hear_calls g s ws gb L (L + q) b (W1.drewN q_) HL2.out HLN.out.symm (HCF.out _ HBK.out) h11 HBR.out
  go_wp2_with fail
  ((with_reducible refine hh.mono ?_); rintro e_ W3 ⟨rfl, hm3, hk3⟩)
  clear hh
  have hbk3 := hk3.u8 HL2.out HBK.out
  have HBK3 := Aside0.mk hbk3
  have HK3 : Aside0 (Keeps w W3 ws) := ⟨(Keeps.of_below (pw_below_drewN HB.out q_) ws).then hk3⟩
  have HM3 := Aside0.mk hm3
  have c7 : W3.cell? ⟨gb, 7, none⟩ = some (.int .u8 (rd b 7)) := HCF.out _ hbk3 7 (by omega)
  have c8 : W3.cell? ⟨gb, 8, none⟩ = some (.int .u8 (rd b 8)) := HCF.out _ hbk3 8 (by omega)
  have c9 : W3.cell? ⟨gb, 9, none⟩ = some (.int .u8 (rd b 9)) := HCF.out _ hbk3 9 (by omega)
  have c10 : W3.cell? ⟨gb, 10, none⟩ = some (.int .u8 (rd b 10)) := HCF.out _ hbk3 10 (by omega)
  have rdr : ∀ i : Nat, i < 11 → 0 ≤ rd b (i : Int) ∧ rd b (i : Int) < 256 := fun i hi => rd_mem HBR.out (by omega) (by have := HLN.out; omega)
  have r7 : 0 ≤ rd b 7 ∧ rd b 7 < 256 := rdr 7 (by omega)
  have r8 : 0 ≤ rd b 8 ∧ rd b 8 < 256 := rdr 8 (by omega)
  have r9 : 0 ≤ rd b 9 ∧ rd b 9 < 256 := rdr 9 (by omega)
  have r10 : 0 ≤ rd b 10 ∧ rd b 10 < 256 := rdr 10 (by omega)
  obtain ⟨sv, ma, mp, gs, mb, hg3, hs3, ha3, hp3, hw3, hne3, hws3, hok3⟩ := hm3
  obtain ⟨mo, rfl⟩ : ∃ o, mp = .map o := by
    rcases hp3 with ⟨e, _⟩ | ⟨b', _, e, _⟩
    · exact ⟨_, e⟩
    · exact ⟨_, e⟩
  obtain ⟨_, _, _, k3, k4, _, k6, k7, k8, k9⟩ := lcell hg3
  change W3.cell? ⟨g, 3, none⟩ = some (.bool s.any) at k3
  change W3.cell? ⟨g, 4, none⟩ = some (.int .u16 s.last) at k4
  change W3.cell? ⟨g, 6, none⟩ = some (.bool s.waits) at k6
  change W3.cell? ⟨g, 7, none⟩ = some (.int .u16 s.n) at k7
  change W3.cell? ⟨g, 8, none⟩ = some (.int .i64 s.many) at k8
  have hNe : bits .or .u16 (rd b 7 * 256) (rd b 8) = rd b 7 * 256 + rd b 8 := or_add16 _ _ r7 r8
  have hfz : ∀ j, W3.frozen? ⟨g, j, none⟩ = false := fun j => blk_frozen hg3 j
  have hgl : g < W3.heap.size := (Array.getElem?_eq_some_iff.1 hg3).1
  have hsamea : ∀ (o : Obj) (n : Nat), ((W3.drewN n).alloc o).heap[g]? = W3.heap[g]? := fun o n => (MapKept.heap_alloc (W3.drewN n) o).2 g hgl
  have al : ∀ (o : Obj) (n j : Nat), ((W3.drewN n).alloc o).cell? ⟨g, j, none⟩ = W3.cell? ⟨g, j, none⟩ ∧ ((W3.drewN n).alloc o).frozen? ⟨g, j, none⟩ = W3.frozen? ⟨g, j, none⟩ := fun o n j => ⟨World.cell?_of_block (a := ⟨g, j, none⟩) (hsamea o n), World.frozen?_of_block (a := ⟨g, j, none⟩) (hsamea o n)⟩
  have hok := HH.out.ok
  have HOK := Aside0.mk hok; clear hok
  have HAL := Aside0.mk al
  clear al hsamea hg3 hs3 ha3 hp3 hw3 hne3 hws3 hok3 hbk3 hk3 rdr
  have hx9 := HX9.out; have hx10 := HX10.out; have hNx := HNX.out
  rw [← hNx] at hNe
  have hNr : 0 ≤ N ∧ N < 65536 := by omega
  obtain ⟨x7, hx7⟩ : ∃ x, x = rd b 7 := ⟨_, rfl⟩
  obtain ⟨x8, hx8⟩ : ∃ x, x = rd b 8 := ⟨_, rfl⟩
  rw [← hx7] at c7 r7 hNe; rw [← hx8] at c8 r8 hNe; rw [← hx9] at c9 r9 hpm; rw [← hx10] at c10 r10 hm1 hm10 hpm
  clear hx7 hx8 hx9 hx10 hNx
  have hsame := H0hsame.out
  have n1 : decide (N = s.n) = true := decide_eq_true hsame
  have n2 : (N == s.n) = true := beq_iff_eq.2 hsame
  have n3 : (N != s.n) = false := by rw [hsame]; exact bne_self_eq_false _
  clear hsame
  rw [HWA.out] at k6
  have HWT := Aside0.mk HWA.out
  rw [HANY.out] at k3
  have hnw := HNW.out
  go_wp2
  go_quiet (fail)
  go_wp2_with fail
  ((with_reducible refine (newer_calls _ _ _).mono ?_); rintro e_ Wn ⟨rfl, rfl⟩)
  rw [hnw]
  go_wp2
  generalize hW4 : W3.drewN nq = W4
  have hb4 : Below W3.heap.size W3 W4 := by rw [← hW4]; exact pw_below_drewN (Below.refl _ _) _
  have hm4 := HM3.out.below hb4
  have HKK : Aside0 (Keeps w W4 ws) := ⟨HK3.out.then (Keeps.of_below hb4 ws)⟩
  have HWS : Aside0 (∀ k ∈ ws, k ∈ ws ∨ w.heap.size ≤ k) := ⟨fun k hk => .inl hk⟩
  have hbk4 : W4.heap[gb]? = some (Obj.cells ((b ++ sp).map (Value.int .u8)).toArray 5 (0, 0)) := by rw [← hW4]; exact HBK3.out
  clear hb4 hW4
  have c10' : W4.cell? ⟨gb, 10, none⟩ = some (.int .u8 x10) := by rw [HX10.out]; exact HCF.out _ hbk4 10 (by omega)
  obtain ⟨s2, hs2⟩ : ∃ x : LS, x = { s with acked := hearF s b } := ⟨_, rfl⟩
  rw [← hs2] at hm4
  obtain ⟨mbb, j8, j9, him, hgl4⟩ := waiting hm4 (by rw [hs2]; exact HWT.out)
  have e_parts : s2.parts = s.parts := by rw [hs2]
  have e_many : s2.many = s.many := by rw [hs2]
  rw [e_many] at j8
  have hok4 := hm4.ok
  have HS2 := Aside0.mk hs2; have HM4 := Aside0.mk hm4; have HIM := Aside0.mk him; have HBK4 := Aside0.mk hbk4; have HEP := Aside0.mk e_parts; have HEM := Aside0.mk e_many; have HOK4 := Aside0.mk hok4
  have hlk := him.lookS Tryd.underlying62 Tryd.underlying3 zslice x9
  rw [e_parts] at hlk
  have hmx := H0hmx.out
  have hpg := H0hpg.out
  rw [hmx] at j8
  have HMX := Aside0.mk hmx; clear hmx
  have hnone : pget x9 s2.parts = none := by rw [e_parts]; exact hpg
  have hl2 : ∀ n, (Instr.lookup 62 (.map (some mbb)) (.int .i64 x9) true).run Tryd.prog (W4.drewN n) = .ok (.tuple #[.slice none 0 0, .bool false]) (W4.drewN n) := fun n => (hlk.resolve_right (fun ⟨a, _, h, _⟩ => by rw [e_parts] at hnone; rw [hnone] at h; cases h)).2 true _ rfl
  have HNONE := Aside0.mk hnone
  clear hs2 hm4 him hbk4 e_parts e_many hok4 hlk hnone
  have m1 : decide (x10 = x10) = true := decide_eq_true rfl
  have m3 : (x10 != x10) = false := bne_self_eq_false x10
  go_quiet (fail)
  go_wp2
  generalize hW5 : W4.drewN nq = W5
  have hh5 : W5.heap = W4.heap := by rw [← hW5]; rfl
  have hb5 : Below W4.heap.size W4 W5 := by rw [← hW5]; exact pw_below_drewN (Below.refl _ _) _
  have hm5 := HM4.out.below hb5
  have j95 : W5.cell? ⟨g, 9, none⟩ = some (.map (some mbb)) := (World.cell?_of_block (a := ⟨g, 9, none⟩) (by rw [hh5])).trans j9
  have hbk5 : W5.heap[gb]? = some (Obj.cells ((b ++ sp).map (Value.int .u8)).toArray 5 (0, 0)) := by rw [hh5]; exact HBK4.out
  have him5 : IM .i64 (PartR W5) W5 mbb s2.parts := (HIM.out.same (by rw [hh5])).imp (PartR.same (fun b cs _ => by rw [hh5]))
  obtain ⟨off, hoff, hcut⟩ := cut11 gb L (L + q) h11 hLq
  have hpr : PartR W5 (.slice (some ⟨gb, off, none⟩) (L - 11) (L + q - 11)) (b.drop 11) := part_of hbk5 HLN.out.symm h11 hoff (HOKB.out gb HGB.out)
  obtain ⟨W6, hup, hgr6, him6⟩ := him5.put1 Tryd.underlying62 Tryd.underlying3 x9 HNONE.out _ (b.drop 11) hpr
  have hpp : ∀ y ∈ s2.parts ++ [(x9, b.drop 11)], y.2.length ≤ 200 ∧ ∀ z ∈ y.2, 0 ≤ z ∧ z < 256 := by
    intro y hy
    rcases List.mem_append.1 hy with hy | hy
    · exact HOK4.out.2.2.2.2.2.2.2 y hy
    · obtain rfl := List.mem_singleton.1 hy
      refine ⟨?_, fun z hz => HBR.out z (List.mem_of_mem_drop hz)⟩
      show (b.drop 11).length ≤ 200
      rw [List.length_drop, ← HLN.out]
      have := HSZ.out
      omega
  obtain ⟨hm6, hk6⟩ := more_parts hm5 j95 hgr6 him6 hpp
  have HM6 := Aside0.mk hm6
  have HK6 : Aside0 (Keeps w W6 ws) := ⟨(HKK.out.trans ((Keeps.of_below hb5 ws).then hk6) HWS.out)⟩
  clear hh5 hb5 hm5 hbk5 him5 hpr hgr6 him6 hpp hm6 hk6 hW5 j8 j9 hl2
  go_region
  generalize hW7 : W6.drew = W7
  have hb7 : Below W6.heap.size W6 W7 := by rw [← hW7]; exact below_drew1 (Below.refl _ _)
  have hm7 := HM6.out.below hb7
  obtain ⟨mb7, u8, u9, him7, hgl7⟩ := waiting hm7 (by rw [HS2.out]; exact HWT.out)
  change W7.cell? ⟨g, 8, none⟩ = some (.int .i64 s2.many) at u8
  rw [HEM.out, HMX.out] at u8
  have HM7 := Aside0.mk hm7; have HIM7 := Aside0.mk him7
  have HK7 : Aside0 (Keeps w W7 ws) := ⟨HK6.out.then (Keeps.of_below hb7 ws)⟩
  have hlen : ∀ ty n, (Builtin.len_ #[62] ty #[.map (some mb7)]).run Tryd.prog (W7.drewN n) = .ok (goInt ((s2.parts ++ [(x9, b.drop 11)]).length : Nat)) (W7.drewN n) := fun ty n => HIM7.out.lenS Tryd.underlying62 _ rfl
  clear hm7 him7 hb7 hW7
  have hcnt : ((s2.parts ++ [(x9, b.drop 11)]).length : Int) = (s.parts.length : Int) + 1 := by rw [HEP.out]; simp
  generalize (s2.parts ++ [(x9, b.drop 11)]).length = cnt at hlen hcnt
  have d5 : decide ((cnt : Int) < x10) = false := decide_eq_false (by rw [hcnt]; omega)
  clear hcnt hless
  go_wp2
  go_quiet (fail)
  go_wp2
  generalize hW8 : W7.drewN nq = W8
  have hb8 : Below W7.heap.size W7 W8 := by rw [← hW8]; exact pw_below_drewN (Below.refl _ _) _
  have hm8 := HM7.out.below hb8
  have hs3 : ({ s2 with parts := s2.parts ++ [(x9, b.drop 11)] } : LS) = { s with acked := hearF s b, parts := s.parts ++ [(x9, b.drop 11)] } := by rw [HS2.out]; first | done | rfl
  rw [hs3] at hm8
  have HM8 := Aside0.mk hm8
  have HK8 : Aside0 (Keeps w W8 ws) := ⟨HK7.out.then (Keeps.of_below hb8 ws)⟩
  have him8 : IM .i64 (PartR W8) W8 mb7 (s2.parts ++ [(x9, b.drop 11)]) := (HIM7.out.same (by rw [← hW8]; rfl)).imp (PartR.same (fun b cs _ => by rw [← hW8]; rfl))
  have y9 : W8.cell? ⟨g, 9, none⟩ = some (.map (some mb7)) := by rw [← hW8]; exact u9
  have hP : s2.parts ++ [(x9, b.drop 11)] = s.parts ++ [(x9, b.drop 11)] := by rw [HS2.out]; first | done | rfl
  rw [hP] at him8
  have HIM8 := Aside0.mk him8
  have hgl8 : g < W8.heap.size := HM8.out.g_in.2
  have hpl : ∀ (j : Nat), (((pget (j : Int) (s.parts ++ [(x9, b.drop 11)])).getD []).length ≤ 200) := by
    intro j
    cases hj : pget (j : Int) (s.parts ++ [(x9, b.drop 11)]) with
    | none => simp
    | some a => exact (HM8.out.ok.2.2.2.2.2.2.2 _ (pget_mem hj)).1
  generalize hPP : (s.parts ++ [(x9, b.drop 11)] : List (Int × List Int)) = P at HIM8 hpl
  have HPL := Aside0.mk hpl; have HPP := Aside0.mk hPP; have HGL8 := Aside0.mk hgl8
  clear hm8 hs3 him8 hP hpl hPP hgl8 hb8 hW8 u8 u9 hlen
  go_loopw [9, 141] (fun v vi wr => ∃ i : Int, vi = .int .i64 i ∧ 0 ≤ i ∧ i ≤ x10 ∧ Aside0 (RS W8.heap.size wr v ((List.range i.toNat).flatMap (fun j : Nat => (pget (j : Int) P).getD []))) ∧ Aside0 (Below W8.heap.size W8 wr)) (fun _ vi _ => (x10 - intOf vi).toNat)
  case atStart => exact ⟨0, rfl, by omega, by omega, ⟨RS.nil _ _⟩, ⟨Below.refl _ _⟩⟩
  case round =>
    obtain ⟨i, rfl, hi0, hi1, HO, HBW⟩ := hrel
    by_cases hx : i < x10
    · have dx : decide (i < x10) = true := decide_eq_true hx
      have y9w : wr.cell? ⟨g, 9, none⟩ = some (.map (some mb7)) := (HBW.out.cell (p := ⟨g, 9, none⟩) HGL8.out).trans y9
      have hsm : wr.heap[mb7]? = W8.heap[mb7]? := HBW.out.block _ HIM8.out.lt
      have hsucc := flat_succ P i hi0
      have hfl := flat_len HPL.out i.toNat
      generalize (List.range i.toNat).flatMap (fun j : Nat => (pget (j : Int) P).getD []) = acc at HO hsucc hfl
      have HSU := Aside0.mk hsucc; have HFL := Aside0.mk hfl
      clear hsucc hfl
      rcases HIM8.out.lookS Tryd.underlying62 Tryd.underlying3 zslice i with ⟨hg1, hl⟩ | ⟨a, v2, hg1, hv2, hl⟩
      · have hl0 := hl false wr hsm
        have HG1 := Aside0.mk hg1
        clear hl hg1 hsm
        go_wp2_with (first | ((with_reducible refine gate_builtin (b := .append) (xs := #[.tmp 144, .tmp 150]) rfl ?_); at_builtin; obtain ⟨sp0, ho_⟩ := HO.out; refine wp_rf_rows (w0 := W8) W8.heap.size rfl (.tmp 144) (.tmp 150) rfl _ acc sp0 [] _ _ _ rfl rfl ho_ (Kd.C_nil _ _) HBW.out (below_size HBW.out) (by have := HFL.out; omega) ?_; intro v1 w1 sp1 ho hb hg; have HO1 : Aside0 (RS W8.heap.size w1 v1 _) := Aside0.mk ⟨sp1, ho⟩; clear HBW; have HBW := Aside0.mk hb; clear ho_ ho hb hg))
        exact ⟨⟨i + 1, rfl, by omega, by omega, ⟨by rw [HSU.out, HG1.out]; exact HO1.out⟩, HBW⟩, by simp only [intOf]; omega⟩
      · have hl0 := hl false wr hsm
        have hal : a.length ≤ 200 := by have := HPL.out i.toNat; rw [Int.toNat_of_nonneg hi0, hg1] at this; exact this
        obtain ⟨A2, c2, rfl, hC2⟩ := (PartR.same (fun b cs hb => HBW.out.block b (Array.getElem?_eq_some_iff.1 hb).1) _ _ hv2 : PartR wr v2 a).C (by omega)
        have HG1 := Aside0.mk hg1; have HC2 := Aside0.mk hC2
        clear hl hg1 hsm hv2 hC2
        go_wp2_with (first | ((with_reducible refine gate_builtin (b := .append) (xs := #[.tmp 144, .tmp 150]) rfl ?_); at_builtin; obtain ⟨sp0, ho_⟩ := HO.out; refine wp_rf_rows (w0 := W8) W8.heap.size rfl (.tmp 144) (.tmp 150) rfl _ acc sp0 a _ _ _ rfl rfl ho_ HC2.out HBW.out (below_size HBW.out) (by have := HFL.out; omega) ?_; intro v1 w1 sp1 ho hb hg; have HO1 : Aside0 (RS W8.heap.size w1 v1 _) := Aside0.mk ⟨sp1, ho⟩; clear HBW; have HBW := Aside0.mk hb; clear ho_ ho hb hg))
        exact ⟨⟨i + 1, rfl, by omega, by omega, ⟨by rw [HSU.out, HG1.out]; exact HO1.out⟩, HBW⟩, by simp only [intOf]; omega⟩
    · have dx : decide (i < x10) = false := decide_eq_false hx
      have hie : i = x10 := by omega
      rw [hie] at HO
      clear hx dx hi0 hi1
      have hm9 := HM8.out.below HBW.out
      have ht := tell_calls g _ ws N wr hm9 hNr (by intro _; have := tell_gap HNW.out; exact this)
      have HO9 := Aside0.mk HO.out
      go_wp2_with fail
      ((with_reducible refine ht.mono ?_); rintro e_ W9 ⟨rfl, hm10', hgr9⟩)
      clear ht
      go_wp2
      go_ret3
      refine ⟨_, ws, rfl, ?_, hm10', HWS.out, ?_⟩
      · have hout : outF { s with acked := hearF s b, parts := s.parts ++ [(x9, b.drop 11)] } = (List.range x10.toNat).flatMap (fun j : Nat => (pget (j : Int) P).getD []) := by rw [← HPP.out]; unfold outF; rw [HMX.out]
        rw [hout]
        refine (HO9.out.lower (Keeps.then HK8.out (Keeps.refl _ _)).2.2.2.1).move (fun b hb hlt => hgr9.block b hlt (fun e => ?_))
        injection e with e
        have h1 := (HO9.out.own b hb).1
        have h2 := HGL8.out
        omega
      · exact (HK8.out.then (Keeps.of_below HBW.out ws)).trans (Keeps.of_grown hgr9 hm9.g_in.1) HWS.out
end Go.Proofs.YtbdocgddidcfeaaDoor
namespace Go.Proofs.YtbdocgddidcfeaaDoor
open Go.RowKit Go.Proofs.YtbdocgddidcfeaaDoorW.PrintWords Go.Proofs.YtbdocgddidcfeaaDoorW.PrintLast Go.Proofs.YtbdocgddidcfeaaDoorW.PrintMore
set_option linter.unusedVariables false
set_option linter.unusedSimpArgs false
set_option maxHeartbeats 8000000 in
set_option maxRecDepth 100000 in
theorem rcv_newer_pending [Inhabited OkB] (A : Option Addr) (c : Nat) (d : List Int) (g : Nat) (s : LS) (ws : List Nat) (w : World) (h : LinkM w g s ws) (hC : Kd.C (Kd.int .u8) w A d.length d) (hc : d.length ≤ c) (hd : ∀ x ∈ d, 0 ≤ x ∧ x < 256) (hl : d.length ≤ 140737488351232) (hT : Tab w) (hokb : ∀ k, w.heap.size ≤ k → (default : OkB).ok k)
    (b : List Int) (N x9 x10 : Int) (hbe : b = (opF d).1) (hNx : N = rd b 7 * 256 + rd b 8) (hx9 : x9 = rd b 9) (hx10 : x10 = rd b 10) (hbl : b.length ≤ 140737488355328) (h2 : (opF d).2 = true) (h3 : formedF b = true) (hany : s.any = false) (hw : s.waits = true) (hne : N ≠ s.n) (hnn : newerF N s.n = true) (hless : 1 < x10) : Calls Tryd.prog 13 #[.pointer (some ⟨g, 0, none⟩), .slice A d.length c] w (RcvPost w g ws { s with acked := hearF s b, waits := true, n := N, many := x10, parts := [(x9, b.drop 11)] } [] false 0) := by
  have HANY := Aside0.mk hany; clear hany
  have HWA := Aside0.mk hw; clear hw
  have HOKB := Aside0.mk hokb; clear hokb
  have HX9 := Aside0.mk hx9; have HX10 := Aside0.mk hx10; have HNX := Aside0.mk hNx
  clear hx9 hx10 hNx
  have hbr : ∀ x ∈ b, 0 ≤ x ∧ x < 256 := by rw [hbe]; exact opF_range d hd
  have hO := Open_callsF A c d w hC hc (by omega) hT
  rw [h2, ← hbe] at hO
  obtain ⟨L, hL⟩ : ∃ L, L = b.length := ⟨_, rfl⟩
  rw [← hL] at hbl
  have HLN := Aside0.mk hL; have HBR := Aside0.mk hbr
  clear hbe hL hbr h2 hC hd hc hT
  go_enter Tryd.func13, Tryd.ntmps13
  go_wp2
  refine wp_scope_fwd 1 rfl ?_
  go_wp2_with fail
  ((with_reducible refine hO.mono ?_); rintro e_ W1 ⟨v0, rfl, ⟨sp, ho_⟩, hb_⟩)
  obtain ⟨Ab, hv, hA, _, hcm⟩ := ho_.form
  rw [List.length_append, ← HLN.out] at hv hcm
  subst hv
  have hRR := Kd.R_reads' ho_.R
  rw [← HLN.out] at hRR
  obtain ⟨h11, hm1, hm10, hpm, hsz⟩ := formed_facts h3
  rw [← HLN.out] at h11 hsz
  obtain ⟨gb, hgb, hbk⟩ := hA.resolve_left (fun hn => by
    have h1 := HLN.out
    rw [(List.append_eq_nil_iff.1 hn.2).1] at h1
    simp at h1
    omega)
  subst hgb
  have HBK := Aside0.mk hbk
  generalize hq_ : sp.length = q at hRR hcm ⊢
  clear hq_
  have hF := formed_calls (some ⟨gb, 0, none⟩) L (L + q) b W1 hRR.2.2 hRR.2.1 (fun _ => ⟨gb, rfl⟩) HBR.out hbl
  rw [h3] at hF
  have hgbn := ho_.base gb rfl
  have HL1 := Aside0.mk (h.below hb_); have HB := Aside0.mk hb_; have HH := Aside0.mk h; have HGB := Aside0.mk hgbn
  have HSZ := Aside0.mk hsz; have hLq := hRR.2.1
  clear h hbk ho_ hb_ hO hRR hA h3 hgbn hsz
  go_wp2_with fail
  ((with_reducible refine hF.mono ?_); rintro e_ W2 ⟨rfl, q_, rfl⟩)
  clear hF
  have HL2 := Aside0.mk (HL1.out.below (pw_below_drewN (Below.refl _ _) q_))
  have hcellf : ∀ (W : World), W.heap[gb]? = some (Obj.cells ((b ++ sp).map (Value.int .u8)).toArray 5 (0, 0)) → ∀ i : Nat, i < L → W.cell? ⟨gb, i, none⟩ = some (.int .u8 (rd b (i : Int))) := by
    intro W hW i hi
    have hi' : i < b.length := by have := HLN.out; omega
    rw [blk_cell hW, rd_get' hi']
    simp only [List.getElem?_toArray, List.map_append]
    rw [List.getElem?_append_left (by simpa using hi'), List.getElem?_map, List.getElem?_eq_getElem hi']
    rfl
  have HCF := Aside0.mk hcellf; clear hcellf
  have hh := hear_calls g s ws gb L (L + q) b (W1.drewN q_) HL2.out HLN.out.symm (HCF.out _ HBK.out) h11 HBR.out
  go_wp2_with fail
  ((with_reducible refine hh.mono ?_); rintro e_ W3 ⟨rfl, hm3, hk3⟩)
  clear hh
  have hbk3 := hk3.u8 HL2.out HBK.out
  have HBK3 := Aside0.mk hbk3
  have HK3 : Aside0 (Keeps w W3 ws) := ⟨(Keeps.of_below (pw_below_drewN HB.out q_) ws).then hk3⟩
  have HM3 := Aside0.mk hm3
  have c7 : W3.cell? ⟨gb, 7, none⟩ = some (.int .u8 (rd b 7)) := HCF.out _ hbk3 7 (by omega)
  have c8 : W3.cell? ⟨gb, 8, none⟩ = some (.int .u8 (rd b 8)) := HCF.out _ hbk3 8 (by omega)
  have c9 : W3.cell? ⟨gb, 9, none⟩ = some (.int .u8 (rd b 9)) := HCF.out _ hbk3 9 (by omega)
  have c10 : W3.cell? ⟨gb, 10, none⟩ = some (.int .u8 (rd b 10)) := HCF.out _ hbk3 10 (by omega)
  have rdr : ∀ i : Nat, i < 11 → 0 ≤ rd b (i : Int) ∧ rd b (i : Int) < 256 := fun i hi => rd_mem HBR.out (by omega) (by have := HLN.out; omega)
  have r7 : 0 ≤ rd b 7 ∧ rd b 7 < 256 := rdr 7 (by omega)
  have r8 : 0 ≤ rd b 8 ∧ rd b 8 < 256 := rdr 8 (by omega)
  have r9 : 0 ≤ rd b 9 ∧ rd b 9 < 256 := rdr 9 (by omega)
  have r10 : 0 ≤ rd b 10 ∧ rd b 10 < 256 := rdr 10 (by omega)
  obtain ⟨sv, ma, mp, gs, mb, hg3, hs3, ha3, hp3, hw3, hne3, hws3, hok3⟩ := hm3
  obtain ⟨mo, rfl⟩ : ∃ o, mp = .map o := by
    rcases hp3 with ⟨e, _⟩ | ⟨b', _, e, _⟩
    · exact ⟨_, e⟩
    · exact ⟨_, e⟩
  obtain ⟨_, _, _, k3, k4, _, k6, k7, k8, k9⟩ := lcell hg3
  change W3.cell? ⟨g, 3, none⟩ = some (.bool s.any) at k3
  change W3.cell? ⟨g, 4, none⟩ = some (.int .u16 s.last) at k4
  change W3.cell? ⟨g, 6, none⟩ = some (.bool s.waits) at k6
  change W3.cell? ⟨g, 7, none⟩ = some (.int .u16 s.n) at k7
  change W3.cell? ⟨g, 8, none⟩ = some (.int .i64 s.many) at k8
  have hNe : bits .or .u16 (rd b 7 * 256) (rd b 8) = rd b 7 * 256 + rd b 8 := or_add16 _ _ r7 r8
  have hfz : ∀ j, W3.frozen? ⟨g, j, none⟩ = false := fun j => blk_frozen hg3 j
  have hgl : g < W3.heap.size := (Array.getElem?_eq_some_iff.1 hg3).1
  have hsamea : ∀ (o : Obj) (n : Nat), ((W3.drewN n).alloc o).heap[g]? = W3.heap[g]? := fun o n => (MapKept.heap_alloc (W3.drewN n) o).2 g hgl
  have al : ∀ (o : Obj) (n j : Nat), ((W3.drewN n).alloc o).cell? ⟨g, j, none⟩ = W3.cell? ⟨g, j, none⟩ ∧ ((W3.drewN n).alloc o).frozen? ⟨g, j, none⟩ = W3.frozen? ⟨g, j, none⟩ := fun o n j => ⟨World.cell?_of_block (a := ⟨g, j, none⟩) (hsamea o n), World.frozen?_of_block (a := ⟨g, j, none⟩) (hsamea o n)⟩
  have hok := HH.out.ok
  have HOK := Aside0.mk hok; clear hok
  have HAL := Aside0.mk al
  clear al hsamea hg3 hs3 ha3 hp3 hw3 hne3 hws3 hok3 hbk3 hk3 rdr
  have hx9 := HX9.out; have hx10 := HX10.out; have hNx := HNX.out
  rw [← hNx] at hNe
  have hNr : 0 ≤ N ∧ N < 65536 := by omega
  obtain ⟨x7, hx7⟩ : ∃ x, x = rd b 7 := ⟨_, rfl⟩
  obtain ⟨x8, hx8⟩ : ∃ x, x = rd b 8 := ⟨_, rfl⟩
  rw [← hx7] at c7 r7 hNe; rw [← hx8] at c8 r8 hNe; rw [← hx9] at c9 r9 hpm; rw [← hx10] at c10 r10 hm1 hm10 hpm
  clear hx7 hx8 hx9 hx10 hNx
  have n1 : decide (N = s.n) = false := decide_eq_false hne
  have n2 : (N == s.n) = false := beq_eq_false_iff_ne.2 hne
  have n3 : (N != s.n) = true := bne_iff_ne.2 hne
  clear hne
  obtain ⟨sv', ma', mp', gs', mb', hg3', _⟩ := HM3.out
  have hmp' : mp' = .map mo := by
    have := blk_cell hg3' 9
    rw [k9] at this
    injection this with this
    exact this.symm
  subst hmp'
  have HG3 := Aside0.mk hg3'; clear hg3'
  have hsu : ∀ (o : Obj) (n : Nat), (((W3.drewN n).setCell ⟨g, 6, none⟩ (.bool false)).alloc o).heap[g]? = ((W3.drewN n).setCell ⟨g, 6, none⟩ (.bool false)).heap[g]? := fun o n => (MapKept.heap_alloc _ o).2 g (by simpa using hgl)
  have hb6 := fun (n : Nat) => blk_put (w := W3.drewN n) HG3.out 6 (.bool false) rfl
  have fz6 : ∀ (o : Obj) (n j : Nat), (((W3.drewN n).setCell ⟨g, 6, none⟩ (.bool false)).alloc o).frozen? ⟨g, j, none⟩ = false := fun o n j => blk_frozen ((hsu o n).trans (hb6 n)) j
  have a6 : ∀ (o : Obj) (n : Nat), (((W3.drewN n).setCell ⟨g, 6, none⟩ (.bool false)).alloc o).cell? ⟨g, 6, none⟩ = some (.bool false) := fun o n => blk_cell ((hsu o n).trans (hb6 n)) 6
  have a7 : ∀ (o : Obj) (n : Nat), (((W3.drewN n).setCell ⟨g, 6, none⟩ (.bool false)).alloc o).cell? ⟨g, 7, none⟩ = some (.int .u16 s.n) := fun o n => blk_cell ((hsu o n).trans (hb6 n)) 7
  have a8 : ∀ (o : Obj) (n : Nat), (((W3.drewN n).setCell ⟨g, 6, none⟩ (.bool false)).alloc o).cell? ⟨g, 8, none⟩ = some (.int .i64 s.many) := fun o n => blk_cell ((hsu o n).trans (hb6 n)) 8
  have a9 : ∀ (o : Obj) (n : Nat), (((W3.drewN n).setCell ⟨g, 6, none⟩ (.bool false)).alloc o).cell? ⟨g, 9, none⟩ = some (.map mo) := fun o n => blk_cell ((hsu o n).trans (hb6 n)) 9
  clear hsu hb6
  have hmm : ∀ W : World, (Instr.makeMap 62 none).run Tryd.prog W = .ok (.map (some W.heap.size)) (W.alloc (.map #[] 0)) := by
    intro W
    simp [Instr.makeMap, Result.andThen]
  rw [HWA.out] at k6
  rw [HANY.out] at k3
  go_wp2
  go_quiet (fail)
  go_wp2_with fail
  ((with_reducible refine (newer_calls _ _ _).mono ?_); rintro e_ Wn ⟨rfl, rfl⟩)
  rw [hnn]
  go_wp2
  have hun := unwait (HM3.out.below (pw_below_drewN (Below.refl _ _) nq))
  have hsy : ((W3.drewN nq).setCell ⟨g, 6, none⟩ (.bool false)).heap.size = W3.heap.size := by simp [World.setCell]
  have hnp := fun X hX => new_parts hun.1 N x10 hNr (by omega) X hX
  rw [hsy] at hnp
  have hXX : (((((((W3.drewN nq).setCell ⟨g, 6, none⟩ (Value.bool false)).setCell ⟨g, 6, none⟩ (Value.bool true)).setCell ⟨g, 7, none⟩ (Value.int IntKind.u16 N)).setCell ⟨g, 8, none⟩ (Value.int IntKind.i64 x10)).setCell ⟨g, 9, none⟩ (Value.map (some W3.heap.size))).alloc (Obj.map #[] 0)) =
      (((((((W3.drewN nq).setCell ⟨g, 6, none⟩ (Value.bool false)).alloc (Obj.map #[] 0)).setCell ⟨g, 6, none⟩ (Value.bool true)).setCell ⟨g, 7, none⟩ (Value.int IntKind.u16 N)).setCell ⟨g, 8, none⟩ (Value.int IntKind.i64 x10)).setCell ⟨g, 9, none⟩ (Value.map (some W3.heap.size))) := by
    rw [World.setCell_alloc_past _ g 6 _ (by simpa [World.setCell] using hgl), World.setCell_alloc_past _ g 7 _ (by simpa [World.setCell] using hgl), World.setCell_alloc_past _ g 8 _ (by simpa [World.setCell] using hgl), World.setCell_alloc_past _ g 9 _ (by simpa [World.setCell] using hgl)]
  generalize hW4 : (((((((W3.drewN nq).setCell ⟨g, 6, none⟩ (Value.bool false)).setCell ⟨g, 6, none⟩ (Value.bool true)).setCell ⟨g, 7, none⟩ (Value.int IntKind.u16 N)).setCell ⟨g, 8, none⟩ (Value.int IntKind.i64 x10)).setCell ⟨g, 9, none⟩ (Value.map (some W3.heap.size))).alloc (Obj.map #[] 0)) = W4
  obtain ⟨ws2, hm4, hws2', hk4'⟩ := hnp W4 (hW4.symm.trans hXX)
  have hws2 : ∀ k ∈ ws2, k ∈ ws ∨ W3.heap.size ≤ k := hws2'
  have hk4 : Keeps (W3.drewN nq) W4 ws := hun.2.then hk4'
  clear hnp hW4 hXX hmm a6 a7 a8 a9 fz6 hun hws2' hk4' hsy
  have HKK : Aside0 (Keeps w W4 ws) := ⟨HK3.out.then hk4⟩
  have HWS : Aside0 (∀ k ∈ ws2, k ∈ ws ∨ w.heap.size ≤ k) := ⟨fun k hk => (hws2 k hk).imp id (fun h => Nat.le_trans HK3.out.2.2.2.1 h)⟩
  have hbk4 : W4.heap[gb]? = some (Obj.cells ((b ++ sp).map (Value.int .u8)).toArray 5 (0, 0)) := hk4.u8 (HM3.out.below (pw_below_drewN (Below.refl _ _) nq)) HBK3.out
  have c10' : W4.cell? ⟨gb, 10, none⟩ = some (.int .u8 x10) := by rw [HX10.out]; exact HCF.out _ hbk4 10 (by omega)
  obtain ⟨s2, hs2⟩ : ∃ x : LS, x = { s with acked := hearF s b, waits := true, n := N, many := x10, parts := [] } := ⟨_, rfl⟩
  rw [← hs2] at hm4
  obtain ⟨mbb, j8, j9, him, hgl4⟩ := waiting hm4 (by rw [hs2])
  have e_parts : s2.parts = [] := by rw [hs2]
  have e_many : s2.many = x10 := by rw [hs2]
  rw [e_many] at j8
  have hok4 := hm4.ok
  have HS2 := Aside0.mk hs2; have HM4 := Aside0.mk hm4; have HIM := Aside0.mk him; have HBK4 := Aside0.mk hbk4; have HEP := Aside0.mk e_parts; have HEM := Aside0.mk e_many; have HOK4 := Aside0.mk hok4
  have hlk := him.lookS Tryd.underlying62 Tryd.underlying3 zslice x9
  rw [e_parts] at hlk
  have hnone : pget x9 s2.parts = none := by rw [e_parts]; rfl
  have hl2 : ∀ n, (Instr.lookup 62 (.map (some mbb)) (.int .i64 x9) true).run Tryd.prog (W4.drewN n) = .ok (.tuple #[.slice none 0 0, .bool false]) (W4.drewN n) := fun n => (hlk.resolve_right (fun ⟨a, _, h, _⟩ => by rw [e_parts] at hnone; rw [hnone] at h; cases h)).2 true _ rfl
  have HNONE := Aside0.mk hnone
  clear hs2 hm4 him hbk4 e_parts e_many hok4 hlk hnone
  have m1 : decide (x10 = x10) = true := decide_eq_true rfl
  have m3 : (x10 != x10) = false := bne_self_eq_false x10
  go_quiet (fail)
  go_wp2
  generalize hW5 : W4.drewN nq = W5
  have hh5 : W5.heap = W4.heap := by rw [← hW5]; rfl
  have hb5 : Below W4.heap.size W4 W5 := by rw [← hW5]; exact pw_below_drewN (Below.refl _ _) _
  have hm5 := HM4.out.below hb5
  have j95 : W5.cell? ⟨g, 9, none⟩ = some (.map (some mbb)) := (World.cell?_of_block (a := ⟨g, 9, none⟩) (by rw [hh5])).trans j9
  have hbk5 : W5.heap[gb]? = some (Obj.cells ((b ++ sp).map (Value.int .u8)).toArray 5 (0, 0)) := by rw [hh5]; exact HBK4.out
  have him5 : IM .i64 (PartR W5) W5 mbb s2.parts := (HIM.out.same (by rw [hh5])).imp (PartR.same (fun b cs _ => by rw [hh5]))
  obtain ⟨off, hoff, hcut⟩ := cut11 gb L (L + q) h11 hLq
  have hpr : PartR W5 (.slice (some ⟨gb, off, none⟩) (L - 11) (L + q - 11)) (b.drop 11) := part_of hbk5 HLN.out.symm h11 hoff (HOKB.out gb HGB.out)
  obtain ⟨W6, hup, hgr6, him6⟩ := him5.put1 Tryd.underlying62 Tryd.underlying3 x9 HNONE.out _ (b.drop 11) hpr
  have hpp : ∀ y ∈ s2.parts ++ [(x9, b.drop 11)], y.2.length ≤ 200 ∧ ∀ z ∈ y.2, 0 ≤ z ∧ z < 256 := by
    intro y hy
    rcases List.mem_append.1 hy with hy | hy
    · exact HOK4.out.2.2.2.2.2.2.2 y hy
    · obtain rfl := List.mem_singleton.1 hy
      refine ⟨?_, fun z hz => HBR.out z (List.mem_of_mem_drop hz)⟩
      show (b.drop 11).length ≤ 200
      rw [List.length_drop, ← HLN.out]
      have := HSZ.out
      omega
  obtain ⟨hm6, hk6⟩ := more_parts hm5 j95 hgr6 him6 hpp
  have HM6 := Aside0.mk hm6
  have HK6 : Aside0 (Keeps w W6 ws) := ⟨(HKK.out.trans ((Keeps.of_below hb5 ws2).then hk6) HWS.out)⟩
  clear hh5 hb5 hm5 hbk5 him5 hpr hgr6 him6 hpp hm6 hk6 hW5 j8 j9 hl2
  go_region
  generalize hW7 : W6.drew = W7
  have hb7 : Below W6.heap.size W6 W7 := by rw [← hW7]; exact below_drew1 (Below.refl _ _)
  have hm7 := HM6.out.below hb7
  obtain ⟨mb7, u8, u9, him7, hgl7⟩ := waiting hm7 (by rw [HS2.out])
  change W7.cell? ⟨g, 8, none⟩ = some (.int .i64 s2.many) at u8
  rw [HEM.out] at u8
  have HM7 := Aside0.mk hm7; have HIM7 := Aside0.mk him7
  have HK7 : Aside0 (Keeps w W7 ws) := ⟨HK6.out.then (Keeps.of_below hb7 ws)⟩
  have hlen : ∀ ty n, (Builtin.len_ #[62] ty #[.map (some mb7)]).run Tryd.prog (W7.drewN n) = .ok (goInt ((s2.parts ++ [(x9, b.drop 11)]).length : Nat)) (W7.drewN n) := fun ty n => HIM7.out.lenS Tryd.underlying62 _ rfl
  clear hm7 him7 hb7 hW7
  have hcnt : ((s2.parts ++ [(x9, b.drop 11)]).length : Int) = 1 := by rw [HEP.out]; rfl
  generalize (s2.parts ++ [(x9, b.drop 11)]).length = cnt at hlen hcnt
  have d5 : decide ((cnt : Int) < x10) = true := decide_eq_true (by rw [hcnt]; exact hless)
  clear hcnt hless
  go_wp2
  go_quiet (fail)
  go_wp2
  go_ret3
  exact ⟨_, ws2, rfl, RS.nil _ _, by rw [HS2.out] at HM7; exact HM7.out.below (pw_below_drewN (Below.refl _ _) _), HWS.out, HK7.out⟩
set_option maxHeartbeats 8000000 in
set_option maxRecDepth 100000 in
theorem rcv_newer_told [Inhabited OkB] (A : Option Addr) (c : Nat) (d : List Int) (g : Nat) (s : LS) (ws : List Nat) (w : World) (h : LinkM w g s ws) (hC : Kd.C (Kd.int .u8) w A d.length d) (hc : d.length ≤ c) (hd : ∀ x ∈ d, 0 ≤ x ∧ x < 256) (hl : d.length ≤ 140737488351232) (hT : Tab w) (hokb : ∀ k, w.heap.size ≤ k → (default : OkB).ok k)
    (b : List Int) (N x9 x10 : Int) (hbe : b = (opF d).1) (hNx : N = rd b 7 * 256 + rd b 8) (hx9 : x9 = rd b 9) (hx10 : x10 = rd b 10) (hbl : b.length ≤ 140737488355328) (h2 : (opF d).2 = true) (h3 : formedF b = true) (hany : s.any = false) (hw : s.waits = true) (hne : N ≠ s.n) (hnn : newerF N s.n = true) (hless : ¬ 1 < x10) : Calls Tryd.prog 13 #[.pointer (some ⟨g, 0, none⟩), .slice A d.length c] w (RcvPost w g ws (tellF { s with acked := hearF s b, waits := true, n := N, many := x10, parts := [(x9, b.drop 11)] } N) (outF { s with acked := hearF s b, waits := true, n := N, many := x10, parts := [(x9, b.drop 11)] }) true 0) := by
  have HANY := Aside0.mk hany; clear hany
  have HWA := Aside0.mk hw; clear hw
  have HOKB := Aside0.mk hokb; clear hokb
  have HX9 := Aside0.mk hx9; have HX10 := Aside0.mk hx10; have HNX := Aside0.mk hNx
  clear hx9 hx10 hNx
  have hbr : ∀ x ∈ b, 0 ≤ x ∧ x < 256 := by rw [hbe]; exact opF_range d hd
  have hO := Open_callsF A c d w hC hc (by omega) hT
  rw [h2, ← hbe] at hO
  obtain ⟨L, hL⟩ : ∃ L, L = b.length := ⟨_, rfl⟩
  rw [← hL] at hbl
  have HLN := Aside0.mk hL; have HBR := Aside0.mk hbr
  clear hbe hL hbr h2 hC hd hc hT
  go_enter Tryd.func13, Tryd.ntmps13
  go_wp2
  refine wp_scope_fwd 1 rfl ?_
  go_wp2_with fail
  ((with_reducible refine hO.mono ?_); rintro e_ W1 ⟨v0, rfl, ⟨sp, ho_⟩, hb_⟩)
  obtain ⟨Ab, hv, hA, _, hcm⟩ := ho_.form
  rw [List.length_append, ← HLN.out] at hv hcm
  subst hv
  have hRR := Kd.R_reads' ho_.R
  rw [← HLN.out] at hRR
  obtain ⟨h11, hm1, hm10, hpm, hsz⟩ := formed_facts h3
  rw [← HLN.out] at h11 hsz
  obtain ⟨gb, hgb, hbk⟩ := hA.resolve_left (fun hn => by
    have h1 := HLN.out
    rw [(List.append_eq_nil_iff.1 hn.2).1] at h1
    simp at h1
    omega)
  subst hgb
  have HBK := Aside0.mk hbk
  generalize hq_ : sp.length = q at hRR hcm ⊢
  clear hq_
  have hF := formed_calls (some ⟨gb, 0, none⟩) L (L + q) b W1 hRR.2.2 hRR.2.1 (fun _ => ⟨gb, rfl⟩) HBR.out hbl
  rw [h3] at hF
  have hgbn := ho_.base gb rfl
  have HL1 := Aside0.mk (h.below hb_); have HB := Aside0.mk hb_; have HH := Aside0.mk h; have HGB := Aside0.mk hgbn
  have HSZ := Aside0.mk hsz; have hLq := hRR.2.1
  clear h hbk ho_ hb_ hO hRR hA h3 hgbn hsz
  go_wp2_with fail
  ((with_reducible refine hF.mono ?_); rintro e_ W2 ⟨rfl, q_, rfl⟩)
  clear hF
  have HL2 := Aside0.mk (HL1.out.below (pw_below_drewN (Below.refl _ _) q_))
  have hcellf : ∀ (W : World), W.heap[gb]? = some (Obj.cells ((b ++ sp).map (Value.int .u8)).toArray 5 (0, 0)) → ∀ i : Nat, i < L → W.cell? ⟨gb, i, none⟩ = some (.int .u8 (rd b (i : Int))) := by
    intro W hW i hi
    have hi' : i < b.length := by have := HLN.out; omega
    rw [blk_cell hW, rd_get' hi']
    simp only [List.getElem?_toArray, List.map_append]
    rw [List.getElem?_append_left (by simpa using hi'), List.getElem?_map, List.getElem?_eq_getElem hi']
    rfl
  have HCF := Aside0.mk hcellf; clear hcellf
  have hh := hear_calls g s ws gb L (L + q) b (W1.drewN q_) HL2.out HLN.out.symm (HCF.out _ HBK.out) h11 HBR.out
  go_wp2_with fail
  ((with_reducible refine hh.mono ?_); rintro e_ W3 ⟨rfl, hm3, hk3⟩)
  clear hh
  have hbk3 := hk3.u8 HL2.out HBK.out
  have HBK3 := Aside0.mk hbk3
  have HK3 : Aside0 (Keeps w W3 ws) := ⟨(Keeps.of_below (pw_below_drewN HB.out q_) ws).then hk3⟩
  have HM3 := Aside0.mk hm3
  have c7 : W3.cell? ⟨gb, 7, none⟩ = some (.int .u8 (rd b 7)) := HCF.out _ hbk3 7 (by omega)
  have c8 : W3.cell? ⟨gb, 8, none⟩ = some (.int .u8 (rd b 8)) := HCF.out _ hbk3 8 (by omega)
  have c9 : W3.cell? ⟨gb, 9, none⟩ = some (.int .u8 (rd b 9)) := HCF.out _ hbk3 9 (by omega)
  have c10 : W3.cell? ⟨gb, 10, none⟩ = some (.int .u8 (rd b 10)) := HCF.out _ hbk3 10 (by omega)
  have rdr : ∀ i : Nat, i < 11 → 0 ≤ rd b (i : Int) ∧ rd b (i : Int) < 256 := fun i hi => rd_mem HBR.out (by omega) (by have := HLN.out; omega)
  have r7 : 0 ≤ rd b 7 ∧ rd b 7 < 256 := rdr 7 (by omega)
  have r8 : 0 ≤ rd b 8 ∧ rd b 8 < 256 := rdr 8 (by omega)
  have r9 : 0 ≤ rd b 9 ∧ rd b 9 < 256 := rdr 9 (by omega)
  have r10 : 0 ≤ rd b 10 ∧ rd b 10 < 256 := rdr 10 (by omega)
  obtain ⟨sv, ma, mp, gs, mb, hg3, hs3, ha3, hp3, hw3, hne3, hws3, hok3⟩ := hm3
  obtain ⟨mo, rfl⟩ : ∃ o, mp = .map o := by
    rcases hp3 with ⟨e, _⟩ | ⟨b', _, e, _⟩
    · exact ⟨_, e⟩
    · exact ⟨_, e⟩
  obtain ⟨_, _, _, k3, k4, _, k6, k7, k8, k9⟩ := lcell hg3
  change W3.cell? ⟨g, 3, none⟩ = some (.bool s.any) at k3
  change W3.cell? ⟨g, 4, none⟩ = some (.int .u16 s.last) at k4
  change W3.cell? ⟨g, 6, none⟩ = some (.bool s.waits) at k6
  change W3.cell? ⟨g, 7, none⟩ = some (.int .u16 s.n) at k7
  change W3.cell? ⟨g, 8, none⟩ = some (.int .i64 s.many) at k8
  have hNe : bits .or .u16 (rd b 7 * 256) (rd b 8) = rd b 7 * 256 + rd b 8 := or_add16 _ _ r7 r8
  have hfz : ∀ j, W3.frozen? ⟨g, j, none⟩ = false := fun j => blk_frozen hg3 j
  have hgl : g < W3.heap.size := (Array.getElem?_eq_some_iff.1 hg3).1
  have hsamea : ∀ (o : Obj) (n : Nat), ((W3.drewN n).alloc o).heap[g]? = W3.heap[g]? := fun o n => (MapKept.heap_alloc (W3.drewN n) o).2 g hgl
  have al : ∀ (o : Obj) (n j : Nat), ((W3.drewN n).alloc o).cell? ⟨g, j, none⟩ = W3.cell? ⟨g, j, none⟩ ∧ ((W3.drewN n).alloc o).frozen? ⟨g, j, none⟩ = W3.frozen? ⟨g, j, none⟩ := fun o n j => ⟨World.cell?_of_block (a := ⟨g, j, none⟩) (hsamea o n), World.frozen?_of_block (a := ⟨g, j, none⟩) (hsamea o n)⟩
  have hok := HH.out.ok
  have HOK := Aside0.mk hok; clear hok
  have HAL := Aside0.mk al
  clear al hsamea hg3 hs3 ha3 hp3 hw3 hne3 hws3 hok3 hbk3 hk3 rdr
  have hx9 := HX9.out; have hx10 := HX10.out; have hNx := HNX.out
  rw [← hNx] at hNe
  have hNr : 0 ≤ N ∧ N < 65536 := by omega
  obtain ⟨x7, hx7⟩ : ∃ x, x = rd b 7 := ⟨_, rfl⟩
  obtain ⟨x8, hx8⟩ : ∃ x, x = rd b 8 := ⟨_, rfl⟩
  rw [← hx7] at c7 r7 hNe; rw [← hx8] at c8 r8 hNe; rw [← hx9] at c9 r9 hpm; rw [← hx10] at c10 r10 hm1 hm10 hpm
  clear hx7 hx8 hx9 hx10 hNx
  have n1 : decide (N = s.n) = false := decide_eq_false hne
  have n2 : (N == s.n) = false := beq_eq_false_iff_ne.2 hne
  have n3 : (N != s.n) = true := bne_iff_ne.2 hne
  clear hne
  obtain ⟨sv', ma', mp', gs', mb', hg3', _⟩ := HM3.out
  have hmp' : mp' = .map mo := by
    have := blk_cell hg3' 9
    rw [k9] at this
    injection this with this
    exact this.symm
  subst hmp'
  have HG3 := Aside0.mk hg3'; clear hg3'
  have hsu : ∀ (o : Obj) (n : Nat), (((W3.drewN n).setCell ⟨g, 6, none⟩ (.bool false)).alloc o).heap[g]? = ((W3.drewN n).setCell ⟨g, 6, none⟩ (.bool false)).heap[g]? := fun o n => (MapKept.heap_alloc _ o).2 g (by simpa using hgl)
  have hb6 := fun (n : Nat) => blk_put (w := W3.drewN n) HG3.out 6 (.bool false) rfl
  have fz6 : ∀ (o : Obj) (n j : Nat), (((W3.drewN n).setCell ⟨g, 6, none⟩ (.bool false)).alloc o).frozen? ⟨g, j, none⟩ = false := fun o n j => blk_frozen ((hsu o n).trans (hb6 n)) j
  have a6 : ∀ (o : Obj) (n : Nat), (((W3.drewN n).setCell ⟨g, 6, none⟩ (.bool false)).alloc o).cell? ⟨g, 6, none⟩ = some (.bool false) := fun o n => blk_cell ((hsu o n).trans (hb6 n)) 6
  have a7 : ∀ (o : Obj) (n : Nat), (((W3.drewN n).setCell ⟨g, 6, none⟩ (.bool false)).alloc o).cell? ⟨g, 7, none⟩ = some (.int .u16 s.n) := fun o n => blk_cell ((hsu o n).trans (hb6 n)) 7
  have a8 : ∀ (o : Obj) (n : Nat), (((W3.drewN n).setCell ⟨g, 6, none⟩ (.bool false)).alloc o).cell? ⟨g, 8, none⟩ = some (.int .i64 s.many) := fun o n => blk_cell ((hsu o n).trans (hb6 n)) 8
  have a9 : ∀ (o : Obj) (n : Nat), (((W3.drewN n).setCell ⟨g, 6, none⟩ (.bool false)).alloc o).cell? ⟨g, 9, none⟩ = some (.map mo) := fun o n => blk_cell ((hsu o n).trans (hb6 n)) 9
  clear hsu hb6
  have hmm : ∀ W : World, (Instr.makeMap 62 none).run Tryd.prog W = .ok (.map (some W.heap.size)) (W.alloc (.map #[] 0)) := by
    intro W
    simp [Instr.makeMap, Result.andThen]
  rw [HWA.out] at k6
  rw [HANY.out] at k3
  go_wp2
  go_quiet (fail)
  go_wp2_with fail
  ((with_reducible refine (newer_calls _ _ _).mono ?_); rintro e_ Wn ⟨rfl, rfl⟩)
  rw [hnn]
  go_wp2
  have hun := unwait (HM3.out.below (pw_below_drewN (Below.refl _ _) nq))
  have hsy : ((W3.drewN nq).setCell ⟨g, 6, none⟩ (.bool false)).heap.size = W3.heap.size := by simp [World.setCell]
  have hnp := fun X hX => new_parts hun.1 N x10 hNr (by omega) X hX
  rw [hsy] at hnp
  have hXX : (((((((W3.drewN nq).setCell ⟨g, 6, none⟩ (Value.bool false)).setCell ⟨g, 6, none⟩ (Value.bool true)).setCell ⟨g, 7, none⟩ (Value.int IntKind.u16 N)).setCell ⟨g, 8, none⟩ (Value.int IntKind.i64 x10)).setCell ⟨g, 9, none⟩ (Value.map (some W3.heap.size))).alloc (Obj.map #[] 0)) =
      (((((((W3.drewN nq).setCell ⟨g, 6, none⟩ (Value.bool false)).alloc (Obj.map #[] 0)).setCell ⟨g, 6, none⟩ (Value.bool true)).setCell ⟨g, 7, none⟩ (Value.int IntKind.u16 N)).setCell ⟨g, 8, none⟩ (Value.int IntKind.i64 x10)).setCell ⟨g, 9, none⟩ (Value.map (some W3.heap.size))) := by
    rw [World.setCell_alloc_past _ g 6 _ (by simpa [World.setCell] using hgl), World.setCell_alloc_past _ g 7 _ (by simpa [World.setCell] using hgl), World.setCell_alloc_past _ g 8 _ (by simpa [World.setCell] using hgl), World.setCell_alloc_past _ g 9 _ (by simpa [World.setCell] using hgl)]
  generalize hW4 : (((((((W3.drewN nq).setCell ⟨g, 6, none⟩ (Value.bool false)).setCell ⟨g, 6, none⟩ (Value.bool true)).setCell ⟨g, 7, none⟩ (Value.int IntKind.u16 N)).setCell ⟨g, 8, none⟩ (Value.int IntKind.i64 x10)).setCell ⟨g, 9, none⟩ (Value.map (some W3.heap.size))).alloc (Obj.map #[] 0)) = W4
  obtain ⟨ws2, hm4, hws2', hk4'⟩ := hnp W4 (hW4.symm.trans hXX)
  have hws2 : ∀ k ∈ ws2, k ∈ ws ∨ W3.heap.size ≤ k := hws2'
  have hk4 : Keeps (W3.drewN nq) W4 ws := hun.2.then hk4'
  clear hnp hW4 hXX hmm a6 a7 a8 a9 fz6 hun hws2' hk4' hsy
  have HKK : Aside0 (Keeps w W4 ws) := ⟨HK3.out.then hk4⟩
  have HWS : Aside0 (∀ k ∈ ws2, k ∈ ws ∨ w.heap.size ≤ k) := ⟨fun k hk => (hws2 k hk).imp id (fun h => Nat.le_trans HK3.out.2.2.2.1 h)⟩
  have hbk4 : W4.heap[gb]? = some (Obj.cells ((b ++ sp).map (Value.int .u8)).toArray 5 (0, 0)) := hk4.u8 (HM3.out.below (pw_below_drewN (Below.refl _ _) nq)) HBK3.out
  have c10' : W4.cell? ⟨gb, 10, none⟩ = some (.int .u8 x10) := by rw [HX10.out]; exact HCF.out _ hbk4 10 (by omega)
  obtain ⟨s2, hs2⟩ : ∃ x : LS, x = { s with acked := hearF s b, waits := true, n := N, many := x10, parts := [] } := ⟨_, rfl⟩
  rw [← hs2] at hm4
  obtain ⟨mbb, j8, j9, him, hgl4⟩ := waiting hm4 (by rw [hs2])
  have e_parts : s2.parts = [] := by rw [hs2]
  have e_many : s2.many = x10 := by rw [hs2]
  rw [e_many] at j8
  have hok4 := hm4.ok
  have HS2 := Aside0.mk hs2; have HM4 := Aside0.mk hm4; have HIM := Aside0.mk him; have HBK4 := Aside0.mk hbk4; have HEP := Aside0.mk e_parts; have HEM := Aside0.mk e_many; have HOK4 := Aside0.mk hok4
  have hlk := him.lookS Tryd.underlying62 Tryd.underlying3 zslice x9
  rw [e_parts] at hlk
  have hnone : pget x9 s2.parts = none := by rw [e_parts]; rfl
  have hl2 : ∀ n, (Instr.lookup 62 (.map (some mbb)) (.int .i64 x9) true).run Tryd.prog (W4.drewN n) = .ok (.tuple #[.slice none 0 0, .bool false]) (W4.drewN n) := fun n => (hlk.resolve_right (fun ⟨a, _, h, _⟩ => by rw [e_parts] at hnone; rw [hnone] at h; cases h)).2 true _ rfl
  have HNONE := Aside0.mk hnone
  clear hs2 hm4 him hbk4 e_parts e_many hok4 hlk hnone
  have m1 : decide (x10 = x10) = true := decide_eq_true rfl
  have m3 : (x10 != x10) = false := bne_self_eq_false x10
  go_quiet (fail)
  go_wp2
  generalize hW5 : W4.drewN nq = W5
  have hh5 : W5.heap = W4.heap := by rw [← hW5]; rfl
  have hb5 : Below W4.heap.size W4 W5 := by rw [← hW5]; exact pw_below_drewN (Below.refl _ _) _
  have hm5 := HM4.out.below hb5
  have j95 : W5.cell? ⟨g, 9, none⟩ = some (.map (some mbb)) := (World.cell?_of_block (a := ⟨g, 9, none⟩) (by rw [hh5])).trans j9
  have hbk5 : W5.heap[gb]? = some (Obj.cells ((b ++ sp).map (Value.int .u8)).toArray 5 (0, 0)) := by rw [hh5]; exact HBK4.out
  have him5 : IM .i64 (PartR W5) W5 mbb s2.parts := (HIM.out.same (by rw [hh5])).imp (PartR.same (fun b cs _ => by rw [hh5]))
  obtain ⟨off, hoff, hcut⟩ := cut11 gb L (L + q) h11 hLq
  have hpr : PartR W5 (.slice (some ⟨gb, off, none⟩) (L - 11) (L + q - 11)) (b.drop 11) := part_of hbk5 HLN.out.symm h11 hoff (HOKB.out gb HGB.out)
  obtain ⟨W6, hup, hgr6, him6⟩ := him5.put1 Tryd.underlying62 Tryd.underlying3 x9 HNONE.out _ (b.drop 11) hpr
  have hpp : ∀ y ∈ s2.parts ++ [(x9, b.drop 11)], y.2.length ≤ 200 ∧ ∀ z ∈ y.2, 0 ≤ z ∧ z < 256 := by
    intro y hy
    rcases List.mem_append.1 hy with hy | hy
    · exact HOK4.out.2.2.2.2.2.2.2 y hy
    · obtain rfl := List.mem_singleton.1 hy
      refine ⟨?_, fun z hz => HBR.out z (List.mem_of_mem_drop hz)⟩
      show (b.drop 11).length ≤ 200
      rw [List.length_drop, ← HLN.out]
      have := HSZ.out
      omega
  obtain ⟨hm6, hk6⟩ := more_parts hm5 j95 hgr6 him6 hpp
  have HM6 := Aside0.mk hm6
  have HK6 : Aside0 (Keeps w W6 ws) := ⟨(HKK.out.trans ((Keeps.of_below hb5 ws2).then hk6) HWS.out)⟩
  clear hh5 hb5 hm5 hbk5 him5 hpr hgr6 him6 hpp hm6 hk6 hW5 j8 j9 hl2
  go_region
  generalize hW7 : W6.drew = W7
  have hb7 : Below W6.heap.size W6 W7 := by rw [← hW7]; exact below_drew1 (Below.refl _ _)
  have hm7 := HM6.out.below hb7
  obtain ⟨mb7, u8, u9, him7, hgl7⟩ := waiting hm7 (by rw [HS2.out])
  change W7.cell? ⟨g, 8, none⟩ = some (.int .i64 s2.many) at u8
  rw [HEM.out] at u8
  have HM7 := Aside0.mk hm7; have HIM7 := Aside0.mk him7
  have HK7 : Aside0 (Keeps w W7 ws) := ⟨HK6.out.then (Keeps.of_below hb7 ws)⟩
  have hlen : ∀ ty n, (Builtin.len_ #[62] ty #[.map (some mb7)]).run Tryd.prog (W7.drewN n) = .ok (goInt ((s2.parts ++ [(x9, b.drop 11)]).length : Nat)) (W7.drewN n) := fun ty n => HIM7.out.lenS Tryd.underlying62 _ rfl
  clear hm7 him7 hb7 hW7
  have hcnt : ((s2.parts ++ [(x9, b.drop 11)]).length : Int) = 1 := by rw [HEP.out]; rfl
  generalize (s2.parts ++ [(x9, b.drop 11)]).length = cnt at hlen hcnt
  have d5 : decide ((cnt : Int) < x10) = false := decide_eq_false (by rw [hcnt]; omega)
  clear hcnt hless
  go_wp2
  go_quiet (fail)
  go_wp2
  generalize hW8 : W7.drewN nq = W8
  have hb8 : Below W7.heap.size W7 W8 := by rw [← hW8]; exact pw_below_drewN (Below.refl _ _) _
  have hm8 := HM7.out.below hb8
  have hs3 : ({ s2 with parts := s2.parts ++ [(x9, b.drop 11)] } : LS) = { s with acked := hearF s b, waits := true, n := N, many := x10, parts := [(x9, b.drop 11)] } := by rw [HS2.out]; first | done | rfl
  rw [hs3] at hm8
  have HM8 := Aside0.mk hm8
  have HK8 : Aside0 (Keeps w W8 ws) := ⟨HK7.out.then (Keeps.of_below hb8 ws)⟩
  have him8 : IM .i64 (PartR W8) W8 mb7 (s2.parts ++ [(x9, b.drop 11)]) := (HIM7.out.same (by rw [← hW8]; rfl)).imp (PartR.same (fun b cs _ => by rw [← hW8]; rfl))
  have y9 : W8.cell? ⟨g, 9, none⟩ = some (.map (some mb7)) := by rw [← hW8]; exact u9
  have hP : s2.parts ++ [(x9, b.drop 11)] = [(x9, b.drop 11)] := by rw [HS2.out]; first | done | rfl
  rw [hP] at him8
  have HIM8 := Aside0.mk him8
  have hgl8 : g < W8.heap.size := HM8.out.g_in.2
  have hpl : ∀ (j : Nat), (((pget (j : Int) ([(x9, b.drop 11)])).getD []).length ≤ 200) := by
    intro j
    cases hj : pget (j : Int) ([(x9, b.drop 11)]) with
    | none => simp
    | some a => exact (HM8.out.ok.2.2.2.2.2.2.2 _ (pget_mem hj)).1
  generalize hPP : ([(x9, b.drop 11)] : List (Int × List Int)) = P at HIM8 hpl
  have HPL := Aside0.mk hpl; have HPP := Aside0.mk hPP; have HGL8 := Aside0.mk hgl8
  clear hm8 hs3 him8 hP hpl hPP hgl8 hb8 hW8 u8 u9 hlen
  go_loopw [9, 141] (fun v vi wr => ∃ i : Int, vi = .int .i64 i ∧ 0 ≤ i ∧ i ≤ x10 ∧ Aside0 (RS W8.heap.size wr v ((List.range i.toNat).flatMap (fun j : Nat => (pget (j : Int) P).getD []))) ∧ Aside0 (Below W8.heap.size W8 wr)) (fun _ vi _ => (x10 - intOf vi).toNat)
  case atStart => exact ⟨0, rfl, by omega, by omega, ⟨RS.nil _ _⟩, ⟨Below.refl _ _⟩⟩
  case round =>
    obtain ⟨i, rfl, hi0, hi1, HO, HBW⟩ := hrel
    by_cases hx : i < x10
    · have dx : decide (i < x10) = true := decide_eq_true hx
      have y9w : wr.cell? ⟨g, 9, none⟩ = some (.map (some mb7)) := (HBW.out.cell (p := ⟨g, 9, none⟩) HGL8.out).trans y9
      have hsm : wr.heap[mb7]? = W8.heap[mb7]? := HBW.out.block _ HIM8.out.lt
      have hsucc := flat_succ P i hi0
      have hfl := flat_len HPL.out i.toNat
      generalize (List.range i.toNat).flatMap (fun j : Nat => (pget (j : Int) P).getD []) = acc at HO hsucc hfl
      have HSU := Aside0.mk hsucc; have HFL := Aside0.mk hfl
      clear hsucc hfl
      rcases HIM8.out.lookS Tryd.underlying62 Tryd.underlying3 zslice i with ⟨hg1, hl⟩ | ⟨a, v2, hg1, hv2, hl⟩
      · have hl0 := hl false wr hsm
        have HG1 := Aside0.mk hg1
        clear hl hg1 hsm
        go_wp2_with (first | ((with_reducible refine gate_builtin (b := .append) (xs := #[.tmp 144, .tmp 150]) rfl ?_); at_builtin; obtain ⟨sp0, ho_⟩ := HO.out; refine wp_rf_rows (w0 := W8) W8.heap.size rfl (.tmp 144) (.tmp 150) rfl _ acc sp0 [] _ _ _ rfl rfl ho_ (Kd.C_nil _ _) HBW.out (below_size HBW.out) (by have := HFL.out; omega) ?_; intro v1 w1 sp1 ho hb hg; have HO1 : Aside0 (RS W8.heap.size w1 v1 _) := Aside0.mk ⟨sp1, ho⟩; clear HBW; have HBW := Aside0.mk hb; clear ho_ ho hb hg))
        exact ⟨⟨i + 1, rfl, by omega, by omega, ⟨by rw [HSU.out, HG1.out]; exact HO1.out⟩, HBW⟩, by simp only [intOf]; omega⟩
      · have hl0 := hl false wr hsm
        have hal : a.length ≤ 200 := by have := HPL.out i.toNat; rw [Int.toNat_of_nonneg hi0, hg1] at this; exact this
        obtain ⟨A2, c2, rfl, hC2⟩ := (PartR.same (fun b cs hb => HBW.out.block b (Array.getElem?_eq_some_iff.1 hb).1) _ _ hv2 : PartR wr v2 a).C (by omega)
        have HG1 := Aside0.mk hg1; have HC2 := Aside0.mk hC2
        clear hl hg1 hsm hv2 hC2
        go_wp2_with (first | ((with_reducible refine gate_builtin (b := .append) (xs := #[.tmp 144, .tmp 150]) rfl ?_); at_builtin; obtain ⟨sp0, ho_⟩ := HO.out; refine wp_rf_rows (w0 := W8) W8.heap.size rfl (.tmp 144) (.tmp 150) rfl _ acc sp0 a _ _ _ rfl rfl ho_ HC2.out HBW.out (below_size HBW.out) (by have := HFL.out; omega) ?_; intro v1 w1 sp1 ho hb hg; have HO1 : Aside0 (RS W8.heap.size w1 v1 _) := Aside0.mk ⟨sp1, ho⟩; clear HBW; have HBW := Aside0.mk hb; clear ho_ ho hb hg))
        exact ⟨⟨i + 1, rfl, by omega, by omega, ⟨by rw [HSU.out, HG1.out]; exact HO1.out⟩, HBW⟩, by simp only [intOf]; omega⟩
    · have dx : decide (i < x10) = false := decide_eq_false hx
      have hie : i = x10 := by omega
      rw [hie] at HO
      clear hx dx hi0 hi1
      have hm9 := HM8.out.below HBW.out
      have ht := tell_calls g _ ws2 N wr hm9 hNr (by intro h; exact absurd (h.symm.trans HANY.out) (by simp))
      have HO9 := Aside0.mk HO.out
      go_wp2_with fail
      ((with_reducible refine ht.mono ?_); rintro e_ W9 ⟨rfl, hm10', hgr9⟩)
      clear ht
      go_wp2
      go_ret3
      refine ⟨_, ws2, rfl, ?_, hm10', HWS.out, ?_⟩
      · have hout : outF { s with acked := hearF s b, waits := true, n := N, many := x10, parts := [(x9, b.drop 11)] } = (List.range x10.toNat).flatMap (fun j : Nat => (pget (j : Int) P).getD []) := by rw [← HPP.out]; rfl
        rw [hout]
        refine (HO9.out.lower (Keeps.then HK8.out (Keeps.refl _ _)).2.2.2.1).move (fun b hb hlt => hgr9.block b hlt (fun e => ?_))
        injection e with e
        have h1 := (HO9.out.own b hb).1
        have h2 := HGL8.out
        omega
      · exact (HK8.out.then (Keeps.of_below HBW.out ws)).trans (Keeps.of_grown hgr9 hm9.g_in.1) HWS.out
set_option maxHeartbeats 8000000 in
set_option maxRecDepth 100000 in
theorem rcv_newer_pendinga [Inhabited OkB] (A : Option Addr) (c : Nat) (d : List Int) (g : Nat) (s : LS) (ws : List Nat) (w : World) (h : LinkM w g s ws) (hC : Kd.C (Kd.int .u8) w A d.length d) (hc : d.length ≤ c) (hd : ∀ x ∈ d, 0 ≤ x ∧ x < 256) (hl : d.length ≤ 140737488351232) (hT : Tab w) (hokb : ∀ k, w.heap.size ≤ k → (default : OkB).ok k)
    (b : List Int) (N x9 x10 : Int) (hbe : b = (opF d).1) (hNx : N = rd b 7 * 256 + rd b 8) (hx9 : x9 = rd b 9) (hx10 : x10 = rd b 10) (hbl : b.length ≤ 140737488355328) (h2 : (opF d).2 = true) (h3 : formedF b = true) (hany : s.any = true) (hnw : newerF N s.last = true) (hw : s.waits = true) (hne : N ≠ s.n) (hnn : newerF N s.n = true) (hless : 1 < x10) : Calls Tryd.prog 13 #[.pointer (some ⟨g, 0, none⟩), .slice A d.length c] w (RcvPost w g ws { s with acked := hearF s b, waits := true, n := N, many := x10, parts := [(x9, b.drop 11)] } [] false 0) := by
  have HANY := Aside0.mk hany; clear hany
  have HNW := Aside0.mk hnw; clear hnw
  have HWA := Aside0.mk hw; clear hw
  have HOKB := Aside0.mk hokb; clear hokb
  have HX9 := Aside0.mk hx9; have HX10 := Aside0.mk hx10; have HNX := Aside0.mk hNx
  clear hx9 hx10 hNx
  have hbr : ∀ x ∈ b, 0 ≤ x ∧ x < 256 := by rw [hbe]; exact opF_range d hd
  have hO := Open_callsF A c d w hC hc (by omega) hT
  rw [h2, ← hbe] at hO
  obtain ⟨L, hL⟩ : ∃ L, L = b.length := ⟨_, rfl⟩
  rw [← hL] at hbl
  have HLN := Aside0.mk hL; have HBR := Aside0.mk hbr
  clear hbe hL hbr h2 hC hd hc hT
  go_enter Tryd.func13, Tryd.ntmps13
  go_wp2
  refine wp_scope_fwd 1 rfl ?_
  go_wp2_with fail
  ((with_reducible refine hO.mono ?_); rintro e_ W1 ⟨v0, rfl, ⟨sp, ho_⟩, hb_⟩)
  obtain ⟨Ab, hv, hA, _, hcm⟩ := ho_.form
  rw [List.length_append, ← HLN.out] at hv hcm
  subst hv
  have hRR := Kd.R_reads' ho_.R
  rw [← HLN.out] at hRR
  obtain ⟨h11, hm1, hm10, hpm, hsz⟩ := formed_facts h3
  rw [← HLN.out] at h11 hsz
  obtain ⟨gb, hgb, hbk⟩ := hA.resolve_left (fun hn => by
    have h1 := HLN.out
    rw [(List.append_eq_nil_iff.1 hn.2).1] at h1
    simp at h1
    omega)
  subst hgb
  have HBK := Aside0.mk hbk
  generalize hq_ : sp.length = q at hRR hcm ⊢
  clear hq_
  have hF := formed_calls (some ⟨gb, 0, none⟩) L (L + q) b W1 hRR.2.2 hRR.2.1 (fun _ => ⟨gb, rfl⟩) HBR.out hbl
  rw [h3] at hF
  have hgbn := ho_.base gb rfl
  have HL1 := Aside0.mk (h.below hb_); have HB := Aside0.mk hb_; have HH := Aside0.mk h; have HGB := Aside0.mk hgbn
  have HSZ := Aside0.mk hsz; have hLq := hRR.2.1
  clear h hbk ho_ hb_ hO hRR hA h3 hgbn hsz
  go_wp2_with fail
  ((with_reducible refine hF.mono ?_); rintro e_ W2 ⟨rfl, q_, rfl⟩)
  clear hF
  have HL2 := Aside0.mk (HL1.out.below (pw_below_drewN (Below.refl _ _) q_))
  have hcellf : ∀ (W : World), W.heap[gb]? = some (Obj.cells ((b ++ sp).map (Value.int .u8)).toArray 5 (0, 0)) → ∀ i : Nat, i < L → W.cell? ⟨gb, i, none⟩ = some (.int .u8 (rd b (i : Int))) := by
    intro W hW i hi
    have hi' : i < b.length := by have := HLN.out; omega
    rw [blk_cell hW, rd_get' hi']
    simp only [List.getElem?_toArray, List.map_append]
    rw [List.getElem?_append_left (by simpa using hi'), List.getElem?_map, List.getElem?_eq_getElem hi']
    rfl
  have HCF := Aside0.mk hcellf; clear hcellf
  have hh := hear_calls g s ws gb L (L + q) b (W1.drewN q_) HL2.out HLN.out.symm (HCF.out _ HBK.out) h11 HBR.out
  go_wp2_with fail
  ((with_reducible refine hh.mono ?_); rintro e_ W3 ⟨rfl, hm3, hk3⟩)
  clear hh
  have hbk3 := hk3.u8 HL2.out HBK.out
  have HBK3 := Aside0.mk hbk3
  have HK3 : Aside0 (Keeps w W3 ws) := ⟨(Keeps.of_below (pw_below_drewN HB.out q_) ws).then hk3⟩
  have HM3 := Aside0.mk hm3
  have c7 : W3.cell? ⟨gb, 7, none⟩ = some (.int .u8 (rd b 7)) := HCF.out _ hbk3 7 (by omega)
  have c8 : W3.cell? ⟨gb, 8, none⟩ = some (.int .u8 (rd b 8)) := HCF.out _ hbk3 8 (by omega)
  have c9 : W3.cell? ⟨gb, 9, none⟩ = some (.int .u8 (rd b 9)) := HCF.out _ hbk3 9 (by omega)
  have c10 : W3.cell? ⟨gb, 10, none⟩ = some (.int .u8 (rd b 10)) := HCF.out _ hbk3 10 (by omega)
  have rdr : ∀ i : Nat, i < 11 → 0 ≤ rd b (i : Int) ∧ rd b (i : Int) < 256 := fun i hi => rd_mem HBR.out (by omega) (by have := HLN.out; omega)
  have r7 : 0 ≤ rd b 7 ∧ rd b 7 < 256 := rdr 7 (by omega)
  have r8 : 0 ≤ rd b 8 ∧ rd b 8 < 256 := rdr 8 (by omega)
  have r9 : 0 ≤ rd b 9 ∧ rd b 9 < 256 := rdr 9 (by omega)
  have r10 : 0 ≤ rd b 10 ∧ rd b 10 < 256 := rdr 10 (by omega)
  obtain ⟨sv, ma, mp, gs, mb, hg3, hs3, ha3, hp3, hw3, hne3, hws3, hok3⟩ := hm3
  obtain ⟨mo, rfl⟩ : ∃ o, mp = .map o := by
    rcases hp3 with ⟨e, _⟩ | ⟨b', _, e, _⟩
    · exact ⟨_, e⟩
    · exact ⟨_, e⟩
  obtain ⟨_, _, _, k3, k4, _, k6, k7, k8, k9⟩ := lcell hg3
  change W3.cell? ⟨g, 3, none⟩ = some (.bool s.any) at k3
  change W3.cell? ⟨g, 4, none⟩ = some (.int .u16 s.last) at k4
  change W3.cell? ⟨g, 6, none⟩ = some (.bool s.waits) at k6
  change W3.cell? ⟨g, 7, none⟩ = some (.int .u16 s.n) at k7
  change W3.cell? ⟨g, 8, none⟩ = some (.int .i64 s.many) at k8
  have hNe : bits .or .u16 (rd b 7 * 256) (rd b 8) = rd b 7 * 256 + rd b 8 := or_add16 _ _ r7 r8
  have hfz : ∀ j, W3.frozen? ⟨g, j, none⟩ = false := fun j => blk_frozen hg3 j
  have hgl : g < W3.heap.size := (Array.getElem?_eq_some_iff.1 hg3).1
  have hsamea : ∀ (o : Obj) (n : Nat), ((W3.drewN n).alloc o).heap[g]? = W3.heap[g]? := fun o n => (MapKept.heap_alloc (W3.drewN n) o).2 g hgl
  have al : ∀ (o : Obj) (n j : Nat), ((W3.drewN n).alloc o).cell? ⟨g, j, none⟩ = W3.cell? ⟨g, j, none⟩ ∧ ((W3.drewN n).alloc o).frozen? ⟨g, j, none⟩ = W3.frozen? ⟨g, j, none⟩ := fun o n j => ⟨World.cell?_of_block (a := ⟨g, j, none⟩) (hsamea o n), World.frozen?_of_block (a := ⟨g, j, none⟩) (hsamea o n)⟩
  have hok := HH.out.ok
  have HOK := Aside0.mk hok; clear hok
  have HAL := Aside0.mk al
  clear al hsamea hg3 hs3 ha3 hp3 hw3 hne3 hws3 hok3 hbk3 hk3 rdr
  have hx9 := HX9.out; have hx10 := HX10.out; have hNx := HNX.out
  rw [← hNx] at hNe
  have hNr : 0 ≤ N ∧ N < 65536 := by omega
  obtain ⟨x7, hx7⟩ : ∃ x, x = rd b 7 := ⟨_, rfl⟩
  obtain ⟨x8, hx8⟩ : ∃ x, x = rd b 8 := ⟨_, rfl⟩
  rw [← hx7] at c7 r7 hNe; rw [← hx8] at c8 r8 hNe; rw [← hx9] at c9 r9 hpm; rw [← hx10] at c10 r10 hm1 hm10 hpm
  clear hx7 hx8 hx9 hx10 hNx
  have n1 : decide (N = s.n) = false := decide_eq_false hne
  have n2 : (N == s.n) = false := beq_eq_false_iff_ne.2 hne
  have n3 : (N != s.n) = true := bne_iff_ne.2 hne
  clear hne
  obtain ⟨sv', ma', mp', gs', mb', hg3', _⟩ := HM3.out
  have hmp' : mp' = .map mo := by
    have := blk_cell hg3' 9
    rw [k9] at this
    injection this with this
    exact this.symm
  subst hmp'
  have HG3 := Aside0.mk hg3'; clear hg3'
  have hsu : ∀ (o : Obj) (n : Nat), (((W3.drewN n).setCell ⟨g, 6, none⟩ (.bool false)).alloc o).heap[g]? = ((W3.drewN n).setCell ⟨g, 6, none⟩ (.bool false)).heap[g]? := fun o n => (MapKept.heap_alloc _ o).2 g (by simpa using hgl)
  have hb6 := fun (n : Nat) => blk_put (w := W3.drewN n) HG3.out 6 (.bool false) rfl
  have fz6 : ∀ (o : Obj) (n j : Nat), (((W3.drewN n).setCell ⟨g, 6, none⟩ (.bool false)).alloc o).frozen? ⟨g, j, none⟩ = false := fun o n j => blk_frozen ((hsu o n).trans (hb6 n)) j
  have a6 : ∀ (o : Obj) (n : Nat), (((W3.drewN n).setCell ⟨g, 6, none⟩ (.bool false)).alloc o).cell? ⟨g, 6, none⟩ = some (.bool false) := fun o n => blk_cell ((hsu o n).trans (hb6 n)) 6
  have a7 : ∀ (o : Obj) (n : Nat), (((W3.drewN n).setCell ⟨g, 6, none⟩ (.bool false)).alloc o).cell? ⟨g, 7, none⟩ = some (.int .u16 s.n) := fun o n => blk_cell ((hsu o n).trans (hb6 n)) 7
  have a8 : ∀ (o : Obj) (n : Nat), (((W3.drewN n).setCell ⟨g, 6, none⟩ (.bool false)).alloc o).cell? ⟨g, 8, none⟩ = some (.int .i64 s.many) := fun o n => blk_cell ((hsu o n).trans (hb6 n)) 8
  have a9 : ∀ (o : Obj) (n : Nat), (((W3.drewN n).setCell ⟨g, 6, none⟩ (.bool false)).alloc o).cell? ⟨g, 9, none⟩ = some (.map mo) := fun o n => blk_cell ((hsu o n).trans (hb6 n)) 9
  clear hsu hb6
  have hmm : ∀ W : World, (Instr.makeMap 62 none).run Tryd.prog W = .ok (.map (some W.heap.size)) (W.alloc (.map #[] 0)) := by
    intro W
    simp [Instr.makeMap, Result.andThen]
  rw [HWA.out] at k6
  rw [HANY.out] at k3
  have hnw := HNW.out
  go_wp2
  go_quiet (fail)
  go_wp2_with fail
  ((with_reducible refine (newer_calls _ _ _).mono ?_); rintro e_ Wn ⟨rfl, rfl⟩)
  rw [hnw]
  go_wp2_with fail
  ((with_reducible refine (newer_calls _ _ _).mono ?_); rintro e_ Wn ⟨rfl, rfl⟩)
  rw [hnn]
  go_wp2
  have hun := unwait (HM3.out.below (pw_below_drewN (Below.refl _ _) nq))
  have hsy : ((W3.drewN nq).setCell ⟨g, 6, none⟩ (.bool false)).heap.size = W3.heap.size := by simp [World.setCell]
  have hnp := fun X hX => new_parts hun.1 N x10 hNr (by omega) X hX
  rw [hsy] at hnp
  have hXX : (((((((W3.drewN nq).setCell ⟨g, 6, none⟩ (Value.bool false)).setCell ⟨g, 6, none⟩ (Value.bool true)).setCell ⟨g, 7, none⟩ (Value.int IntKind.u16 N)).setCell ⟨g, 8, none⟩ (Value.int IntKind.i64 x10)).setCell ⟨g, 9, none⟩ (Value.map (some W3.heap.size))).alloc (Obj.map #[] 0)) =
      (((((((W3.drewN nq).setCell ⟨g, 6, none⟩ (Value.bool false)).alloc (Obj.map #[] 0)).setCell ⟨g, 6, none⟩ (Value.bool true)).setCell ⟨g, 7, none⟩ (Value.int IntKind.u16 N)).setCell ⟨g, 8, none⟩ (Value.int IntKind.i64 x10)).setCell ⟨g, 9, none⟩ (Value.map (some W3.heap.size))) := by
    rw [World.setCell_alloc_past _ g 6 _ (by simpa [World.setCell] using hgl), World.setCell_alloc_past _ g 7 _ (by simpa [World.setCell] using hgl), World.setCell_alloc_past _ g 8 _ (by simpa [World.setCell] using hgl), World.setCell_alloc_past _ g 9 _ (by simpa [World.setCell] using hgl)]
  generalize hW4 : (((((((W3.drewN nq).setCell ⟨g, 6, none⟩ (Value.bool false)).setCell ⟨g, 6, none⟩ (Value.bool true)).setCell ⟨g, 7, none⟩ (Value.int IntKind.u16 N)).setCell ⟨g, 8, none⟩ (Value.int IntKind.i64 x10)).setCell ⟨g, 9, none⟩ (Value.map (some W3.heap.size))).alloc (Obj.map #[] 0)) = W4
  obtain ⟨ws2, hm4, hws2', hk4'⟩ := hnp W4 (hW4.symm.trans hXX)
  have hws2 : ∀ k ∈ ws2, k ∈ ws ∨ W3.heap.size ≤ k := hws2'
  have hk4 : Keeps (W3.drewN nq) W4 ws := hun.2.then hk4'
  clear hnp hW4 hXX hmm a6 a7 a8 a9 fz6 hun hws2' hk4' hsy
  have HKK : Aside0 (Keeps w W4 ws) := ⟨HK3.out.then hk4⟩
  have HWS : Aside0 (∀ k ∈ ws2, k ∈ ws ∨ w.heap.size ≤ k) := ⟨fun k hk => (hws2 k hk).imp id (fun h => Nat.le_trans HK3.out.2.2.2.1 h)⟩
  have hbk4 : W4.heap[gb]? = some (Obj.cells ((b ++ sp).map (Value.int .u8)).toArray 5 (0, 0)) := hk4.u8 (HM3.out.below (pw_below_drewN (Below.refl _ _) nq)) HBK3.out
  have c10' : W4.cell? ⟨gb, 10, none⟩ = some (.int .u8 x10) := by rw [HX10.out]; exact HCF.out _ hbk4 10 (by omega)
  obtain ⟨s2, hs2⟩ : ∃ x : LS, x = { s with acked := hearF s b, waits := true, n := N, many := x10, parts := [] } := ⟨_, rfl⟩
  rw [← hs2] at hm4
  obtain ⟨mbb, j8, j9, him, hgl4⟩ := waiting hm4 (by rw [hs2])
  have e_parts : s2.parts = [] := by rw [hs2]
  have e_many : s2.many = x10 := by rw [hs2]
  rw [e_many] at j8
  have hok4 := hm4.ok
  have HS2 := Aside0.mk hs2; have HM4 := Aside0.mk hm4; have HIM := Aside0.mk him; have HBK4 := Aside0.mk hbk4; have HEP := Aside0.mk e_parts; have HEM := Aside0.mk e_many; have HOK4 := Aside0.mk hok4
  have hlk := him.lookS Tryd.underlying62 Tryd.underlying3 zslice x9
  rw [e_parts] at hlk
  have hnone : pget x9 s2.parts = none := by rw [e_parts]; rfl
  have hl2 : ∀ n, (Instr.lookup 62 (.map (some mbb)) (.int .i64 x9) true).run Tryd.prog (W4.drewN n) = .ok (.tuple #[.slice none 0 0, .bool false]) (W4.drewN n) := fun n => (hlk.resolve_right (fun ⟨a, _, h, _⟩ => by rw [e_parts] at hnone; rw [hnone] at h; cases h)).2 true _ rfl
  have HNONE := Aside0.mk hnone
  clear hs2 hm4 him hbk4 e_parts e_many hok4 hlk hnone
  have m1 : decide (x10 = x10) = true := decide_eq_true rfl
  have m3 : (x10 != x10) = false := bne_self_eq_false x10
  go_quiet (fail)
  go_wp2
  generalize hW5 : W4.drewN nq = W5
  have hh5 : W5.heap = W4.heap := by rw [← hW5]; rfl
  have hb5 : Below W4.heap.size W4 W5 := by rw [← hW5]; exact pw_below_drewN (Below.refl _ _) _
  have hm5 := HM4.out.below hb5
  have j95 : W5.cell? ⟨g, 9, none⟩ = some (.map (some mbb)) := (World.cell?_of_block (a := ⟨g, 9, none⟩) (by rw [hh5])).trans j9
  have hbk5 : W5.heap[gb]? = some (Obj.cells ((b ++ sp).map (Value.int .u8)).toArray 5 (0, 0)) := by rw [hh5]; exact HBK4.out
  have him5 : IM .i64 (PartR W5) W5 mbb s2.parts := (HIM.out.same (by rw [hh5])).imp (PartR.same (fun b cs _ => by rw [hh5]))
  obtain ⟨off, hoff, hcut⟩ := cut11 gb L (L + q) h11 hLq
  have hpr : PartR W5 (.slice (some ⟨gb, off, none⟩) (L - 11) (L + q - 11)) (b.drop 11) := part_of hbk5 HLN.out.symm h11 hoff (HOKB.out gb HGB.out)
  obtain ⟨W6, hup, hgr6, him6⟩ := him5.put1 Tryd.underlying62 Tryd.underlying3 x9 HNONE.out _ (b.drop 11) hpr
  have hpp : ∀ y ∈ s2.parts ++ [(x9, b.drop 11)], y.2.length ≤ 200 ∧ ∀ z ∈ y.2, 0 ≤ z ∧ z < 256 := by
    intro y hy
    rcases List.mem_append.1 hy with hy | hy
    · exact HOK4.out.2.2.2.2.2.2.2 y hy
    · obtain rfl := List.mem_singleton.1 hy
      refine ⟨?_, fun z hz => HBR.out z (List.mem_of_mem_drop hz)⟩
      show (b.drop 11).length ≤ 200
      rw [List.length_drop, ← HLN.out]
      have := HSZ.out
      omega
  obtain ⟨hm6, hk6⟩ := more_parts hm5 j95 hgr6 him6 hpp
  have HM6 := Aside0.mk hm6
  have HK6 : Aside0 (Keeps w W6 ws) := ⟨(HKK.out.trans ((Keeps.of_below hb5 ws2).then hk6) HWS.out)⟩
  clear hh5 hb5 hm5 hbk5 him5 hpr hgr6 him6 hpp hm6 hk6 hW5 j8 j9 hl2
  go_region
  generalize hW7 : W6.drew = W7
  have hb7 : Below W6.heap.size W6 W7 := by rw [← hW7]; exact below_drew1 (Below.refl _ _)
  have hm7 := HM6.out.below hb7
  obtain ⟨mb7, u8, u9, him7, hgl7⟩ := waiting hm7 (by rw [HS2.out])
  change W7.cell? ⟨g, 8, none⟩ = some (.int .i64 s2.many) at u8
  rw [HEM.out] at u8
  have HM7 := Aside0.mk hm7; have HIM7 := Aside0.mk him7
  have HK7 : Aside0 (Keeps w W7 ws) := ⟨HK6.out.then (Keeps.of_below hb7 ws)⟩
  have hlen : ∀ ty n, (Builtin.len_ #[62] ty #[.map (some mb7)]).run Tryd.prog (W7.drewN n) = .ok (goInt ((s2.parts ++ [(x9, b.drop 11)]).length : Nat)) (W7.drewN n) := fun ty n => HIM7.out.lenS Tryd.underlying62 _ rfl
  clear hm7 him7 hb7 hW7
  have hcnt : ((s2.parts ++ [(x9, b.drop 11)]).length : Int) = 1 := by rw [HEP.out]; rfl
  generalize (s2.parts ++ [(x9, b.drop 11)]).length = cnt at hlen hcnt
  have d5 : decide ((cnt : Int) < x10) = true := decide_eq_true (by rw [hcnt]; exact hless)
  clear hcnt hless
  go_wp2
  go_quiet (fail)
  go_wp2
  go_ret3
  exact ⟨_, ws2, rfl, RS.nil _ _, by rw [HS2.out] at HM7; exact HM7.out.below (pw_below_drewN (Below.refl _ _) _), HWS.out, HK7.out⟩
set_option maxHeartbeats 8000000 in
set_option maxRecDepth 100000 in
theorem rcv_newer_tolda [Inhabited OkB] (A : Option Addr) (c : Nat) (d : List Int) (g : Nat) (s : LS) (ws : List Nat) (w : World) (h : LinkM w g s ws) (hC : Kd.C (Kd.int .u8) w A d.length d) (hc : d.length ≤ c) (hd : ∀ x ∈ d, 0 ≤ x ∧ x < 256) (hl : d.length ≤ 140737488351232) (hT : Tab w) (hokb : ∀ k, w.heap.size ≤ k → (default : OkB).ok k)
    (b : List Int) (N x9 x10 : Int) (hbe : b = (opF d).1) (hNx : N = rd b 7 * 256 + rd b 8) (hx9 : x9 = rd b 9) (hx10 : x10 = rd b 10) (hbl : b.length ≤ 140737488355328) (h2 : (opF d).2 = true) (h3 : formedF b = true) (hany : s.any = true) (hnw : newerF N s.last = true) (hw : s.waits = true) (hne : N ≠ s.n) (hnn : newerF N s.n = true) (hless : ¬ 1 < x10) : Calls Tryd.prog 13 #[.pointer (some ⟨g, 0, none⟩), .slice A d.length c] w (RcvPost w g ws (tellF { s with acked := hearF s b, waits := true, n := N, many := x10, parts := [(x9, b.drop 11)] } N) (outF { s with acked := hearF s b, waits := true, n := N, many := x10, parts := [(x9, b.drop 11)] }) true 0) := by
  have HANY := Aside0.mk hany; clear hany
  have HNW := Aside0.mk hnw; clear hnw
  have HWA := Aside0.mk hw; clear hw
  have HOKB := Aside0.mk hokb; clear hokb
  have HX9 := Aside0.mk hx9; have HX10 := Aside0.mk hx10; have HNX := Aside0.mk hNx
  clear hx9 hx10 hNx
  have hbr : ∀ x ∈ b, 0 ≤ x ∧ x < 256 := by rw [hbe]; exact opF_range d hd
  have hO := Open_callsF A c d w hC hc (by omega) hT
  rw [h2, ← hbe] at hO
  obtain ⟨L, hL⟩ : ∃ L, L = b.length := ⟨_, rfl⟩
  rw [← hL] at hbl
  have HLN := Aside0.mk hL; have HBR := Aside0.mk hbr
  clear hbe hL hbr h2 hC hd hc hT
  go_enter Tryd.func13, Tryd.ntmps13
  go_wp2
  refine wp_scope_fwd 1 rfl ?_
  go_wp2_with fail
  ((with_reducible refine hO.mono ?_); rintro e_ W1 ⟨v0, rfl, ⟨sp, ho_⟩, hb_⟩)
  obtain ⟨Ab, hv, hA, _, hcm⟩ := ho_.form
  rw [List.length_append, ← HLN.out] at hv hcm
  subst hv
  have hRR := Kd.R_reads' ho_.R
  rw [← HLN.out] at hRR
  obtain ⟨h11, hm1, hm10, hpm, hsz⟩ := formed_facts h3
  rw [← HLN.out] at h11 hsz
  obtain ⟨gb, hgb, hbk⟩ := hA.resolve_left (fun hn => by
    have h1 := HLN.out
    rw [(List.append_eq_nil_iff.1 hn.2).1] at h1
    simp at h1
    omega)
  subst hgb
  have HBK := Aside0.mk hbk
  generalize hq_ : sp.length = q at hRR hcm ⊢
  clear hq_
  have hF := formed_calls (some ⟨gb, 0, none⟩) L (L + q) b W1 hRR.2.2 hRR.2.1 (fun _ => ⟨gb, rfl⟩) HBR.out hbl
  rw [h3] at hF
  have hgbn := ho_.base gb rfl
  have HL1 := Aside0.mk (h.below hb_); have HB := Aside0.mk hb_; have HH := Aside0.mk h; have HGB := Aside0.mk hgbn
  have HSZ := Aside0.mk hsz; have hLq := hRR.2.1
  clear h hbk ho_ hb_ hO hRR hA h3 hgbn hsz
  go_wp2_with fail
  ((with_reducible refine hF.mono ?_); rintro e_ W2 ⟨rfl, q_, rfl⟩)
  clear hF
  have HL2 := Aside0.mk (HL1.out.below (pw_below_drewN (Below.refl _ _) q_))
  have hcellf : ∀ (W : World), W.heap[gb]? = some (Obj.cells ((b ++ sp).map (Value.int .u8)).toArray 5 (0, 0)) → ∀ i : Nat, i < L → W.cell? ⟨gb, i, none⟩ = some (.int .u8 (rd b (i : Int))) := by
    intro W hW i hi
    have hi' : i < b.length := by have := HLN.out; omega
    rw [blk_cell hW, rd_get' hi']
    simp only [List.getElem?_toArray, List.map_append]
    rw [List.getElem?_append_left (by simpa using hi'), List.getElem?_map, List.getElem?_eq_getElem hi']
    rfl
  have HCF := Aside0.mk hcellf; clear hcellf
  have hh := hear_calls g s ws gb L (L + q) b (W1.drewN q_) HL2.out HLN.out.symm (HCF.out _ HBK.out) h11 HBR.out
  go_wp2_with fail
  ((with_reducible refine hh.mono ?_); rintro e_ W3 ⟨rfl, hm3, hk3⟩)
  clear hh
  have hbk3 := hk3.u8 HL2.out HBK.out
  have HBK3 := Aside0.mk hbk3
  have HK3 : Aside0 (Keeps w W3 ws) := ⟨(Keeps.of_below (pw_below_drewN HB.out q_) ws).then hk3⟩
  have HM3 := Aside0.mk hm3
  have c7 : W3.cell? ⟨gb, 7, none⟩ = some (.int .u8 (rd b 7)) := HCF.out _ hbk3 7 (by omega)
  have c8 : W3.cell? ⟨gb, 8, none⟩ = some (.int .u8 (rd b 8)) := HCF.out _ hbk3 8 (by omega)
  have c9 : W3.cell? ⟨gb, 9, none⟩ = some (.int .u8 (rd b 9)) := HCF.out _ hbk3 9 (by omega)
  have c10 : W3.cell? ⟨gb, 10, none⟩ = some (.int .u8 (rd b 10)) := HCF.out _ hbk3 10 (by omega)
  have rdr : ∀ i : Nat, i < 11 → 0 ≤ rd b (i : Int) ∧ rd b (i : Int) < 256 := fun i hi => rd_mem HBR.out (by omega) (by have := HLN.out; omega)
  have r7 : 0 ≤ rd b 7 ∧ rd b 7 < 256 := rdr 7 (by omega)
  have r8 : 0 ≤ rd b 8 ∧ rd b 8 < 256 := rdr 8 (by omega)
  have r9 : 0 ≤ rd b 9 ∧ rd b 9 < 256 := rdr 9 (by omega)
  have r10 : 0 ≤ rd b 10 ∧ rd b 10 < 256 := rdr 10 (by omega)
  obtain ⟨sv, ma, mp, gs, mb, hg3, hs3, ha3, hp3, hw3, hne3, hws3, hok3⟩ := hm3
  obtain ⟨mo, rfl⟩ : ∃ o, mp = .map o := by
    rcases hp3 with ⟨e, _⟩ | ⟨b', _, e, _⟩
    · exact ⟨_, e⟩
    · exact ⟨_, e⟩
  obtain ⟨_, _, _, k3, k4, _, k6, k7, k8, k9⟩ := lcell hg3
  change W3.cell? ⟨g, 3, none⟩ = some (.bool s.any) at k3
  change W3.cell? ⟨g, 4, none⟩ = some (.int .u16 s.last) at k4
  change W3.cell? ⟨g, 6, none⟩ = some (.bool s.waits) at k6
  change W3.cell? ⟨g, 7, none⟩ = some (.int .u16 s.n) at k7
  change W3.cell? ⟨g, 8, none⟩ = some (.int .i64 s.many) at k8
  have hNe : bits .or .u16 (rd b 7 * 256) (rd b 8) = rd b 7 * 256 + rd b 8 := or_add16 _ _ r7 r8
  have hfz : ∀ j, W3.frozen? ⟨g, j, none⟩ = false := fun j => blk_frozen hg3 j
  have hgl : g < W3.heap.size := (Array.getElem?_eq_some_iff.1 hg3).1
  have hsamea : ∀ (o : Obj) (n : Nat), ((W3.drewN n).alloc o).heap[g]? = W3.heap[g]? := fun o n => (MapKept.heap_alloc (W3.drewN n) o).2 g hgl
  have al : ∀ (o : Obj) (n j : Nat), ((W3.drewN n).alloc o).cell? ⟨g, j, none⟩ = W3.cell? ⟨g, j, none⟩ ∧ ((W3.drewN n).alloc o).frozen? ⟨g, j, none⟩ = W3.frozen? ⟨g, j, none⟩ := fun o n j => ⟨World.cell?_of_block (a := ⟨g, j, none⟩) (hsamea o n), World.frozen?_of_block (a := ⟨g, j, none⟩) (hsamea o n)⟩
  have hok := HH.out.ok
  have HOK := Aside0.mk hok; clear hok
  have HAL := Aside0.mk al
  clear al hsamea hg3 hs3 ha3 hp3 hw3 hne3 hws3 hok3 hbk3 hk3 rdr
  have hx9 := HX9.out; have hx10 := HX10.out; have hNx := HNX.out
  rw [← hNx] at hNe
  have hNr : 0 ≤ N ∧ N < 65536 := by omega
  obtain ⟨x7, hx7⟩ : ∃ x, x = rd b 7 := ⟨_, rfl⟩
  obtain ⟨x8, hx8⟩ : ∃ x, x = rd b 8 := ⟨_, rfl⟩
  rw [← hx7] at c7 r7 hNe; rw [← hx8] at c8 r8 hNe; rw [← hx9] at c9 r9 hpm; rw [← hx10] at c10 r10 hm1 hm10 hpm
  clear hx7 hx8 hx9 hx10 hNx
  have n1 : decide (N = s.n) = false := decide_eq_false hne
  have n2 : (N == s.n) = false := beq_eq_false_iff_ne.2 hne
  have n3 : (N != s.n) = true := bne_iff_ne.2 hne
  clear hne
  obtain ⟨sv', ma', mp', gs', mb', hg3', _⟩ := HM3.out
  have hmp' : mp' = .map mo := by
    have := blk_cell hg3' 9
    rw [k9] at this
    injection this with this
    exact this.symm
  subst hmp'
  have HG3 := Aside0.mk hg3'; clear hg3'
  have hsu : ∀ (o : Obj) (n : Nat), (((W3.drewN n).setCell ⟨g, 6, none⟩ (.bool false)).alloc o).heap[g]? = ((W3.drewN n).setCell ⟨g, 6, none⟩ (.bool false)).heap[g]? := fun o n => (MapKept.heap_alloc _ o).2 g (by simpa using hgl)
  have hb6 := fun (n : Nat) => blk_put (w := W3.drewN n) HG3.out 6 (.bool false) rfl
  have fz6 : ∀ (o : Obj) (n j : Nat), (((W3.drewN n).setCell ⟨g, 6, none⟩ (.bool false)).alloc o).frozen? ⟨g, j, none⟩ = false := fun o n j => blk_frozen ((hsu o n).trans (hb6 n)) j
  have a6 : ∀ (o : Obj) (n : Nat), (((W3.drewN n).setCell ⟨g, 6, none⟩ (.bool false)).alloc o).cell? ⟨g, 6, none⟩ = some (.bool false) := fun o n => blk_cell ((hsu o n).trans (hb6 n)) 6
  have a7 : ∀ (o : Obj) (n : Nat), (((W3.drewN n).setCell ⟨g, 6, none⟩ (.bool false)).alloc o).cell? ⟨g, 7, none⟩ = some (.int .u16 s.n) := fun o n => blk_cell ((hsu o n).trans (hb6 n)) 7
  have a8 : ∀ (o : Obj) (n : Nat), (((W3.drewN n).setCell ⟨g, 6, none⟩ (.bool false)).alloc o).cell? ⟨g, 8, none⟩ = some (.int .i64 s.many) := fun o n => blk_cell ((hsu o n).trans (hb6 n)) 8
  have a9 : ∀ (o : Obj) (n : Nat), (((W3.drewN n).setCell ⟨g, 6, none⟩ (.bool false)).alloc o).cell? ⟨g, 9, none⟩ = some (.map mo) := fun o n => blk_cell ((hsu o n).trans (hb6 n)) 9
  clear hsu hb6
  have hmm : ∀ W : World, (Instr.makeMap 62 none).run Tryd.prog W = .ok (.map (some W.heap.size)) (W.alloc (.map #[] 0)) := by
    intro W
    simp [Instr.makeMap, Result.andThen]
  rw [HWA.out] at k6
  rw [HANY.out] at k3
  have hnw := HNW.out
  go_wp2
  go_quiet (fail)
  go_wp2_with fail
  ((with_reducible refine (newer_calls _ _ _).mono ?_); rintro e_ Wn ⟨rfl, rfl⟩)
  rw [hnw]
  go_wp2_with fail
  ((with_reducible refine (newer_calls _ _ _).mono ?_); rintro e_ Wn ⟨rfl, rfl⟩)
  rw [hnn]
  go_wp2
  have hun := unwait (HM3.out.below (pw_below_drewN (Below.refl _ _) nq))
  have hsy : ((W3.drewN nq).setCell ⟨g, 6, none⟩ (.bool false)).heap.size = W3.heap.size := by simp [World.setCell]
  have hnp := fun X hX => new_parts hun.1 N x10 hNr (by omega) X hX
  rw [hsy] at hnp
  have hXX : (((((((W3.drewN nq).setCell ⟨g, 6, none⟩ (Value.bool false)).setCell ⟨g, 6, none⟩ (Value.bool true)).setCell ⟨g, 7, none⟩ (Value.int IntKind.u16 N)).setCell ⟨g, 8, none⟩ (Value.int IntKind.i64 x10)).setCell ⟨g, 9, none⟩ (Value.map (some W3.heap.size))).alloc (Obj.map #[] 0)) =
      (((((((W3.drewN nq).setCell ⟨g, 6, none⟩ (Value.bool false)).alloc (Obj.map #[] 0)).setCell ⟨g, 6, none⟩ (Value.bool true)).setCell ⟨g, 7, none⟩ (Value.int IntKind.u16 N)).setCell ⟨g, 8, none⟩ (Value.int IntKind.i64 x10)).setCell ⟨g, 9, none⟩ (Value.map (some W3.heap.size))) := by
    rw [World.setCell_alloc_past _ g 6 _ (by simpa [World.setCell] using hgl), World.setCell_alloc_past _ g 7 _ (by simpa [World.setCell] using hgl), World.setCell_alloc_past _ g 8 _ (by simpa [World.setCell] using hgl), World.setCell_alloc_past _ g 9 _ (by simpa [World.setCell] using hgl)]
  generalize hW4 : (((((((W3.drewN nq).setCell ⟨g, 6, none⟩ (Value.bool false)).setCell ⟨g, 6, none⟩ (Value.bool true)).setCell ⟨g, 7, none⟩ (Value.int IntKind.u16 N)).setCell ⟨g, 8, none⟩ (Value.int IntKind.i64 x10)).setCell ⟨g, 9, none⟩ (Value.map (some W3.heap.size))).alloc (Obj.map #[] 0)) = W4
  obtain ⟨ws2, hm4, hws2', hk4'⟩ := hnp W4 (hW4.symm.trans hXX)
  have hws2 : ∀ k ∈ ws2, k ∈ ws ∨ W3.heap.size ≤ k := hws2'
  have hk4 : Keeps (W3.drewN nq) W4 ws := hun.2.then hk4'
  clear hnp hW4 hXX hmm a6 a7 a8 a9 fz6 hun hws2' hk4' hsy
  have HKK : Aside0 (Keeps w W4 ws) := ⟨HK3.out.then hk4⟩
  have HWS : Aside0 (∀ k ∈ ws2, k ∈ ws ∨ w.heap.size ≤ k) := ⟨fun k hk => (hws2 k hk).imp id (fun h => Nat.le_trans HK3.out.2.2.2.1 h)⟩
  have hbk4 : W4.heap[gb]? = some (Obj.cells ((b ++ sp).map (Value.int .u8)).toArray 5 (0, 0)) := hk4.u8 (HM3.out.below (pw_below_drewN (Below.refl _ _) nq)) HBK3.out
  have c10' : W4.cell? ⟨gb, 10, none⟩ = some (.int .u8 x10) := by rw [HX10.out]; exact HCF.out _ hbk4 10 (by omega)
  obtain ⟨s2, hs2⟩ : ∃ x : LS, x = { s with acked := hearF s b, waits := true, n := N, many := x10, parts := [] } := ⟨_, rfl⟩
  rw [← hs2] at hm4
  obtain ⟨mbb, j8, j9, him, hgl4⟩ := waiting hm4 (by rw [hs2])
  have e_parts : s2.parts = [] := by rw [hs2]
  have e_many : s2.many = x10 := by rw [hs2]
  rw [e_many] at j8
  have hok4 := hm4.ok
  have HS2 := Aside0.mk hs2; have HM4 := Aside0.mk hm4; have HIM := Aside0.mk him; have HBK4 := Aside0.mk hbk4; have HEP := Aside0.mk e_parts; have HEM := Aside0.mk e_many; have HOK4 := Aside0.mk hok4
  have hlk := him.lookS Tryd.underlying62 Tryd.underlying3 zslice x9
  rw [e_parts] at hlk
  have hnone : pget x9 s2.parts = none := by rw [e_parts]; rfl
  have hl2 : ∀ n, (Instr.lookup 62 (.map (some mbb)) (.int .i64 x9) true).run Tryd.prog (W4.drewN n) = .ok (.tuple #[.slice none 0 0, .bool false]) (W4.drewN n) := fun n => (hlk.resolve_right (fun ⟨a, _, h, _⟩ => by rw [e_parts] at hnone; rw [hnone] at h; cases h)).2 true _ rfl
  have HNONE := Aside0.mk hnone
  clear hs2 hm4 him hbk4 e_parts e_many hok4 hlk hnone
  have m1 : decide (x10 = x10) = true := decide_eq_true rfl
  have m3 : (x10 != x10) = false := bne_self_eq_false x10
  go_quiet (fail)
  go_wp2
  generalize hW5 : W4.drewN nq = W5
  have hh5 : W5.heap = W4.heap := by rw [← hW5]; rfl
  have hb5 : Below W4.heap.size W4 W5 := by rw [← hW5]; exact pw_below_drewN (Below.refl _ _) _
  have hm5 := HM4.out.below hb5
  have j95 : W5.cell? ⟨g, 9, none⟩ = some (.map (some mbb)) := (World.cell?_of_block (a := ⟨g, 9, none⟩) (by rw [hh5])).trans j9
  have hbk5 : W5.heap[gb]? = some (Obj.cells ((b ++ sp).map (Value.int .u8)).toArray 5 (0, 0)) := by rw [hh5]; exact HBK4.out
  have him5 : IM .i64 (PartR W5) W5 mbb s2.parts := (HIM.out.same (by rw [hh5])).imp (PartR.same (fun b cs _ => by rw [hh5]))
  obtain ⟨off, hoff, hcut⟩ := cut11 gb L (L + q) h11 hLq
  have hpr : PartR W5 (.slice (some ⟨gb, off, none⟩) (L - 11) (L + q - 11)) (b.drop 11) := part_of hbk5 HLN.out.symm h11 hoff (HOKB.out gb HGB.out)
  obtain ⟨W6, hup, hgr6, him6⟩ := him5.put1 Tryd.underlying62 Tryd.underlying3 x9 HNONE.out _ (b.drop 11) hpr
  have hpp : ∀ y ∈ s2.parts ++ [(x9, b.drop 11)], y.2.length ≤ 200 ∧ ∀ z ∈ y.2, 0 ≤ z ∧ z < 256 := by
    intro y hy
    rcases List.mem_append.1 hy with hy | hy
    · exact HOK4.out.2.2.2.2.2.2.2 y hy
    · obtain rfl := List.mem_singleton.1 hy
      refine ⟨?_, fun z hz => HBR.out z (List.mem_of_mem_drop hz)⟩
      show (b.drop 11).length ≤ 200
      rw [List.length_drop, ← HLN.out]
      have := HSZ.out
      omega
  obtain ⟨hm6, hk6⟩ := more_parts hm5 j95 hgr6 him6 hpp
  have HM6 := Aside0.mk hm6
  have HK6 : Aside0 (Keeps w W6 ws) := ⟨(HKK.out.trans ((Keeps.of_below hb5 ws2).then hk6) HWS.out)⟩
  clear hh5 hb5 hm5 hbk5 him5 hpr hgr6 him6 hpp hm6 hk6 hW5 j8 j9 hl2
  go_region
  generalize hW7 : W6.drew = W7
  have hb7 : Below W6.heap.size W6 W7 := by rw [← hW7]; exact below_drew1 (Below.refl _ _)
  have hm7 := HM6.out.below hb7
  obtain ⟨mb7, u8, u9, him7, hgl7⟩ := waiting hm7 (by rw [HS2.out])
  change W7.cell? ⟨g, 8, none⟩ = some (.int .i64 s2.many) at u8
  rw [HEM.out] at u8
  have HM7 := Aside0.mk hm7; have HIM7 := Aside0.mk him7
  have HK7 : Aside0 (Keeps w W7 ws) := ⟨HK6.out.then (Keeps.of_below hb7 ws)⟩
  have hlen : ∀ ty n, (Builtin.len_ #[62] ty #[.map (some mb7)]).run Tryd.prog (W7.drewN n) = .ok (goInt ((s2.parts ++ [(x9, b.drop 11)]).length : Nat)) (W7.drewN n) := fun ty n => HIM7.out.lenS Tryd.underlying62 _ rfl
  clear hm7 him7 hb7 hW7
  have hcnt : ((s2.parts ++ [(x9, b.drop 11)]).length : Int) = 1 := by rw [HEP.out]; rfl
  generalize (s2.parts ++ [(x9, b.drop 11)]).length = cnt at hlen hcnt
  have d5 : decide ((cnt : Int) < x10) = false := decide_eq_false (by rw [hcnt]; omega)
  clear hcnt hless
  go_wp2
  go_quiet (fail)
  go_wp2
  generalize hW8 : W7.drewN nq = W8
  have hb8 : Below W7.heap.size W7 W8 := by rw [← hW8]; exact pw_below_drewN (Below.refl _ _) _
  have hm8 := HM7.out.below hb8
  have hs3 : ({ s2 with parts := s2.parts ++ [(x9, b.drop 11)] } : LS) = { s with acked := hearF s b, waits := true, n := N, many := x10, parts := [(x9, b.drop 11)] } := by rw [HS2.out]; first | done | rfl
  rw [hs3] at hm8
  have HM8 := Aside0.mk hm8
  have HK8 : Aside0 (Keeps w W8 ws) := ⟨HK7.out.then (Keeps.of_below hb8 ws)⟩
  have him8 : IM .i64 (PartR W8) W8 mb7 (s2.parts ++ [(x9, b.drop 11)]) := (HIM7.out.same (by rw [← hW8]; rfl)).imp (PartR.same (fun b cs _ => by rw [← hW8]; rfl))
  have y9 : W8.cell? ⟨g, 9, none⟩ = some (.map (some mb7)) := by rw [← hW8]; exact u9
  have hP : s2.parts ++ [(x9, b.drop 11)] = [(x9, b.drop 11)] := by rw [HS2.out]; first | done | rfl
  rw [hP] at him8
  have HIM8 := Aside0.mk him8
  have hgl8 : g < W8.heap.size := HM8.out.g_in.2
  have hpl : ∀ (j : Nat), (((pget (j : Int) ([(x9, b.drop 11)])).getD []).length ≤ 200) := by
    intro j
    cases hj : pget (j : Int) ([(x9, b.drop 11)]) with
    | none => simp
    | some a => exact (HM8.out.ok.2.2.2.2.2.2.2 _ (pget_mem hj)).1
  generalize hPP : ([(x9, b.drop 11)] : List (Int × List Int)) = P at HIM8 hpl
  have HPL := Aside0.mk hpl; have HPP := Aside0.mk hPP; have HGL8 := Aside0.mk hgl8
  clear hm8 hs3 him8 hP hpl hPP hgl8 hb8 hW8 u8 u9 hlen
  go_loopw [9, 141] (fun v vi wr => ∃ i : Int, vi = .int .i64 i ∧ 0 ≤ i ∧ i ≤ x10 ∧ Aside0 (RS W8.heap.size wr v ((List.range i.toNat).flatMap (fun j : Nat => (pget (j : Int) P).getD []))) ∧ Aside0 (Below W8.heap.size W8 wr)) (fun _ vi _ => (x10 - intOf vi).toNat)
  case atStart => exact ⟨0, rfl, by omega, by omega, ⟨RS.nil _ _⟩, ⟨Below.refl _ _⟩⟩
  case round =>
    obtain ⟨i, rfl, hi0, hi1, HO, HBW⟩ := hrel
    by_cases hx : i < x10
    · have dx : decide (i < x10) = true := decide_eq_true hx
      have y9w : wr.cell? ⟨g, 9, none⟩ = some (.map (some mb7)) := (HBW.out.cell (p := ⟨g, 9, none⟩) HGL8.out).trans y9
      have hsm : wr.heap[mb7]? = W8.heap[mb7]? := HBW.out.block _ HIM8.out.lt
      have hsucc := flat_succ P i hi0
      have hfl := flat_len HPL.out i.toNat
      generalize (List.range i.toNat).flatMap (fun j : Nat => (pget (j : Int) P).getD []) = acc at HO hsucc hfl
      have HSU := Aside0.mk hsucc; have HFL := Aside0.mk hfl
      clear hsucc hfl
      rcases HIM8.out.lookS Tryd.underlying62 Tryd.underlying3 zslice i with ⟨hg1, hl⟩ | ⟨a, v2, hg1, hv2, hl⟩
      · have hl0 := hl false wr hsm
        have HG1 := Aside0.mk hg1
        clear hl hg1 hsm
        go_wp2_with (first | ((with_reducible refine gate_builtin (b := .append) (xs := #[.tmp 144, .tmp 150]) rfl ?_); at_builtin; obtain ⟨sp0, ho_⟩ := HO.out; refine wp_rf_rows (w0 := W8) W8.heap.size rfl (.tmp 144) (.tmp 150) rfl _ acc sp0 [] _ _ _ rfl rfl ho_ (Kd.C_nil _ _) HBW.out (below_size HBW.out) (by have := HFL.out; omega) ?_; intro v1 w1 sp1 ho hb hg; have HO1 : Aside0 (RS W8.heap.size w1 v1 _) := Aside0.mk ⟨sp1, ho⟩; clear HBW; have HBW := Aside0.mk hb; clear ho_ ho hb hg))
        exact ⟨⟨i + 1, rfl, by omega, by omega, ⟨by rw [HSU.out, HG1.out]; exact HO1.out⟩, HBW⟩, by simp only [intOf]; omega⟩
      · have hl0 := hl false wr hsm
        have hal : a.length ≤ 200 := by have := HPL.out i.toNat; rw [Int.toNat_of_nonneg hi0, hg1] at this; exact this
        obtain ⟨A2, c2, rfl, hC2⟩ := (PartR.same (fun b cs hb => HBW.out.block b (Array.getElem?_eq_some_iff.1 hb).1) _ _ hv2 : PartR wr v2 a).C (by omega)
        have HG1 := Aside0.mk hg1; have HC2 := Aside0.mk hC2
        clear hl hg1 hsm hv2 hC2
        go_wp2_with (first | ((with_reducible refine gate_builtin (b := .append) (xs := #[.tmp 144, .tmp 150]) rfl ?_); at_builtin; obtain ⟨sp0, ho_⟩ := HO.out; refine wp_rf_rows (w0 := W8) W8.heap.size rfl (.tmp 144) (.tmp 150) rfl _ acc sp0 a _ _ _ rfl rfl ho_ HC2.out HBW.out (below_size HBW.out) (by have := HFL.out; omega) ?_; intro v1 w1 sp1 ho hb hg; have HO1 : Aside0 (RS W8.heap.size w1 v1 _) := Aside0.mk ⟨sp1, ho⟩; clear HBW; have HBW := Aside0.mk hb; clear ho_ ho hb hg))
        exact ⟨⟨i + 1, rfl, by omega, by omega, ⟨by rw [HSU.out, HG1.out]; exact HO1.out⟩, HBW⟩, by simp only [intOf]; omega⟩
    · have dx : decide (i < x10) = false := decide_eq_false hx
      have hie : i = x10 := by omega
      rw [hie] at HO
      clear hx dx hi0 hi1
      have hm9 := HM8.out.below HBW.out
      have ht := tell_calls g _ ws2 N wr hm9 hNr (by intro _; have := tell_gap HNW.out; exact this)
      have HO9 := Aside0.mk HO.out
      go_wp2_with fail
      ((with_reducible refine ht.mono ?_); rintro e_ W9 ⟨rfl, hm10', hgr9⟩)
      clear ht
      go_wp2
      go_ret3
      refine ⟨_, ws2, rfl, ?_, hm10', HWS.out, ?_⟩
      · have hout : outF { s with acked := hearF s b, waits := true, n := N, many := x10, parts := [(x9, b.drop 11)] } = (List.range x10.toNat).flatMap (fun j : Nat => (pget (j : Int) P).getD []) := by rw [← HPP.out]; rfl
        rw [hout]
        refine (HO9.out.lower (Keeps.then HK8.out (Keeps.refl _ _)).2.2.2.1).move (fun b hb hlt => hgr9.block b hlt (fun e => ?_))
        injection e with e
        have h1 := (HO9.out.own b hb).1
        have h2 := HGL8.out
        omega
      · exact (HK8.out.then (Keeps.of_below HBW.out ws)).trans (Keeps.of_grown hgr9 hm9.g_in.1) HWS.out
end Go.Proofs.YtbdocgddidcfeaaDoor
namespace Go.Proofs.YtbdocgddidcfeaaDoor
open Go.RowKit Go.Proofs.YtbdocgddidcfeaaDoorW.PrintWords Go.Proofs.YtbdocgddidcfeaaDoorW.PrintLast Go.Proofs.YtbdocgddidcfeaaDoorW.PrintMore
set_option linter.unusedVariables false
set_option linter.unusedSimpArgs false
def recvG (s : LS) (b : List Int) (N x9 x10 : Int) : LS × List Int × Bool × Int :=
  if s.any = true ∧ newerF N s.last = false then ({ s with acked := hearF s b }, [], false, 71) else
  if s.waits = true ∧ N ≠ s.n ∧ newerF N s.n = false then ({ s with acked := hearF s b }, [], false, 71) else
  if s.waits = true ∧ N = s.n then
    if s.many ≠ x10 then ({ s with acked := hearF s b }, [], false, 70) else
    if (pget x9 s.parts).isSome = true then ({ s with acked := hearF s b }, [], false, 71) else
    if (s.parts.length : Int) + 1 < x10 then ({ s with acked := hearF s b, parts := s.parts ++ [(x9, b.drop 11)] }, [], false, 0)
    else (tellF { s with acked := hearF s b, parts := s.parts ++ [(x9, b.drop 11)] } N, outF { s with acked := hearF s b, parts := s.parts ++ [(x9, b.drop 11)] }, true, 0)
  else if 1 < x10 then ({ s with acked := hearF s b, waits := true, n := N, many := x10, parts := [(x9, b.drop 11)] }, [], false, 0)
  else (tellF { s with acked := hearF s b, waits := true, n := N, many := x10, parts := [(x9, b.drop 11)] } N, outF { s with acked := hearF s b, waits := true, n := N, many := x10, parts := [(x9, b.drop 11)] }, true, 0)
theorem recvF_open {s : LS} {d : List Int} (h2 : (opF d).2 = true) (h3 : formedF (opF d).1 = true) : recvF s d = recvG s (opF d).1 (rd (opF d).1 7 * 256 + rd (opF d).1 8) (rd (opF d).1 9) (rd (opF d).1 10) := by
  unfold recvF recvG
  rw [if_neg (by rw [h2, h3]; simp)]
  simp only []
  generalize (opF d).1 = b
  generalize rd b 7 * 256 + rd b 8 = N
  by_cases c1 : s.any = true ∧ newerF N s.last = false
  · rw [if_pos c1, if_pos c1]
  · rw [if_neg c1, if_neg c1]
    by_cases c2 : s.waits = true ∧ N ≠ s.n ∧ newerF N s.n = false
    · rw [if_pos c2, if_pos c2]
    · rw [if_neg c2, if_neg c2]
      by_cases c3 : s.waits = true ∧ N = s.n
      · simp only [if_pos c3]
        by_cases c4 : s.many ≠ rd b 10
        · rw [if_pos c4, if_pos c4]
        · rw [if_neg c4, if_neg c4]
          by_cases c5 : (pget (rd b 9) s.parts).isSome = true
          · rw [if_pos c5, if_pos c5]
          · rw [if_neg c5, if_neg c5]
            have c6 : s.many = rd b 10 := Classical.not_not.1 c4
            rw [List.length_append, c6]
            rfl
      · simp only [if_neg c3]
        rw [if_neg (by simp), if_neg (by simp [pget])]
        rfl
theorem opF_len (d : List Int) : (opF d).1.length ≤ d.length := by
  unfold opF
  split
  · simp
  · split
    · rw [List.length_take]; omega
    · simp
theorem bool2 (b : Bool) : b = false ∨ b = true := by cases b <;> simp
theorem Receive_calls [Inhabited OkB] (A : Option Addr) (c : Nat) (d : List Int) (g : Nat) (s : LS) (ws : List Nat) (w : World) (h : LinkM w g s ws) (hC : Kd.C (Kd.int .u8) w A d.length d) (hc : d.length ≤ c) (hd : ∀ x ∈ d, 0 ≤ x ∧ x < 256) (hl : d.length ≤ 140737488351232) (hT : Tab w) (hokb : ∀ k, w.heap.size ≤ k → (default : OkB).ok k) :
    Calls Tryd.prog 13 #[.pointer (some ⟨g, 0, none⟩), .slice A d.length c] w (RcvPost w g ws (recvF s d).1 (recvF s d).2.1 (recvF s d).2.2.1 (recvF s d).2.2.2) := by
  have hbl : (opF d).1.length ≤ 140737488355328 := by have := opF_len d; omega
  cases h2 : (opF d).2 with
  | false =>
    have hr : recvF s d = (s, [], false, 70) := by unfold recvF; rw [if_pos (.inl h2)]
    rw [hr]
    exact rcv_shut A c d g s ws w h hC hc hd hl hT h2
  | true =>
    cases h3 : formedF (opF d).1 with
    | false =>
      have hr : recvF s d = (s, [], false, 70) := by unfold recvF; rw [if_pos (.inr h3)]
      rw [hr]
      exact rcv_unformed A c d g s ws w h hC hc hd hl hT hbl h2 h3
    | true =>
      rw [recvF_open h2 h3]
      obtain ⟨b, hbe⟩ : ∃ b, b = (opF d).1 := ⟨_, rfl⟩
      rw [← hbe] at hbl h3 ⊢
      obtain ⟨N, hN⟩ : ∃ N, N = rd b 7 * 256 + rd b 8 := ⟨_, rfl⟩
      obtain ⟨x9, h9⟩ : ∃ x, x = rd b 9 := ⟨_, rfl⟩
      obtain ⟨x10, h10⟩ : ∃ x, x = rd b 10 := ⟨_, rfl⟩
      rw [← hN, ← h9, ← h10]
      unfold recvG
      by_cases c1 : s.any = true ∧ newerF N s.last = false
      · rw [if_pos c1]
        exact rcv_stale1 A c d g s ws w h hC hc hd hl hT hokb b N x9 x10 hbe hN h9 h10 hbl h2 h3 c1.1 c1.2
      · rw [if_neg c1]
        by_cases c2 : s.waits = true ∧ N ≠ s.n ∧ newerF N s.n = false
        · rw [if_pos c2]
          rcases bool2 s.any with ha | ha
          · exact rcv_stale2 A c d g s ws w h hC hc hd hl hT hokb b N x9 x10 hbe hN h9 h10 hbl h2 h3 ha c2.1 c2.2.1 c2.2.2
          · exact rcv_stale2a A c d g s ws w h hC hc hd hl hT hokb b N x9 x10 hbe hN h9 h10 hbl h2 h3 ha (by cases hn : newerF N s.last with | true => rfl | false => exact absurd ⟨ha, hn⟩ c1) c2.1 c2.2.1 c2.2.2
        · rw [if_neg c2]
          by_cases c3 : s.waits = true ∧ N = s.n
          · rw [if_pos c3]
            by_cases c4 : s.many ≠ x10
            · rw [if_pos c4]
              rcases bool2 s.any with ha | ha
              · exact rcv_same_wrong A c d g s ws w h hC hc hd hl hT hokb b N x9 x10 hbe hN h9 h10 hbl h2 h3 ha c3.1 c3.2 c4
              · exact rcv_same_wronga A c d g s ws w h hC hc hd hl hT hokb b N x9 x10 hbe hN h9 h10 hbl h2 h3 ha (by cases hn : newerF N s.last with | true => rfl | false => exact absurd ⟨ha, hn⟩ c1) c3.1 c3.2 c4
            · rw [if_neg c4]
              have c6 : s.many = x10 := Classical.not_not.1 c4
              by_cases c5 : (pget x9 s.parts).isSome = true
              · rw [if_pos c5]
                rcases bool2 s.any with ha | ha
                · exact rcv_same_stale A c d g s ws w h hC hc hd hl hT hokb b N x9 x10 hbe hN h9 h10 hbl h2 h3 ha c3.1 c3.2 c6 c5
                · exact rcv_same_stalea A c d g s ws w h hC hc hd hl hT hokb b N x9 x10 hbe hN h9 h10 hbl h2 h3 ha (by cases hn : newerF N s.last with | true => rfl | false => exact absurd ⟨ha, hn⟩ c1) c3.1 c3.2 c6 c5
              · rw [if_neg c5]
                have c7 : pget x9 s.parts = none := by cases hp : pget x9 s.parts with | none => rfl | some a => rw [hp] at c5; exact absurd rfl c5
                by_cases c8 : (s.parts.length : Int) + 1 < x10
                · rw [if_pos c8]
                  rcases bool2 s.any with ha | ha
                  · exact rcv_same_pending A c d g s ws w h hC hc hd hl hT hokb b N x9 x10 hbe hN h9 h10 hbl h2 h3 ha c3.1 c3.2 c6 c7 c8
                  · exact rcv_same_pendinga A c d g s ws w h hC hc hd hl hT hokb b N x9 x10 hbe hN h9 h10 hbl h2 h3 ha (by cases hn : newerF N s.last with | true => rfl | false => exact absurd ⟨ha, hn⟩ c1) c3.1 c3.2 c6 c7 c8
                · rw [if_neg c8]
                  rcases bool2 s.any with ha | ha
                  · exact rcv_same_told A c d g s ws w h hC hc hd hl hT hokb b N x9 x10 hbe hN h9 h10 hbl h2 h3 ha c3.1 c3.2 c6 c7 c8
                  · exact rcv_same_tolda A c d g s ws w h hC hc hd hl hT hokb b N x9 x10 hbe hN h9 h10 hbl h2 h3 ha (by cases hn : newerF N s.last with | true => rfl | false => exact absurd ⟨ha, hn⟩ c1) c3.1 c3.2 c6 c7 c8
          · rw [if_neg c3]
            have hnn : s.waits = true → N ≠ s.n ∧ newerF N s.n = true := by
              intro hw
              have hne : N ≠ s.n := fun e => c3 ⟨hw, e⟩
              exact ⟨hne, by cases hn : newerF N s.n with | true => rfl | false => exact absurd ⟨hw, hne, hn⟩ c2⟩
            by_cases c8 : 1 < x10
            · rw [if_pos c8]
              rcases bool2 s.any with ha | ha
              ·
                rcases bool2 s.waits with hw | hw
                · exact rcv_new_pending A c d g s ws w h hC hc hd hl hT hokb b N x9 x10 hbe hN h9 h10 hbl h2 h3 ha hw c8
                · exact rcv_newer_pending A c d g s ws w h hC hc hd hl hT hokb b N x9 x10 hbe hN h9 h10 hbl h2 h3 ha hw (hnn hw).1 (hnn hw).2 c8
              ·
                have hnw : newerF N s.last = true := by cases hn : newerF N s.last with | true => rfl | false => exact absurd ⟨ha, hn⟩ c1
                rcases bool2 s.waits with hw | hw
                · exact rcv_new_pendinga A c d g s ws w h hC hc hd hl hT hokb b N x9 x10 hbe hN h9 h10 hbl h2 h3 ha hnw hw c8
                · exact rcv_newer_pendinga A c d g s ws w h hC hc hd hl hT hokb b N x9 x10 hbe hN h9 h10 hbl h2 h3 ha hnw hw (hnn hw).1 (hnn hw).2 c8
            · rw [if_neg c8]
              rcases bool2 s.any with ha | ha
              ·
                rcases bool2 s.waits with hw | hw
                · exact rcv_new_told A c d g s ws w h hC hc hd hl hT hokb b N x9 x10 hbe hN h9 h10 hbl h2 h3 ha hw c8
                · exact rcv_newer_told A c d g s ws w h hC hc hd hl hT hokb b N x9 x10 hbe hN h9 h10 hbl h2 h3 ha hw (hnn hw).1 (hnn hw).2 c8
              ·
                have hnw : newerF N s.last = true := by cases hn : newerF N s.last with | true => rfl | false => exact absurd ⟨ha, hn⟩ c1
                rcases bool2 s.waits with hw | hw
                · exact rcv_new_tolda A c d g s ws w h hC hc hd hl hT hokb b N x9 x10 hbe hN h9 h10 hbl h2 h3 ha hnw hw c8
                · exact rcv_newer_tolda A c d g s ws w h hC hc hd hl hT hokb b N x9 x10 hbe hN h9 h10 hbl h2 h3 ha hnw hw (hnn hw).1 (hnn hw).2 c8
end Go.Proofs.YtbdocgddidcfeaaDoor
namespace Go.Proofs.YtbdocgddidcfeaaDoor
open Go.RowKit Go.Proofs.YtbdocgddidcfeaaDoorW.PrintWords Go.Proofs.YtbdocgddidcfeaaDoorW.PrintLast Go.Proofs.YtbdocgddidcfeaaDoorW.PrintMore
set_option linter.unusedVariables false
set_option linter.unusedSimpArgs false
theorem infoU : (Tryd.prog.info? 58).map (fun i => (i.zero, i.size, i.bytes)) = some (some (.int .u16 0), 1, 2) := by kernel_rfl
theorem sent_cells {n : Int} {a : Addr} {w : World} (ha : w.cell? (a.add 0) = some (.int .u16 n)) : ∀ j v, [Value.int .u16 n][j]? = some v → w.cell? (a.add j) = some v := by
  intro j v hj
  have hj0 : j = 0 := by
    have := (List.getElem?_eq_some_iff.1 hj).1
    simpa using this
  subst hj0
  simp only [List.getElem?_cons_zero, Option.some.injEq] at hj
  rw [← hj]
  exact ha
theorem sent_append {w : World} {sv : Value} {l : List Int} {gs : Option Nat} (h : SentAt w sv l gs) (hl : l.length ≤ 64) (n : Int) (a : Addr) (ha : w.cell? (a.add 0) = some (.int .u16 n)) (ty : TypeId) :
    ∃ v' w' gs', (Builtin.append_ #[60, 60] ty #[sv, .slice (some a) 1 1]).run Tryd.prog w = .ok v' w' ∧ SentAt w' v' (l ++ [n]) gs' ∧ w.grownBy w' gs ∧ (gs' = gs ∨ gs' = some w.heap.size) := by
  obtain ⟨i0, hi0, hz0, hsz0, hby0⟩ := info_parts infoU
  have hu := Tryd.underlying60
  have hnews := sent_cells ha
  have hz1 : (Value.int .u16 0).cells.size = 1 := rfl
  have hnl : ([Value.int .u16 n]).length = 1 * i0.size := by rw [hsz0]; rfl
  rcases h with ⟨rfl, rfl, rfl⟩ | ⟨b, off, cap, cs, rfl, rfl, h3, h4, h5, h6, h7⟩
  · have hrun := run_append_nil (P := Tryd.prog) w 60 ty 58 i0 (.int .u16 0) hu hi0 hz0 a 1 1 _ hnl hnews (by omega) (by omega) (by rw [hby0]; omega)
    have hge := grownCap_ge w 1 0 58
    have hcm := grownCap_le_maxLen w 1 0 58 (by simp only [maxLen]; omega)
    refine ⟨_, _, _, hrun, .inr ⟨w.heap.size, 0, _, _, rfl, rfl, heap_alloc_new w.drew _, by simpa using hge, hcm, ?_, ?_⟩, alloc_grown w _ _, .inr rfl⟩
    · simp only [Array.size_append, size_zeroCells, hz1]
      simp
      omega
    · intro j x hj
      have hj0 : j = 0 := by
        have := (List.getElem?_eq_some_iff.1 hj).1
        simpa using this
      subst hj0
      simp only [List.nil_append, List.getElem?_cons_zero, Option.some.injEq] at hj
      subst hj
      rw [Array.getElem?_append_left (by simp)]
      rfl
  · by_cases hroom : l.length + 1 ≤ cap
    · have hst := run_storeCells_at Tryd.prog b (off + l.length) 58 [Value.int .u16 n] 0 cs w h3 (by simp; omega) (by simp [Value.oneCell'])
      have hf := run_firstCells_some (P := Tryd.prog) w i0.size 1 a 1 1 _ hnl hnews
      rw [Nat.add_zero] at hst
      refine ⟨.slice (some ⟨b, off, none⟩) (l ++ [n]).length cap, w.setRow b (cs.toList.take (off + l.length) ++ [Value.int .u16 n] ++ cs.toList.drop (off + l.length + [Value.int .u16 n].length)).toArray, some b, ?_, .inr ⟨b, off, cap, _, rfl, rfl, setRow_heap w b _ _ 58 (0, 0) h3, by simpa using hroom, h5, ?_, ?_⟩, setRow_grown _ _ _, .inl rfl⟩
      · have hadd : (⟨b, off, none⟩ : Addr).add l.length = ⟨b, off + l.length, none⟩ := by unfold Addr.add; split <;> simp_all
        have hsc : ∀ W : World, ((storeCells ⟨b, off + l.length, none⟩ [Value.int .u16 n]).run Tryd.prog W) = (storeCells ⟨b, off + l.length, none⟩ [Value.int .u16 n] 0).run Tryd.prog W := fun _ => rfl
        rw [hsz0] at hf
        simp only [List.length_append, List.length_cons, List.length_nil]
        simp [Builtin.append_, run_underlying hu, sizeOf, typeInfo, hi0, hsz0, Builtin.lenOf, hroom, hf, hadd, hst, Result.andThen]
      · simp
        omega
      · intro j x hj
        have hjl := (List.getElem?_eq_some_iff.1 hj).1
        simp only [List.length_append, List.length_cons, List.length_nil] at hjl
        have htl : (cs.toList.take (off + l.length)).length = off + l.length := by
          have hcl : cs.toList.length = cs.size := Array.length_toList
          rw [List.length_take]
          omega
        rw [List.getElem?_toArray, List.append_assoc]
        by_cases hjx : j < l.length
        · rw [List.getElem?_append_left hjx] at hj
          rw [List.getElem?_append_left (by rw [htl]; omega), List.getElem?_take, if_pos (by omega), Array.getElem?_toList]
          exact h7 j x hj
        · have hje : j = l.length := by omega
          subst hje
          rw [List.getElem?_append_right (Nat.le_refl _), Nat.sub_self] at hj
          rw [List.getElem?_append_right (by rw [htl]; omega), htl, Nat.sub_self]
          simp at hj ⊢
          exact hj
    · have hlt : cap < l.length + 1 := by omega
      have holds : ∀ j v, (l.map (Value.int .u16))[j]? = some v → w.cell? ((⟨b, off, none⟩ : Addr).add j) = some v := by
        intro j v hj
        obtain ⟨x, hx, rfl⟩ : ∃ x, l[j]? = some x ∧ v = .int .u16 x := by
          rw [List.getElem?_map] at hj
          cases hg : l[j]? with
          | none => rw [hg] at hj; simp at hj
          | some x => rw [hg] at hj; simp at hj; exact ⟨x, rfl, hj.symm⟩
        have ha : (⟨b, off, none⟩ : Addr).add j = ⟨b, off + j, none⟩ := by unfold Addr.add; split <;> simp_all
        rw [ha, blk_cell h3]
        exact h7 j x hx
      have hrun := run_append_grow (P := Tryd.prog) w 60 ty 58 i0 (.int .u16 0) hu hi0 hz0 ⟨b, off, none⟩ l.length cap (l.map (Value.int .u16)) (by rw [hsz0]; simp) holds a 1 1 _ hnl hnews hlt (by omega) (by rw [hby0]; exact growslice_fits hlt (by omega))
      have hge := grownCap_ge w (l.length + 1) cap 58
      have hcm := grownCap_le_maxLen w (l.length + 1) cap 58 (by simp only [maxLen]; omega)
      refine ⟨_, _, some w.heap.size, hrun, .inr ⟨w.heap.size, 0, _, _, rfl, by simp, heap_alloc_new w.drew _, by simpa using hge, hcm, ?_, ?_⟩, alloc_grown w _ _, .inr rfl⟩
      · simp only [Array.size_append, size_zeroCells, hz1]
        simp
        omega
      · intro j x hj
        have hjl := (List.getElem?_eq_some_iff.1 hj).1
        have : (List.map (Value.int .u16) l).toArray ++ [Value.int .u16 n].toArray = ((l ++ [n]).map (Value.int .u16)).toArray := by simp
        rw [this, Nat.zero_add, Array.getElem?_append_left (by simpa using hjl)]
        simp only [List.getElem?_toArray, List.getElem?_map, hj]
        rfl
theorem wp_sent_append {ops : Array Oper} {rest : List Oper} {o : Oper} {a : Act} {Q : Exit → Act → World → Prop} {W : World} (hgd : o.guard = none) (s x : Operand)
    (ho : o.op = .call { callee := .builtin .append, args := #[s, x], argTypes := #[60, 60] }) (sv : Value) (l : List Int) (gs : Option Nat) (HS : SentAt W sv l gs) (hl : l.length ≤ 64) (n : Int) (ad : Addr)
    (hs : a.eval s = sv) (hx : a.eval x = .slice (some ad) 1 1) (ha : W.cell? (ad.add 0) = some (.int .u16 n))
    (h : ∀ v1 w1 gs1, SentAt w1 v1 (l ++ [n]) gs1 → W.grownBy w1 gs → (gs1 = gs ∨ gs1 = some W.heap.size) → wpList Tryd.prog ops Q rest (a.put o.dst v1) w1) :
    wpList Tryd.prog ops Q (o :: rest) a W := by
  obtain ⟨v1, w1, gs1, hr1, h1, hg, hgs⟩ := sent_append HS hl n ad ha o.type
  refine wpList_plain hgd fun K hK => ?_
  unfold Oper.wp execOp
  simp only [ho, resolve, invoke, builtin, Sem.run_bind, Sem.run_pure, Result.andThen_ok, List.map_toArray, List.map_cons, List.map_nil, hs, hx, hr1]
  exact hK _ _ (h v1 w1 gs1 h1 hg hgs)
theorem sent_far {W W' : World} {gs : Option Nat} {sv : Value} {l : List Int} (h : SentAt W sv l gs) (hgr : W.grownBy W' gs) {b : Nat} {o : Obj} (hb : W.heap[b]? = some o) (hne : ∀ cs : Array Value, o ≠ Obj.cells cs 58 (0, 0)) : W'.heap[b]? = some o := by
  refine (hgr.block b (Array.getElem?_eq_some_iff.1 hb).1 (fun e => ?_)).trans hb
  rcases h with ⟨_, _, e2⟩ | ⟨b', off, cap, cs, e1, _, h3, _⟩
  · rw [e2] at e; cases e
  · rw [e1] at e
    injection e with e
    subst e
    rw [h3] at hb
    injection hb with hb
    exact hne cs hb.symm
end Go.Proofs.YtbdocgddidcfeaaDoor
namespace Go.Proofs.YtbdocgddidcfeaaDoor
open Go.RowKit Go.Proofs.YtbdocgddidcfeaaDoorW.PrintWords Go.Proofs.YtbdocgddidcfeaaDoorW.PrintLast Go.Proofs.YtbdocgddidcfeaaDoorW.PrintMore
set_option linter.unusedVariables false
set_option linter.unusedSimpArgs false
theorem sent_keeps [Inhabited OkB] {W W' : World} {gs : Option Nat} {sv : Value} {l : List Int} (h : SentAt W sv l gs) (hgr : W.grownBy W' gs) :
    (∀ ma ak, IM .u16 RT W ma ak → IM .u16 RT W' ma ak) ∧ (∀ mp p mb, PartsAt W mp p mb → PartsAt W' mp p mb) := by
  refine ⟨fun ma ak hm => ?_, fun mp p mb hp => hp.same (fun b e => ?_) (fun b cs hb => ?_)⟩
  · obtain ⟨es, clock, h1, h2⟩ := hm
    exact ⟨es, clock, sent_far h hgr h1 (fun cs e => by cases e), h2⟩
  · rcases hp with ⟨_, _, e2⟩ | ⟨b', e1, _, es, clock, h1, _⟩
    · rw [e] at e2; cases e2
    · rw [e] at e1; cases e1
      rw [h1]
      exact sent_far h hgr h1 (fun cs e => by cases e)
  · rw [hb]
    exact sent_far h hgr hb (fun cs e => by injection e with _ e; cases e)
theorem Keeps.of_grown' {w w' : World} {ws : List Nat} {g : Option Nat} (h : w.grownBy w' g) (hg : ∀ b, g = some b → b ∈ ws) : Keeps w w' ws :=
  ⟨h.os, h.tape, h.output, h.size, fun k hk hn => h.block k hk (fun e => hn (hg k e.symm))⟩
theorem map_keeps [Inhabited OkB] {W W' : World} {ma : Nat} {ak : List (Int × Unit)} (hm : IM .u16 RT W ma ak) (hgr : W.grownBy W' (some ma)) :
    (∀ (g : Nat) (L : Array Value), W.heap[g]? = some (Obj.cells L 64 (0, 0)) → W'.heap[g]? = some (Obj.cells L 64 (0, 0))) ∧ (∀ sv l gs, SentAt W sv l gs → SentAt W' sv l gs) ∧ (∀ mp p mb, mb ≠ some ma → PartsAt W mp p mb → PartsAt W' mp p mb) := by
  refine ⟨fun g L hg => (map_far hm hgr hg).trans hg, fun sv l gs h => h.same (fun b e => ?_), fun mp p mb hne h => h.same (fun b e => ?_) (fun b cs hb => map_far hm hgr hb)⟩
  · rcases h with ⟨_, _, e2⟩ | ⟨b', off, cap, cs, e1, _, h3, _⟩
    · rw [e] at e2; cases e2
    · rw [e] at e1; cases e1
      exact map_far hm hgr h3
  · rcases h with ⟨_, _, e2⟩ | ⟨b', e1, _, h3⟩
    · rw [e] at e2; cases e2
    · rw [e] at e1; cases e1
      exact hgr.block b h3.lt (fun e2 => hne (by rw [e, e2]))
theorem sendS_okay {s : LS} (h : Okay s) : Okay (sendS s) := by
  obtain ⟨h1, h2, h3, h4, h5, h6, h7, h8⟩ := h
  refine ⟨⟨by show 0 ≤ (s.next + 1) % 65536; omega, by show (s.next + 1) % 65536 < 65536; omega⟩, h2, h3, h4, h5, ?_, ?_, h8⟩
  · intro x hx
    have hm : x ∈ s.sent ++ [s.next] := by
      unfold sendS at hx
      simp only [] at hx
      split at hx
      · exact List.mem_of_mem_drop hx
      · exact hx
    rcases List.mem_append.1 hm with hm | hm
    · exact h6 x hm
    · rw [List.mem_singleton.1 hm]; exact h1
  · unfold sendS
    simp only []
    split
    · rw [List.length_drop]; simp only [List.length_append, List.length_cons, List.length_nil]; omega
    · omega
def Sent1 [Inhabited OkB] (w : World) (g : Nat) (s : LS) (ws : List Nat) (wc : World) : Prop := ∃ ws', LinkM wc g (sendS s) ws' ∧ (∀ k ∈ ws', k ∈ ws ∨ w.heap.size ≤ k) ∧ Keeps w wc ws
abbrev Tri := Option Addr × Nat × Nat
def triV (t : Tri) : Value := .slice t.1 t.2.1 t.2.2
abbrev KSl : Kd Tri := Kd.scalar triV (fun _ => rfl)
def DgRows (base : Nat) (W : World) (v : Value) (D : Nat → List Int) (T : List Tri) : Prop :=
  Kd.R KSl 30 W base (fun _ => True) v T ∧ (∀ (i : Nat) x, T[i]? = some x → RS base W (triV x) (D i)) ∧
  (∀ (i j : Nat) x y, i < j → T[i]? = some x → T[j]? = some y → ∀ a b, (triV x).ownBlock = some a → (triV y).ownBlock = some b → a < b) ∧
  (∀ (i : Nat) x, T[i]? = some x → ∀ a, (triV x).ownBlock = some a → v.ownBlock ≠ some a)
theorem DgRows.nil (base : Nat) (W : World) (D : Nat → List Int) : DgRows base W (.slice none 0 0) D [] := ⟨Kd.R_nil _ _ _ _ _, by simp, by simp, by simp⟩
theorem DgRows.below {base : Nat} {W W1 : World} {v : Value} {D : Nat → List Int} {T : List Tri} (h : DgRows base W v D T) (hb : Below W.heap.size W W1) : DgRows base W1 v D T :=
  ⟨Kd.R_below h.1 hb, fun i x hx => (h.2.1 i x hx).below hb, h.2.2⟩
theorem DgRows.push {base : Nat} {W W1 : World} {v v1 : Value} {D : Nat → List Int} {T : List Tri} {x : Tri} {S : Nat} (h : DgRows base W v D T) (hS : ∀ t ∈ T, ∀ a, (triV t).ownBlock = some a → a < S) (hx : RS S W (triV x) (D T.length)) (hbS : base ≤ S)
    (h1 : Kd.R KSl 30 W1 base (fun _ => True) v1 (T ++ [x])) (hg : W.grownBy W1 v.ownBlock) (hv : v1.ownBlock = v.ownBlock ∨ ∃ b, v1.ownBlock = some b ∧ W.heap.size ≤ b) (hvS : ∀ a, v.ownBlock = some a → a < S) :
    DgRows base W1 v1 D (T ++ [x]) := by
  have hxv : ∀ a, (triV x).ownBlock = some a → v.ownBlock ≠ some a := fun a ha e => by have := (hx.own a ha).1; have := hvS a e; omega
  have mv : ∀ (i : Nat) y, (T ++ [x])[i]? = some y → (RS base W (triV y) (D i) ∧ ∀ a, (triV y).ownBlock = some a → v.ownBlock ≠ some a) := by
    intro i y hy
    by_cases hi : i < T.length
    · rw [List.getElem?_append_left hi] at hy
      exact ⟨h.2.1 i y hy, h.2.2.2 i y hy⟩
    · rw [List.getElem?_append_right (by omega)] at hy
      have hi0 : i - T.length = 0 := by
        have := (List.getElem?_eq_some_iff.1 hy).1
        simpa using this
      rw [hi0] at hy
      have hie : i = T.length := by omega
      simp only [List.getElem?_cons_zero, Option.some.injEq] at hy
      subst hy; subst hie
      exact ⟨hx.lower hbS, hxv⟩
  refine ⟨h1, fun i y hy => ?_, fun i j y z hij hy hz a b ha hb => ?_, fun i y hy a ha => ?_⟩
  · exact (mv i y hy).1.move (fun b hb hlt => hg.block b hlt (fun e => (mv i y hy).2 b hb e.symm))
  · by_cases hj : j < T.length
    · rw [List.getElem?_append_left hj] at hz
      rw [List.getElem?_append_left (by omega)] at hy
      exact h.2.2.1 i j y z hij hy hz a b ha hb
    · rw [List.getElem?_append_right (by omega)] at hz
      have hj0 : j - T.length = 0 := by
        have := (List.getElem?_eq_some_iff.1 hz).1
        simpa using this
      rw [hj0] at hz
      simp only [List.getElem?_cons_zero, Option.some.injEq] at hz
      subst hz
      rw [List.getElem?_append_left (by omega)] at hy
      have h3 := hS y (List.mem_of_getElem? hy) a ha
      have h4 := (hx.own b hb).1
      omega
  · rcases hv with e | ⟨b, e, hb⟩
    · rw [e]; exact (mv i y hy).2 a ha
    · rw [e]
      have := ((mv i y hy).1.own a ha).2
      intro e2
      injection e2 with e2
      omega
theorem C_tri (w : World) (x : Tri) (ty : TypeId) : Kd.C KSl (w.alloc (.cells #[triV x] ty)) (some ⟨w.heap.size, 0, none⟩) 1 [x] := by
  refine ⟨rfl, by decide, fun _ => ⟨_, rfl, fun j p hj => ⟨[triV p], rfl, rfl, fun i u hu => ?_⟩⟩⟩
  have hj0 : j = 0 := by
    have := (List.getElem?_eq_some_iff.1 hj).1
    simpa using this
  subst hj0
  simp only [List.getElem?_cons_zero, Option.some.injEq] at hj
  subst hj
  cases i with
  | zero =>
    simp only [List.getElem?_cons_zero, Option.some.injEq] at hu
    subst hu
    rw [add_plain]
    unfold World.cell?
    rw [(MapKept.heap_alloc w _).1]
    rfl
  | succ i => simp at hu
theorem infoSl : (Tryd.prog.info? 30).map (fun i => (i.zero, i.size, i.bytes)) = some (some (.slice none 0 0), 1, 24) := by kernel_rfl
theorem sent_slide2 {w : World} {ad : Addr} {N c : Nat} {x : Int} {l : List Int} {gs : Option Nat} (h : SentAt w (.slice (some ad) (N + 1) c) (x :: l) gs) (hc : c ≠ 1) : SentAt w (.slice (some ⟨ad.block, ad.off + 1, none⟩) N (c - 1)) l gs := by
  rcases h with ⟨e, _, _⟩ | ⟨b, off, cap, cs, e1, e2, h3, h4, h5, h6, h7⟩
  · cases e
  · injection e2 with e2 e4 e5
    injection e2 with e2
    subst e2; subst e5
    have hN : N = l.length := by simpa using e4
    rw [List.length_cons] at h4
    refine .inr ⟨b, off + 1, c - 1, cs, e1, by rw [hN], h3, by omega, by omega, by omega, fun j y hj => ?_⟩
    have := h7 (j + 1) y (by simpa using hj)
    rw [show off + 1 + j = off + (j + 1) by omega]
    exact this
theorem RF.put {base : Nat} {w : World} {gb c N : Nat} {xs sp : List Int} (h : RF base w (.slice (some ⟨gb, 0, none⟩) N c) xs sp) (i : Nat) (x : Int) (hi : i < N) :
    RF base (w.setCell ⟨gb, i, none⟩ (.int .u8 x)) (.slice (some ⟨gb, 0, none⟩) N c) (xs.set i x) sp := by
  rcases h with ⟨e, _, _⟩ | ⟨g, e, h2, h3, h4, h5⟩
  · cases e
  · injection e with e1 e2 e3
    injection e1 with e1
    injection e1 with e1
    subst e1; subst e3; subst e2
    refine .inr ⟨gb, by simp, h2, ?_, by simpa using h4, h5⟩
    rw [blk_put h3 i (.int .u8 x) rfl]
    congr 2
    apply Array.ext'
    simp [List.map_set, List.set_append, hi]
theorem Tab.keeps {w w' : World} {ws : List Nat} (h : Tab w) (hk : Keeps w w' ws) (h0 : ∀ k ∈ ws, k ≠ 0) : Tab w' := by
  intro i hi
  have h1 := h i hi
  have hlt : 0 < w.heap.size := World.block_lt_of_cell? w _ h1
  rw [← h1]
  exact World.cell?_of_block (a := ⟨0, i, none⟩) (hk.2.2.2.2 0 hlt (fun hm => h0 0 hm rfl))
theorem DgRows.lower {base base' : Nat} {W : World} {v : Value} {D : Nat → List Int} {T : List Tri} (h : DgRows base W v D T) (hb : base' ≤ base) : DgRows base' W v D T :=
  ⟨Kd.R_lower h.1 hb, fun i x hx => (h.2.1 i x hx).lower hb, h.2.2⟩
def SndPost [Inhabited OkB] (w : World) (g : Nat) (ws : List Nat) (s : LS) (b : List Int) (e : Ending) (w' : World) : Prop :=
  ∃ v T ws' B, e = .returned (.tuple #[v, .int .i64 s.next, .int .i64 0]) ∧ T.length = manyF b.length ∧ w.heap.size ≤ B ∧ (∀ k ∈ ws', k < B) ∧ DgRows B w' v (dgF s s.next b) T ∧ LinkM w' g (sendS s) ws' ∧ (∀ k ∈ ws', k ∈ ws ∨ w.heap.size ≤ k) ∧ Keeps w w' ws
theorem made211 (W : World) (B : Nat) (hB : B ≤ W.heap.size) : RF B (W.alloc (.cells (madeCells #[.int .u8 0] 211) 5)) (.slice (some ⟨W.heap.size, 0, none⟩) 11 211) [0, 0, 0, 0, 0, 0, 0, 0, 0, 0, 0] (List.replicate 200 0) := by
  have he : ([0, 0, 0, 0, 0, 0, 0, 0, 0, 0, 0] : List Int) = List.replicate 11 0 := rfl
  rw [he]
  refine .inr ⟨W.heap.size, by rw [List.length_replicate, List.length_replicate], hB, ?_, by rw [List.length_replicate, List.length_replicate]; decide, zeros_range _⟩
  rw [(MapKept.heap_alloc W _).1, made_one, List.replicate_append_replicate, List.map_replicate]
theorem RF.cell {base : Nat} {w : World} {gb c n : Nat} {xs sp : List Int} (h : RF base w (.slice (some ⟨gb, 0, none⟩) n c) xs sp) (i : Nat) (hi : i < xs.length) : w.cell? ⟨gb, i, none⟩ = some (.int .u8 (xs.getD i 0)) ∧ w.frozen? ⟨gb, i, none⟩ = false := by
  rcases h with ⟨e, _, _⟩ | ⟨g, e, h2, h3, h4, h5⟩
  · cases e
  · injection e with e1 e2 e3
    injection e1 with e1
    injection e1 with e1
    subst e1
    refine ⟨?_, blk_frozen h3 i⟩
    rw [blk_cell h3 i]
    rw [List.getElem?_toArray, List.getElem?_map, List.getElem?_append_left hi, List.getElem?_eq_getElem hi, List.getD_eq_getElem?_getD, List.getElem?_eq_getElem hi]
    rfl
def hdK (s : LS) (k : Int) : List Int := [1, s.last / 256, s.last % 256, if 0 < k then s.bits / 16777216 else 0, if 1 < k then s.bits / 65536 % 256 else 0, if 2 < k then s.bits / 256 % 256 else 0, if 3 < k then s.bits % 256 else 0, 0, 0, 0, 0]
theorem hdK_end (s : LS) (h : s.any = true) : hdK s 4 = headF s ++ [0, 0, 0, 0] := by
  unfold hdK headF
  rw [h]
  simp
theorem hdK_0 (s : LS) : (hdK s 0).set 3 (s.bits / 16777216) = hdK s 1 := by simp [hdK]
theorem hdK_1 (s : LS) : (hdK s 1).set 4 (s.bits / 65536 % 256) = hdK s 2 := by simp [hdK]
theorem hdK_2 (s : LS) : (hdK s 2).set 5 (s.bits / 256 % 256) = hdK s 3 := by simp [hdK]
theorem hdK_3 (s : LS) : (hdK s 3).set 6 (s.bits % 256) = hdK s 4 := by simp [hdK]
theorem hd_zero (s : LS) : (headF s ++ [0, 0, 0, 0]).getD 7 0 = 0 ∧ (headF s ++ [0, 0, 0, 0]).getD 8 0 = 0 ∧ (headF s ++ [0, 0, 0, 0]).getD 9 0 = 0 ∧ (headF s ++ [0, 0, 0, 0]).getD 10 0 = 0 ∧ (headF s ++ [0, 0, 0, 0]).length = 11 := by
  unfold headF
  cases s.any <;> simp
theorem hd_four (s : LS) (a b c d : Int) : ((((headF s ++ [0, 0, 0, 0]).set 7 a).set 8 b).set 9 c).set 10 d = headF s ++ [a, b, c, d] := by
  unfold headF
  cases s.any <;> simp
theorem part_eq (b : List Int) (i : Int) (h0 : 0 ≤ i) : (b.take (min (b.length : Int) ((i + 1) * 200)).toNat).drop (i * 200).toNat = partF b i.toNat := by
  unfold partF
  rw [List.drop_take, show (i * 200).toNat = 200 * i.toNat by omega]
  by_cases h : (i + 1) * 200 ≤ (b.length : Int)
  · rw [show (min (b.length : Int) ((i + 1) * 200)).toNat - 200 * i.toNat = 200 by omega]
  · rw [List.take_of_length_le (by rw [List.length_drop]; omega), List.take_of_length_le (by rw [List.length_drop]; omega)]
theorem part_range {L : Nat} {i M : Int} (hM : M = max 1 (((L : Int) + 200 - 1) / 200)) (h0 : 0 ≤ i) (h1 : i < M) : i * 200 ≤ min (L : Int) ((i + 1) * 200) := by omega
theorem part_len (b : List Int) (i : Nat) : (partF b i).length ≤ 200 := by
  unfold partF
  rw [List.length_take]
  omega
theorem head_len (s : LS) : (headF s).length = 7 := by
  unfold headF
  split <;> rfl
theorem raw_len (s : LS) (n : Int) (b : List Int) (i : Nat) : (rawF s n b i).length = 11 + (partF b i).length := by
  unfold rawF
  simp [head_len]
  omega
theorem tri_lt {base : Nat} {W : World} {v : Value} {T : List Tri} (h : Kd.R KSl 30 W base (fun _ => True) v T) : ∀ a, v.ownBlock = some a → a < W.heap.size := fun a ha => ((Kd.R_bound h).1 a ha).2.2.1
theorem manyF_int (L : Nat) : (manyF L : Int) = max 1 (((L : Int) + 200 - 1) / 200) := by
  unfold manyF
  omega
theorem manyF_le {L : Nat} (h : L ≤ 2000) : 1 ≤ manyF L ∧ manyF L ≤ 10 := by
  unfold manyF
  omega
end Go.Proofs.YtbdocgddidcfeaaDoor
namespace Go.Proofs.YtbdocgddidcfeaaDoor
open Go.RowKit Go.Proofs.YtbdocgddidcfeaaDoorW.PrintWords Go.Proofs.YtbdocgddidcfeaaDoorW.PrintLast Go.Proofs.YtbdocgddidcfeaaDoorW.PrintMore
set_option linter.unusedVariables false
set_option linter.unusedSimpArgs false
set_option maxHeartbeats 8000000 in
set_option maxRecDepth 100000 in
theorem Send_calls [Inhabited OkB] (g : Nat) (s : LS) (ws : List Nat) (A : Option Addr) (c : Nat) (b : List Int) (w : World) (h : LinkM w g s ws) (hC : ∀ W', Keeps w W' ws → Kd.C (Kd.int .u8) W' A b.length b) (hc : b.length ≤ c) (hb : ∀ x ∈ b, 0 ≤ x ∧ x < 256) (hL : b.length ≤ 2000) (hT : Tab w) (h0 : ∀ k ∈ ws, k ≠ 0) :
    Calls Tryd.prog 12 #[.pointer (some ⟨g, 0, none⟩), .slice A b.length c] w (SndPost w g ws s b) := by
  have HT := Aside0.mk hT; have HH := Aside0.mk h; have HC := Aside0.mk hC; have HBR := Aside0.mk hb; have HZ := Aside0.mk h0
  obtain ⟨sv, ma, mp, gs, mb, hg, hsent, hack, hparts, hw, hne, hws, hok⟩ := h
  obtain ⟨A1, c1, hsv, hlc, _⟩ := hsent.C
  subst hsv
  obtain ⟨k0, k1, k2, k3, k4, k5, k6, k7, k8, k9⟩ := lcell hg
  have hfz : ∀ j, w.frozen? ⟨g, j, none⟩ = false := fun j => blk_frozen hg j
  have hgl : g < w.heap.size := (Array.getElem?_eq_some_iff.1 hg).1
  obtain ⟨m, hm⟩ : ∃ m, m = s.sent.length := ⟨_, rfl⟩
  rw [← hm] at k1 hlc hsent hg
  obtain ⟨L, hLe⟩ : ∃ L, L = b.length := ⟨_, rfl⟩
  rw [← hLe] at hL hc ⊢
  have hnx := hok.1
  generalize hnn : s.next = n at k0 hnx
  have HG := Aside0.mk hg; have HS := Aside0.mk hsent; have HA := Aside0.mk hack; have HP := Aside0.mk hparts; have HW := Aside0.mk hw; have HNE := Aside0.mk hne; have HWS := Aside0.mk hws; have HOK := Aside0.mk hok; have HM := Aside0.mk hm; have HLE := Aside0.mk hLe; have HNN := Aside0.mk hnn
  clear hg hsent hack hparts hw hne hws hok hm hLe hC hb hT hnn h0
  have e1 : decide (2000 < (L : Int)) = false := decide_eq_false (by omega)
  go_enter Tryd.func12, Tryd.ntmps12
  have hX : ∀ o : Obj, ((w.setCell ⟨g, 0, none⟩ (.int .u16 (IntKind.u16.wrap (n + 1)))).alloc o).heap[g]? = some (.cells (lcells { s with next := IntKind.u16.wrap (n + 1) } (.slice A1 m c1) ma mp) 64 (0, 0)) := fun o =>
    ((MapKept.heap_alloc _ o).2 g (by simpa [World.setCell] using hgl)).trans (blk_put HG.out 0 (.int .u16 (IntKind.u16.wrap (n + 1))) rfl)
  have hgr1 : ∀ o : Obj, w.grownBy ((w.setCell ⟨g, 0, none⟩ (.int .u16 (IntKind.u16.wrap (n + 1)))).alloc o) (some g) := fun o => grown_trans (grown_set (World.grownBy.refl w (some g))) (World.grownBy_alloc _ _ _)
  have HX := Aside0.mk hX; have HGR1 := Aside0.mk hgr1
  clear hX hgr1
  obtain ⟨X1, hX1⟩ : ∃ X, X = (w.setCell ⟨g, 0, none⟩ (.int .u16 (IntKind.u16.wrap (n + 1)))).alloc (.cells #[.int .u16 n] 58) := ⟨_, rfl⟩
  have p1 : SentAt X1 (.slice A1 m c1) s.sent gs := by rw [hX1]; exact (struct_keeps HG.out (HGR1.out _)).1 _ _ _ HS.out
  have p2 : X1.cell? ((⟨w.heap.size, 0, none⟩ : Addr).add 0) = some (.int .u16 n) := by
    rw [add_plain, hX1]
    have h := (MapKept.heap_alloc (w.setCell ⟨g, 0, none⟩ (.int .u16 (IntKind.u16.wrap (n + 1)))) (.cells #[.int .u16 n] 58)).1
    have hsz : (w.setCell ⟨g, 0, none⟩ (.int .u16 (IntKind.u16.wrap (n + 1)))).heap.size = w.heap.size := by simp [World.setCell]
    rw [hsz] at h
    exact blk_cell h 0
  have p3 : X1.heap[g]? = some (.cells (lcells { s with next := IntKind.u16.wrap (n + 1) } (.slice A1 m c1) ma mp) 64 (0, 0)) := by rw [hX1]; exact HX.out _
  have p4 : w.grownBy X1 (some g) := by rw [hX1]; exact HGR1.out _
  have hl64 : s.sent.length ≤ 64 := HOK.out.2.2.2.2.2.2.1
  have P1 := Aside0.mk p1; have P2 := Aside0.mk p2; have P3 := Aside0.mk p3; have P4 := Aside0.mk p4; have PX := Aside0.mk hX1; have HL64 := Aside0.mk hl64
  clear p1 p2 p3 p4 hX1 hl64
  go_upto_if 42 with (first | ((with_reducible refine gate_builtin (b := .append) (xs := #[.tmp 31, .tmp 33]) rfl ?_); at_builtin; rw [← PX.out]; refine wp_sent_append rfl (.tmp 31) (.tmp 33) rfl _ s.sent gs P1.out HL64.out n ⟨w.heap.size, 0, none⟩ rfl rfl P2.out ?_; intro v1 w1 gs1 hs1 hg1 hgs1; obtain ⟨A2, c2, hv1, hlc2, _⟩ := hs1.C; subst hv1; have hw1 := sent_far P1.out hg1 P3.out (fun cs e => by injection e with _ e; cases e); have HS1 := Aside0.mk hs1; have HG1 := Aside0.mk hg1; have HGS1 := Aside0.mk hgs1; have HW1 := Aside0.mk hw1; obtain ⟨_, t1, t2, t3, t4, t5, t6, t7, t8, t9⟩ := lcell hw1; have fz1 : ∀ j, w1.frozen? ⟨g, j, none⟩ = false := (fun j => blk_frozen hw1 j); clear hs1 hg1 hgs1 hw1))
  go_cut [7, 42] from 43 (fun s7 s42 wc => s7 = .int .u16 n ∧ Aside0 (Sent1 w g s ws wc))
  case first =>
    have hsz0 : (s.sent ++ [n]).length = s.sent.length + 1 := by simp
    have hcL : (lcells { s with next := IntKind.u16.wrap (n + 1) } (.slice A1 m c1) ma mp).setIfInBounds 1 (.slice A2 (s.sent ++ [n]).length c2) = lcells { s with next := IntKind.u16.wrap (n + 1) } (.slice A2 (s.sent ++ [n]).length c2) ma mp := rfl
    have hgc := (blk_put HW1.out 1 (.slice A2 (s.sent ++ [n]).length c2) rfl)
    rw [hcL] at hgc
    have hgrc : w1.grownBy (w1.setCell ⟨g, 1, none⟩ (.slice A2 (s.sent ++ [n]).length c2)) (some g) := grown_set (World.grownBy.refl w1 (some g))
    obtain ⟨q1, q2, q3⟩ := struct_keeps HW1.out hgrc
    have hsc := q1 _ _ _ HS1.out
    obtain ⟨z2, z3⟩ := sent_keeps P1.out HG1.out
    have hgx : w.grownBy X1 (some g) := P4.out
    obtain ⟨y1, y2, y3⟩ := struct_keeps HG.out hgx
    have hac := q2 _ _ (z2 _ _ (y2 _ _ HA.out))
    have hpc := q3 _ _ _ (z3 _ _ _ (y3 _ _ _ HP.out))
    have hgw : g ∈ ws := by rw [HWS.out]; simp [wset]
    have hkc : Keeps w (w1.setCell ⟨g, 1, none⟩ (.slice A2 (s.sent ++ [n]).length c2)) ws :=
      ((Keeps.of_grown hgx hgw).then (Keeps.of_grown' HG1.out (fun b e => by rw [HWS.out, e]; simp [wset]))).then (Keeps.of_grown hgrc hgw)
    have hwn : ∀ k ∈ wset g ma gs1 mb, k ∈ ws ∨ w.heap.size ≤ k := by
      intro k hk
      rw [HWS.out]
      simp only [wset, List.mem_append, List.mem_cons, List.not_mem_nil, or_false, Option.mem_toList] at hk ⊢
      rcases hk with (hk | hk) | hk
      · exact .inl (.inl (.inl hk))
      · rcases HGS1.out with e | e
        · rw [e] at hk; exact .inl (.inl (.inr hk))
        · rw [e] at hk
          injection hk with hk
          have := hgx.size
          exact .inr (by omega)
      · exact .inl (.inr hk)
    have hnm : IntKind.u16.wrap (n + 1) = (s.next + 1) % 65536 := by rw [IntKind.wrap_u16, HNN.out]
    rw [hsz0] at hgc hsc hkc hac hpc
    clear q1 q2 q3 z2 z3 y1 y2 y3 hcL
    have HGC := Aside0.mk hgc; have HSC := Aside0.mk hsc; have HAC := Aside0.mk hac; have HPC := Aside0.mk hpc; have HKC := Aside0.mk hkc; have HWN := Aside0.mk hwn; have HNM := Aside0.mk hnm; have HSZ := Aside0.mk hsz0; have HGW := Aside0.mk hgw
    clear hgc hsc hac hpc hkc hwn hnm hsz0 hgw hgrc hgx
    by_cases hk : 64 < s.sent.length + 1
    · have dk : decide ((64 : Int) < (s.sent.length : Int) + 1) = true := decide_eq_true (by omega)
      obtain ⟨x0, l0, hl0⟩ : ∃ x0 l0, s.sent ++ [n] = x0 :: l0 := List.exists_cons_of_ne_nil (by simp)
      have hsc0 := HSC.out
      obtain ⟨A3, c3, hv3, hlc3, hC3⟩ := hsc0.C
      obtain ⟨ad, hA3, hcl3⟩ := Kd.at_int hC3 0 (by omega) (by rw [HSZ.out]; omega)
      injection hv3 with e31 e32 e33
      subst e31; subst hA3; subst e33
      rw [hl0] at hcl3 hsc0
      have hl1 : s.sent.length + 1 = l0.length + 1 := by rw [← HSZ.out, hl0]; rfl
      have hc31 : ¬ c2 = 1 := by rw [HSZ.out] at hlc3; omega
      have hs3 := sent_slide2 (l := l0) hsc0 hc31
      obtain ⟨W5, hdel, hgr5, him5⟩ := IM.del (w := (w1.setCell ⟨g, 1, none⟩ (.slice (some ad) (s.sent.length + 1) c2)).drew) (ty := 0) HAC.out Tryd.underlying59 Tryd.underlying58 x0
      obtain ⟨r0, r1, r2, r3, r4, r5, r6, r7, r8, r9⟩ := lcell HGC.out
      have hrd : rd (x0 :: l0) 0 = x0 := rfl
      rw [hrd] at hcl3
      change _ = some (Value.int .u16 x0) at hcl3
      rw [show (0 : Int).toNat = 0 from rfl] at hcl3
      obtain ⟨m1, m2, m3⟩ := map_keeps (W := (w1.setCell ⟨g, 1, none⟩ (.slice (some ad) (s.sent.length + 1) c2)).drew) HAC.out hgr5
      have hg5 := m1 _ _ HGC.out
      have hs5 := m2 _ _ _ hs3
      have hp5 := m3 _ _ _ HNE.out HPC.out
      have hk5 : Keeps w W5 ws := HKC.out.then (Keeps.of_grown (g := ma) ⟨hgr5.os, hgr5.tape, hgr5.output, hgr5.size, hgr5.block⟩ (by rw [HWS.out]; simp [wset]))
      obtain ⟨b0, b1, b2, b3, b4, b5, b6, b7, b8, b9⟩ := lcell hg5
      have fz5 : ∀ j, W5.frozen? ⟨g, j, none⟩ = false := fun j => blk_frozen hg5 j
      have HG5 := Aside0.mk hg5; have HS5 := Aside0.mk hs5; have HP5 := Aside0.mk hp5; have HK5 := Aside0.mk hk5; have HI5 := Aside0.mk him5; have HL0 := Aside0.mk hl0; have HL1 := Aside0.mk hl1
      clear hsc0 hlc3 hC3 hl0 hl1 hs3 hgr5 him5 hrd m1 m2 m3 hg5 hs5 hp5 hk5 k0 k1 k2 k3 k4 k5 k6 k7 k8 k9 t1 t2 t3 t4 t5 t6 t7 t8 t9 b2 b3 b4 b5 b6 b7 b8 b9 r3 r4 r5 r6 r7 r8 r9
      have dlen : decide ((0 : Int) < (s.sent.length : Int) + 1) = true := decide_eq_true (by omega)
      generalize hWc : w1.setCell ⟨g, 1, none⟩ (.slice (some ad) (s.sent.length + 1) c2) = Wc at *
      have HWC := Aside0.mk hWc
      clear hWc
      clear e32
      have had0 : ad.add 0 = ad := by
        obtain ⟨b_, o_, p_⟩ := ad
        unfold Addr.add
        cases p_ <;> simp
      rw [had0] at hcl3
      go_wp2
      go_region
      go_wp2
      go_meet
      refine ⟨rfl, ⟨wset g ma gs1 mb, ⟨.slice (some { block := ad.block, off := ad.off + 1 }) s.sent.length (c2 - 1), ma, mp, gs1, mb, ?_, ?_, ?_, ?_, HW.out, HNE.out, rfl, sendS_okay HOK.out⟩, HWN.out, ?_⟩⟩
      · rw [blk_put HG5.out 1 _ rfl]
        have := HNM.out
        unfold sendS lcells
        simp only [this]
        rfl
      · have : (sendS s).sent = l0 := by unfold sendS; simp only []; rw [HNN.out, HL0.out, if_pos (by have := HL1.out; simp only [List.length_cons]; omega)]; rfl
        rw [this]
        exact (struct_keeps HG5.out (grown_set (World.grownBy.refl W5 (some g)))).1 _ _ _ HS5.out
      · have : (sendS s).acked = pdel x0 s.acked := by unfold sendS; simp only []; rw [HNN.out, HL0.out, if_pos (by have := HL1.out; simp only [List.length_cons]; omega)]; rfl
        rw [this]
        exact (struct_keeps HG5.out (grown_set (World.grownBy.refl W5 (some g)))).2.1 _ _ HI5.out
      · exact (struct_keeps HG5.out (grown_set (World.grownBy.refl W5 (some g)))).2.2 _ _ _ HP5.out
      · exact HK5.out.then (Keeps.of_grown (grown_set (World.grownBy.refl W5 (some g))) HGW.out)
    · have dk : decide ((64 : Int) < (s.sent.length : Int) + 1) = false := decide_eq_false (by omega)
      go_wp2
      go_meet
      refine ⟨rfl, ⟨wset g ma gs1 mb, ⟨.slice A2 (s.sent.length + 1) c2, ma, mp, gs1, mb, ?_, ?_, ?_, ?_, HW.out, HNE.out, rfl, sendS_okay HOK.out⟩, HWN.out, HKC.out⟩⟩
      · rw [HGC.out]
        unfold sendS
        simp only [HNM.out]
        rfl
      · have : (sendS s).sent = s.sent ++ [n] := by unfold sendS; simp only []; rw [HNN.out, if_neg (by rw [HSZ.out]; omega)]
        rw [this]
        have h2 := HSC.out
        exact h2
      · have : (sendS s).acked = s.acked := by unfold sendS; simp only []; rw [HNN.out, if_neg (by rw [HSZ.out]; omega)]
        rw [this]
        exact HAC.out
      · exact HPC.out
  case rest =>
    obtain ⟨rfl, hs1⟩ := hcut
    obtain ⟨wc_0, hwc0⟩ : ∃ W, W = wc := ⟨_, rfl⟩
    subst hwc0
    obtain ⟨ws', hlm, hwn, hkp⟩ := hs1.out
    have hCc := HC.out wc_0 hkp
    have hTc := HT.out.keeps hkp HZ.out
    obtain ⟨sv', ma', mp', hg'⟩ : ∃ sv' ma' mp', wc_0.heap[g]? = some (.cells (lcells (sendS s) sv' ma' mp') 64 (0, 0)) := by
      obtain ⟨a1, a2, a3, _, _, h, _⟩ := hlm
      exact ⟨a1, a2, a3, h⟩
    obtain ⟨y0, y1, y2, y3, y4, y5, y6, y7, y8, y9⟩ := lcell hg'
    have y3' : wc_0.cell? ⟨g, 3, none⟩ = some (.bool s.any) := y3
    have y4' : wc_0.cell? ⟨g, 4, none⟩ = some (.int .u16 s.last) := y4
    have y5' : wc_0.cell? ⟨g, 5, none⟩ = some (.int .u32 s.bits) := y5
    have hgw : g < wc_0.heap.size := (Array.getElem?_eq_some_iff.1 hg').1
    have hlt := hlm.lt
    have HLM := Aside0.mk hlm; have HWN := Aside0.mk hwn; have HKP := Aside0.mk hkp; have HCC := Aside0.mk hCc; have HTC := Aside0.mk hTc; have HLT := Aside0.mk hlt; have Y3 := Aside0.mk y3'; have Y4 := Aside0.mk y4'; have Y5 := Aside0.mk y5'; have HGW := Aside0.mk hgw
    clear hlm hwn hkp hCc hTc hg' y0 y1 y2 y3 y4 y5 y6 y7 y8 y9 y3' y4' y5' hs1 hlt hgw k0 k1 k2 k3 k4 k5 k6 k7 k8 k9 hfz e1 HX HGR1 P1 P2 P3 P4 PX HG HS HA HP HW HNE HG1 HGS1 HW1 HS1 t1 t2 t3 t4 t5 t6 t7 t8 t9 fz1 HM hgl
    obtain ⟨M, hM⟩ : ∃ M : Int, M = max 1 (((L : Int) + 200 - 1) / 200) := ⟨_, rfl⟩
    have hM2 : M = (manyF b.length : Int) := by rw [hM, ← HLE.out, manyF_int]
    have hMr := manyF_le (L := b.length) (by rw [← HLE.out]; exact hL)
    have hM10 : 1 ≤ M ∧ M ≤ 10 := by rw [hM2]; omega
    have HM2 := Aside0.mk hM2; have HM1 := Aside0.mk hM
    clear hM2 hM hMr
    have hmk : ∀ W : World, (Instr.makeSlice 30 (.int .i64 11) (.int .i64 211)).run Tryd.prog W = .ok (.slice (some ⟨W.heap.size, 0, none⟩) 11 211) (W.alloc (.cells (madeCells #[.int .u8 0] 211) 5)) := by
      intro W
      obtain ⟨i0, hi0, hz0, hsz0, hby⟩ := info_parts infoB
      have h := run_make (P := Tryd.prog) W 30 5 i0 (.int .u8 0) Tryd.underlying30 hi0 hz0 .i64 .i64 11 211 (by omega) (by omega) (by rw [hby]; omega) (by omega)
      rw [hsz0, Nat.mul_one] at h
      exact h
    have HMK := Aside0.mk hmk; clear hmk
    go_upto_region 11 with fail
    rw [← HM1.out]
    go_wp2
    go_loopw [8, 68] (fun v vi wr => ∃ i : Int, vi = .int .i64 i ∧ 0 ≤ i ∧ i ≤ M ∧ Aside0 (∃ T, T.length = i.toNat ∧ DgRows wc_0.heap.size wr v (dgF s n b) T) ∧ Aside0 (Below wc_0.heap.size wc_0 wr)) (fun _ vi _ => (M - intOf vi).toNat)
    case atStart => exact ⟨0, rfl, by omega, by omega, ⟨[], rfl, DgRows.nil _ _ _⟩, ⟨Below.refl _ _⟩⟩
    case round =>
      obtain ⟨i, rfl, hi0, hi1, HR, HB⟩ := hrel
      by_cases hx : i < M
      · have dx : decide (i < M) = true := decide_eq_true hx
        have hmk := HMK.out
        go_upto_region 15 with fail
        obtain ⟨G, hG⟩ : ∃ G, G = wr.heap.size := ⟨_, rfl⟩
        have hrf := made211 wr wr.heap.size (Nat.le_refl _)
        have hba := below_alloc (Below.refl wr.heap.size wr) (.cells (madeCells #[.int .u8 0] 211) 5)
        have hbg := below_step HB.out hba
        generalize hW0 : wr.alloc (.cells (madeCells #[.int .u8 0] 211) 5) = W0 at *
        have y3 := (hbg.cell (p := ⟨g, 3, none⟩) HGW.out).trans Y3.out
        have y4 := (hbg.cell (p := ⟨g, 4, none⟩) HGW.out).trans Y4.out
        have y5 := (hbg.cell (p := ⟨g, 5, none⟩) HGW.out).trans Y5.out
        rw [← hG] at hrf ⊢
        rw [← hG] at hba
        have HRF := Aside0.mk hrf; have HBA := Aside0.mk hba; have HG := Aside0.mk hG; have HW0 := Aside0.mk hW0; have HBG := Aside0.mk hbg
        clear hrf hba hG hW0 hmk hbg
        go_upto_if 75 with fail
        go_cut [11, 12, 68, 75] from 68 to 144 (fun s11 s12 s68 s75 wx => s11 = .slice (some ⟨G, 0, none⟩) 11 211 ∧ s68 = .int .i64 i ∧ Aside0 (RF G wx (.slice (some ⟨G, 0, none⟩) 11 211) (headF s ++ [0, 0, 0, 0]) (List.replicate 200 0)) ∧ Aside0 (Below G wr wx))
        case first =>
          rcases bool2 s.any with ha | ha
          · rw [ha] at y3 ⊢
            have HA := Aside0.mk ha; clear ha
            go_wp2
            go_meet
            refine ⟨rfl, rfl, ⟨?_⟩, HBA⟩
            unfold headF
            rw [HA.out]
            exact HRF.out
          · rw [ha] at y3 ⊢
            have HA := Aside0.mk ha; clear ha
            have z0 : W0.cell? ⟨G, 0, none⟩ = some (.int .u8 0) := (HRF.out.cell 0 (by decide)).1
            have z1 : W0.cell? ⟨G, 1, none⟩ = some (.int .u8 0) := (HRF.out.cell 1 (by decide)).1
            have z2 : W0.cell? ⟨G, 2, none⟩ = some (.int .u8 0) := (HRF.out.cell 2 (by decide)).1
            have f0 := (HRF.out.cell 0 (by decide)).2
            have f1 := (HRF.out.cell 1 (by decide)).2
            have f2 := (HRF.out.cell 2 (by decide)).2
            have hgG : g ≠ G := by rw [HG.out]; have := HGW.out; have := below_size HB.out; omega
            go_wp2
            go_region
            go_wp2
            have hlr := HOK.out.2.1
            have hbr := HOK.out.2.2.1
            have hrf3 := ((HRF.out.put 0 1 (by decide)).put 1 (s.last / 256) (by decide)).put 2 (s.last % 256) (by decide)
            have hbl3 : Below G wr (((W0.setCell ⟨G, 0, none⟩ (.int .u8 1)).setCell ⟨G, 1, none⟩ (.int .u8 (s.last / 256))).setCell ⟨G, 2, none⟩ (.int .u8 (s.last % 256))) := Below.setCell (Below.setCell (Below.setCell HBA.out (Nat.le_refl _) _) (Nat.le_refl _) _) (Nat.le_refl _) _
            rw [show s.last / 256 % 256 = s.last / 256 by omega]
            have HRF3 : Aside0 (RF G (((W0.setCell ⟨G, 0, none⟩ (.int .u8 1)).setCell ⟨G, 1, none⟩ (.int .u8 (s.last / 256))).setCell ⟨G, 2, none⟩ (.int .u8 (s.last % 256))).drew (.slice (some ⟨G, 0, none⟩) 11 211) (hdK s 0) (List.replicate 200 0)) := ⟨hrf3⟩
            have HBL3 : Aside0 (Below G wr (((W0.setCell ⟨G, 0, none⟩ (.int .u8 1)).setCell ⟨G, 1, none⟩ (.int .u8 (s.last / 256))).setCell ⟨G, 2, none⟩ (.int .u8 (s.last % 256))).drew) := ⟨below_drew hbl3⟩
            have Y5' := Y5.out
            have HY5 := Aside0.mk Y5'
            clear hrf3 hbl3 z0 z1 z2 f0 f1 f2 y3 y4 y5 Y5'
            go_loopw [93] (fun vk wy => ∃ k : Int, vk = .int .i64 k ∧ 0 ≤ k ∧ k ≤ 4 ∧ Aside0 (RF G wy (.slice (some ⟨G, 0, none⟩) 11 211) (hdK s k) (List.replicate 200 0)) ∧ Aside0 (Below G wr wy)) (fun vk _ => (4 - intOf vk).toNat)
            case atStart => exact ⟨0, rfl, by omega, by omega, HRF3, HBL3⟩
            case round =>
              clear HRF3 HBL3 HRF HBA
              obtain ⟨k, rfl, hk0, hk4, HRK, HBK⟩ := hrel
              have y5 := (HBK.out.cell (p := ⟨g, 5, none⟩) (by show g < G; rw [HG.out]; have := HGW.out; have := below_size HB.out; omega)).trans ((HB.out.cell (p := ⟨g, 5, none⟩) HGW.out).trans Y5.out)
              by_cases hkx : k < 4
              · have dk : decide (k < 4) = true := decide_eq_true hkx
                have hk4' : k = 0 ∨ k = 1 ∨ k = 2 ∨ k = 3 := by omega
                clear hkx hk4 hk0
                rcases hk4' with rfl | rfl | rfl | rfl
                · have z := (HRK.out.cell 3 (by show 3 < 11; omega)).1
                  change wr.cell? ⟨G, 3, none⟩ = some (.int .u8 0) at z
                  have f := (HRK.out.cell 3 (by show 3 < 11; omega)).2
                  go_wp2
                  have hq := HRK.out.put 3 (s.bits / 16777216) (by omega)
                  rw [hdK_0] at hq
                  exact ⟨⟨1, rfl, by omega, by omega, ⟨hq⟩, ⟨Below.setCell HBK.out (Nat.le_refl _) _⟩⟩, by simp [intOf]⟩
                · have z := (HRK.out.cell 4 (by show 4 < 11; omega)).1
                  change wr.cell? ⟨G, 4, none⟩ = some (.int .u8 0) at z
                  have f := (HRK.out.cell 4 (by show 4 < 11; omega)).2
                  go_wp2
                  have hq := HRK.out.put 4 (s.bits / 65536 % 256) (by omega)
                  rw [hdK_1] at hq
                  exact ⟨⟨2, rfl, by omega, by omega, ⟨hq⟩, ⟨Below.setCell HBK.out (Nat.le_refl _) _⟩⟩, by simp [intOf]⟩
                · have z := (HRK.out.cell 5 (by show 5 < 11; omega)).1
                  change wr.cell? ⟨G, 5, none⟩ = some (.int .u8 0) at z
                  have f := (HRK.out.cell 5 (by show 5 < 11; omega)).2
                  go_wp2
                  have hq := HRK.out.put 5 (s.bits / 256 % 256) (by omega)
                  rw [hdK_2] at hq
                  exact ⟨⟨3, rfl, by omega, by omega, ⟨hq⟩, ⟨Below.setCell HBK.out (Nat.le_refl _) _⟩⟩, by simp [intOf]⟩
                · have z := (HRK.out.cell 6 (by show 6 < 11; omega)).1
                  change wr.cell? ⟨G, 6, none⟩ = some (.int .u8 0) at z
                  have f := (HRK.out.cell 6 (by show 6 < 11; omega)).2
                  go_wp2
                  have hq := HRK.out.put 6 (s.bits % 256) (by omega)
                  rw [hdK_3] at hq
                  exact ⟨⟨4, rfl, by omega, by omega, ⟨hq⟩, ⟨Below.setCell HBK.out (Nat.le_refl _) _⟩⟩, by simp [intOf]⟩
              · have dk : decide (k < 4) = false := decide_eq_false hkx
                have hke : k = 4 := by omega
                subst hke
                clear dk hkx hk0 hk4
                go_wp2
                go_meet
                refine ⟨rfl, rfl, ⟨?_⟩, HBK⟩
                rw [← hdK_end s HA.out]
                exact HRK.out
        case rest =>
          obtain ⟨rfl, rfl, HRX, HBX⟩ := hcut
          clear HRF HBA y3 y4 y5
          obtain ⟨zz7, zz8, zz9, zz10, hdl⟩ := hd_zero s
          have z7 := (HRX.out.cell 7 (by rw [hdl]; omega)).1
          have z8 := (HRX.out.cell 8 (by rw [hdl]; omega)).1
          have z9 := (HRX.out.cell 9 (by rw [hdl]; omega)).1
          have z10 := (HRX.out.cell 10 (by rw [hdl]; omega)).1
          have f7 := (HRX.out.cell 7 (by rw [hdl]; omega)).2
          have f8 := (HRX.out.cell 8 (by rw [hdl]; omega)).2
          have f9 := (HRX.out.cell 9 (by rw [hdl]; omega)).2
          have f10 := (HRX.out.cell 10 (by rw [hdl]; omega)).2
          rw [zz7] at z7; rw [zz8] at z8; rw [zz9] at z9; rw [zz10] at z10
          clear zz7 zz8 zz9 zz10 hdl
          go_upto_region 24 with fail
          have hrf4 := (((HRX.out.put 7 (n / 256) (by omega)).put 8 (n % 256) (by omega)).put 9 i (by omega)).put 10 M (by omega)
          rw [hd_four] at hrf4
          have hbl4 : Below G wr ((((wc.setCell ⟨G, 7, none⟩ (.int .u8 (n / 256))).setCell ⟨G, 8, none⟩ (.int .u8 (n % 256))).setCell ⟨G, 9, none⟩ (.int .u8 i)).setCell ⟨G, 10, none⟩ (.int .u8 M)) := Below.setCell (Below.setCell (Below.setCell (Below.setCell HBX.out (Nat.le_refl _) _) (Nat.le_refl _) _) (Nat.le_refl _) _) (Nat.le_refl _) _
          generalize ((((wc.setCell ⟨G, 7, none⟩ (.int .u8 (n / 256))).setCell ⟨G, 8, none⟩ (.int .u8 (n % 256))).setCell ⟨G, 9, none⟩ (.int .u8 i)).setCell ⟨G, 10, none⟩ (.int .u8 M)) = W4 at hrf4 hbl4 ⊢
          have hb4 := below_step HB.out (by rw [← HG.out]; exact hbl4)
          have hGs : G ≤ W4.heap.size := by rw [HG.out]; exact hbl4.size
          obtain ⟨i0, hi0_, hz0_, hsz0_, hby0_⟩ := info_parts infoB
          obtain ⟨A', hsl, hrd, hlen⟩ := print_mid_int (P := Tryd.prog) (k := .u8) 30 5 Tryd.underlying30 hi0_ hsz0_ A c b (i * 200) (min (L : Int) ((i + 1) * 200)) (by omega) (part_range HM1.out hi0 hx) (by rw [← HLE.out]; omega) (by rw [← HLE.out]; exact hc)
          have hC4 := Kd.C_of_reads (h1 := fun _ => rfl) (hrd W4 (Kd.reads_of_C (h1 := fun _ => rfl) (Kd.C_below HCC.out hb4)))
          have hpe := part_eq b i hi0
          rw [← HLE.out] at hpe hsl
          rw [hpe] at hsl hC4 hlen
          have hpl := part_len b i.toNat
          obtain ⟨PL, hPL⟩ : ∃ PL, PL = (partF b i.toNat).length := ⟨_, rfl⟩
          rw [← hPL] at hsl hlen hpl
          have HRF4 := Aside0.mk hrf4; have HBL4 := Aside0.mk hbl4; have HB4 := Aside0.mk hb4; have HC4 := Aside0.mk hC4; have HPL := Aside0.mk hPL; have HGS := Aside0.mk hGs
          have hraw : headF s ++ [n / 256, n % 256, i, M] ++ partF b i.toNat = rawF s n b i.toNat := by unfold rawF; rw [Int.toNat_of_nonneg hi0, ← HM2.out]
          have hrl := raw_len s n b i.toNat
          rw [← hPL] at hrl
          obtain ⟨NR, hNR⟩ : ∃ NR, NR = (rawF s n b i.toNat).length := ⟨_, rfl⟩
          rw [← hNR] at hrl
          have hNR2 : NR ≤ 211 := by omega
          have HRAW := Aside0.mk hraw; have HNR := Aside0.mk hNR
          clear hraw hNR hrl
          clear hrf4 hbl4 hb4 hC4 hPL hrd hpe hi0_ hz0_ hsz0_ hby0_ hGs HRX HBX z7 z8 z9 z10 f7 f8 f9 f10
          go_wp2_with (first | ((with_reducible refine gate_builtin (b := .append) (xs := #[.tmp 127, .tmp 137]) rfl ?_); at_builtin; refine wp_rf_rows (w0 := wr) G rfl (.tmp 127) (.tmp 137) rfl _ (headF s ++ [n / 256, n % 256, i, M]) _ (partF b i.toNat) _ _ _ rfl rfl HRF4.out (by rw [← HPL.out] at HC4; exact HC4.out) HBL4.out HGS.out (by have := head_len s; simp [this]; omega) ?_; intro v1 w1 sp1 ho hb hg; rw [HRAW.out] at ho; obtain ⟨A5, c5, hv5⟩ := Kd.R_slice ho.R; rw [← HNR.out] at hv5; subst hv5; have HO := Aside0.mk ho; have HBO := Aside0.mk hb; clear ho hb hg) | fail)
          have hbo := HBO.out
          have hcr := (Kd.R_reads' HO.out.R).2.2
          have hb5 := below_step HB.out (by rw [← HG.out]; exact hbo)
          have hT5 := HTC.out.below hb5
          have hf := Frame_callsF A5 c5 (rawF s n b i.toNat) w1 hcr (by rw [← HNR.out]; omega) hT5
          rw [← HNR.out] at hf
          (with_reducible refine hf.mono ?_)
          rintro e_ W5 ⟨v5, rfl, ho5, hb6⟩
          obtain ⟨A6, c6, hv6⟩ := Kd.R_slice ho5.R
          obtain ⟨N6, hN6⟩ : ∃ N, N = (frameF (rawF s n b i.toNat)).length := ⟨_, rfl⟩
          rw [← hN6] at hv6
          subst hv6
          have hb7 := below_step hb5 hb6
          have h8 : Below wr.heap.size wr W5 := below_step (by rw [← HG.out]; exact hbo) hb6
          obtain ⟨T, hTl, hD⟩ := HR.out
          obtain ⟨X6, hX6⟩ : ∃ X : World, X = W5.alloc (.cells #[triV (A6, N6, c6)] 30) := ⟨_, rfl⟩
          have hb9 : Below wc_0.heap.size wc_0 X6 := by rw [hX6]; exact below_alloc hb7 _
          have hD6 : DgRows wc_0.heap.size X6 u8 (dgF s n b) T := by rw [hX6]; exact hD.below (below_alloc h8 _)
          have hx6 : RS G X6 (triV (A6, N6, c6)) (dgF s n b T.length) := by
            rw [hX6, hTl]
            exact (ho5.below (below_alloc (Below.refl _ _) _)).lower (by rw [HG.out]; exact hbo.size)
          have hC6 : Kd.C KSl X6 (some ⟨W5.heap.size, 0, none⟩) 1 [(A6, N6, c6)] := by rw [hX6]; exact C_tri W5 (A6, N6, c6) _
          have hlt6 : ∀ t ∈ T, ∀ a, (triV t).ownBlock = some a → a < G := by
            intro t ht a ha
            obtain ⟨k, hk⟩ := List.mem_iff_getElem?.1 ht
            rw [HG.out]
            exact ((hD.2.1 k t hk).own a ha).2
          have hvl6 : ∀ a, u8.ownBlock = some a → a < G := by rw [HG.out]; exact tri_lt hD.1
          have hBG : wc_0.heap.size ≤ G := by rw [HG.out]; exact below_size HB.out
          have hTl10 : T.length ≤ 10 := by rw [hTl]; omega
          have HD6 := Aside0.mk hD6; have HX6 := Aside0.mk hx6; have HC6 := Aside0.mk hC6; have HLT6 := Aside0.mk hlt6; have HVL6 := Aside0.mk hvl6; have HBG6 := Aside0.mk hBG; have HX6E := Aside0.mk hX6; have HB9 := Aside0.mk hb9; have HTL := Aside0.mk hTl; have HTL10 := Aside0.mk hTl10; have H8 := Aside0.mk h8
          clear hD hD6 hx6 hC6 hlt6 hvl6 hBG hX6 hb9 hTl hTl10 h8 hb7 hb6 hb5 ho5 hN6 hT5 hcr hbo
          go_wp2_with (first | ((with_reducible refine gate_builtin (b := .append) (xs := #[.tmp 139, .tmp 142]) rfl ?_); at_builtin; rw [show W5.alloc (.cells #[.slice A6 N6 c6] 30) = X6 from HX6E.out.symm]; refine Kd.R_append_rows KSl (w0 := wc_0) wc_0.heap.size rfl (.tmp 139) (.tmp 142) 24 30 (.slice none 0 0) 24 rfl Tryd.underlying24 infoSl rfl (by decide) (by omega) _ T [(A6, N6, c6)] _ _ _ (fun _ => True) (fun _ => False) rfl rfl HD6.out.1 HC6.out (fun _ _ h => h) (fun _ h => h.elim) (fun _ _ => trivial) HB9.out (below_size HB9.out) (by have := HTL10.out; omega) ?_; intro v7 w7 ho7 hb7 hg7 hat7; have hp := HD6.out.push HLT6.out HX6.out HBG6.out ho7 hg7 hat7 HVL6.out; have HP7 := Aside0.mk hp; have HB7 := Aside0.mk hb7; clear hp ho7 hb7 hg7 hat7) | fail)
          refine ⟨⟨i + 1, rfl, by omega, by omega, ⟨T ++ [(A6, N6, c6)], ?_, HP7.out⟩, HB7⟩, by simp only [intOf]; omega⟩
          have := HTL.out
          rw [List.length_append, this]
          show i.toNat + 1 = _
          omega
      · have dx : decide (i < M) = false := decide_eq_false hx
        have hiM : i = M := by omega
        have HI := Aside0.mk hiM; clear hiM
        go_wp2
        go_ret3
        obtain ⟨T, hTl, hT⟩ := HR.out
        refine ⟨u8, T, ws', wc_0.heap.size, ?_, ?_, HKP.out.2.2.2.1, HLT.out, ?_, HLM.out.below HB.out, HWN.out, HKP.out.trans (Keeps.of_below HB.out ws) ?_⟩
        · rw [HNN.out]; rfl
        · rw [hTl, HI.out, HM2.out]; rfl
        · rw [HNN.out]; exact hT
        · intro k hk
          exact .inl hk
end Go.Proofs.YtbdocgddidcfeaaDoor
namespace Go.Proofs.YtbdocgddidcfeaaDoor
open Go.RowKit Go.Proofs.YtbdocgddidcfeaaDoorW.PrintWords Go.Proofs.YtbdocgddidcfeaaDoorW.PrintLast Go.Proofs.YtbdocgddidcfeaaDoorW.PrintMore
set_option linter.unusedVariables false
set_option linter.unusedSimpArgs false
instance okAll : Inhabited OkB := ⟨⟨fun _ => True⟩⟩
theorem conv_mark (w : World) (C : Array Value) (n : Nat) : (convert 30 30 (.slice (some ⟨w.heap.size, 0, none⟩) n n)).run Tryd.prog (w.alloc (Obj.cells C 5)) =
    .ok (.slice (some ⟨w.heap.size, 0, none⟩) n n) (w.alloc (Obj.cells C 5 (C.size, C.size + 1))) := by
  have hsh : (w.alloc (.cells C 5)).shape? w.heap.size = some (5, C.size) := by
    have : (w.alloc (.cells C 5)).heap[w.heap.size]? = some (.cells C 5) := by
      show (w.heap.push (.cells C 5))[w.heap.size]? = _
      simp
    unfold World.shape?
    rw [this]
  have hfr : (w.alloc (.cells C 5)).freeze ⟨w.heap.size, C.size, none⟩ 1 = w.alloc (.cells C 5 (C.size, C.size + 1)) := by
    have hm : ∀ (a : Array Obj) (x : Obj) (f : Obj → Obj), (a.push x).modify a.size f = a.push (f x) := by
      intro a x f
      apply Array.ext
      · simp
      · intro i h1 h2
        simp only [Array.getElem_modify, Array.getElem_push]
        by_cases h : a.size = i
        · subst h
          simp
        · have hi : i < a.size := by simp at h1; omega
          simp [h, hi]
    unfold World.freeze
    rw [if_neg (by decide)]
    show ({ w.alloc (.cells C 5) with heap := (w.heap.push (.cells C 5)).modify w.heap.size _ } : World) = _
    rw [hm]
    rfl
  simp [convert, run_underlying Tryd.underlying30, run_underlying Tryd.underlying5, markStringish, hsh]
  exact hfr
theorem LinkM.noSl {W : World} {g : Nat} {s : LS} {ws : List Nat} (h : LinkM W g s ws) : ∀ k ∈ ws, ∀ cs : Array Value, W.heap[k]? ≠ some (Obj.cells cs 30 (0, 0)) := by
  obtain ⟨sv, ma, mp, gs, mb, h1, h2, h3, h4, h5, h6, h7, h8⟩ := h
  intro b hm cs hc
  rw [h7] at hm
  simp only [wset, List.mem_append, List.mem_cons, List.not_mem_nil, or_false, Option.mem_toList] at hm
  rcases hm with ((rfl | rfl) | hm) | hm
  · rw [h1] at hc; injection hc with hc; injection hc with _ hc; cases hc
  · obtain ⟨es, clock, e, _⟩ := h3; rw [e] at hc; cases hc
  · rcases h2 with ⟨_, _, e⟩ | ⟨b', _, _, _, e, _, e3, _⟩
    · rw [e] at hm; cases hm
    · rw [e] at hm; cases hm; rw [e3] at hc; injection hc with hc; injection hc with _ hc; cases hc
  · rcases h4 with ⟨_, _, e⟩ | ⟨b', e, _, es, clock, e3, _⟩
    · rw [e] at hm; cases hm
    · rw [e] at hm; cases hm; rw [e3] at hc; cases hc
theorem LinkM.keeps {W W' : World} {g g' : Nat} {s s' : LS} {ws ws' : List Nat} (h : LinkM W g s ws) (hl : LinkM W g' s' ws') (hd : ∀ k ∈ ws, k ∉ ws') (hk : Keeps W W' ws') : LinkM W' g s ws :=
  h.frame (fun b hb => hk.2.2.2.2 b (h.lt b hb) (hd b hb)) (fun b cs hb => (hk.u8 hl hb).trans hb.symm)
theorem RS.keeps {W W' : World} {base g : Nat} {s : LS} {ws : List Nat} {v : Value} {l : List Int} (h : RS base W v l) (hl : LinkM W g s ws) (hk : Keeps W W' ws) : RS base W' v l := by
  obtain ⟨sp, h⟩ := h
  refine ⟨sp, ?_⟩
  rcases h with h | ⟨gb, h1, h2, h3, h4⟩
  · exact .inl h
  · exact .inr ⟨gb, h1, h2, hk.u8 hl h3, h4⟩
theorem sl_keeps {W W' : World} {base g : Nat} {s : LS} {ws : List Nat} {v : Value} {T : List Tri} (h : Kd.R KSl 30 W base (fun _ => True) v T) (hl : LinkM W g s ws) (hk : Keeps W W' ws) : Kd.R KSl 30 W' base (fun _ => True) v T := by
  refine Kd.R_mono (Kd.R_move (Kd.R_bound h) (fun k hkk => ?_)) (fun _ _ => trivial)
  obtain ⟨_, _, hlt, q, hq, cs, hc⟩ := hkk
  refine hk.2.2.2.2 k hlt (fun hm => ?_)
  have hq' : q = 30 := by
    rcases List.mem_cons.1 hq with e | e
    · exact e
    · cases e
  subst hq'
  exact hl.noSl k hm cs hc
theorem DgRows.keeps {W W' : World} {base g : Nat} {s : LS} {ws : List Nat} {v : Value} {D : Nat → List Int} {T : List Tri} (h : DgRows base W v D T) (hl : LinkM W g s ws) (hk : Keeps W W' ws) : DgRows base W' v D T :=
  ⟨sl_keeps h.1 hl hk, fun i x hx => (h.2.1 i x hx).keeps hl hk, h.2.2⟩
theorem LinkM.out {W : World} {g : Nat} {s : LS} {ws : List Nat} (h : LinkM W g s ws) (B : Nat) (hB : ∀ k ∈ ws, B ≤ k) (h0 : 0 < B) : ∀ k ∈ ws, k ≠ 0 := fun k hk e => by have := hB k hk; omega
theorem Tab.pos {w : World} (h : Tab w) : 0 < w.heap.size := World.block_lt_of_cell? w _ (h 0 (by decide))
structure Ends (w : World) (g1 : Nat) (s1 : LS) (ws1 : List Nat) (g2 : Nat) (s2 : LS) (ws2 : List Nat) (W : World) : Prop where
  one : LinkM W g1 s1 ws1
  two : LinkM W g2 s2 ws2
  apart : ∀ k ∈ ws1, k ∉ ws2
  own1 : ∀ k ∈ ws1, w.heap.size ≤ k
  own2 : ∀ k ∈ ws2, w.heap.size ≤ k
  below : Below w.heap.size w W
theorem Ends.swap {w : World} {g1 : Nat} {s1 : LS} {ws1 : List Nat} {g2 : Nat} {s2 : LS} {ws2 : List Nat} {W : World} (h : Ends w g1 s1 ws1 g2 s2 ws2 W) : Ends w g2 s2 ws2 g1 s1 ws1 W :=
  ⟨h.two, h.one, fun k hk hm => h.apart k hm hk, h.own2, h.own1, h.below⟩
theorem Ends.more {w : World} {g1 : Nat} {s1 : LS} {ws1 : List Nat} {g2 : Nat} {s2 : LS} {ws2 : List Nat} {W W' : World} (h : Ends w g1 s1 ws1 g2 s2 ws2 W) (hb : Below W.heap.size W W') : Ends w g1 s1 ws1 g2 s2 ws2 W' :=
  ⟨h.one.below hb, h.two.below hb, h.apart, h.own1, h.own2, below_step h.below hb⟩
theorem Ends.step {w : World} {g1 : Nat} {s1 s1' : LS} {ws1 ws1' : List Nat} {g2 : Nat} {s2 : LS} {ws2 : List Nat} {W W' : World} (h : Ends w g1 s1 ws1 g2 s2 ws2 W) (hl : LinkM W' g1 s1' ws1') (hn : ∀ k ∈ ws1', k ∈ ws1 ∨ W.heap.size ≤ k) (hk : Keeps W W' ws1) : Ends w g1 s1' ws1' g2 s2 ws2 W' := by
  have hs := below_size h.below
  refine ⟨hl, h.two.keeps h.one (fun k hk hm => h.apart k hm hk) hk, fun k hk hm => ?_, fun k hk => ?_, h.own2, ?_⟩
  · rcases hn k hk with e | e
    · exact h.apart k e hm
    · have := h.two.lt k hm; omega
  · rcases hn k hk with e | e
    · exact h.own1 k e
    · omega
  · exact ((Keeps.of_below h.below ws1).trans hk (fun k hk => .inl hk)).below (Nat.le_refl _) h.own1
theorem C_block {W : World} {b : Nat} {cs : Array Value} {ty : TypeId} {fr : Nat × Nat} (hb : W.heap[b]? = some (Obj.cells cs ty fr)) (xs : List Int) (hx : ∀ (j : Nat) x, xs[j]? = some x → cs[j]? = some (.int .u8 x)) (hl : xs.length ≤ 9223372036854775807) : Kd.C (Kd.int .u8) W (some ⟨b, 0, none⟩) xs.length xs := by
  refine ⟨rfl, hl, fun _ => ⟨_, rfl, fun j p hj => ⟨[.int .u8 p], rfl, rfl, fun i u hu => ?_⟩⟩⟩
  cases i with
  | zero =>
    simp only [List.getElem?_cons_zero, Option.some.injEq] at hu
    subst hu
    show W.cell? ((⟨b, 0, none⟩ : Addr).add (j * 1 + 0)) = _
    rw [Nat.mul_one, Nat.add_zero, add_plain]
    unfold World.cell?
    rw [hb]
    exact hx j p hj
  | succ i => simp at hu
theorem sl_at {W : World} {base : Nat} {ok : Nat → Prop} {v : Value} {T : List Tri} (h : Kd.R KSl 30 W base ok v T) (hT : 0 < T.length) : ∃ gb c, v = .slice (some ⟨gb, 0, none⟩) T.length c ∧ base ≤ gb ∧ gb < W.heap.size ∧ T.length ≤ c ∧ ∀ (i : Nat) x, T[i]? = some x → W.cell? ⟨gb, i, none⟩ = some (triV x) := by
  obtain ⟨A, c, rfl, hlc, hC⟩ := Kd.R_reads h
  obtain ⟨inner, ho⟩ := Kd.R_own h
  have hbd := Kd.R_bound h
  rcases ho.2 with ⟨e, _⟩ | ⟨g, cap, cur, e, hg, hh, _⟩
  · injection e with e1 e2 e3; omega
  · injection e with e1 e2 e3
    subst e1
    refine ⟨g, c, rfl, hg, (Array.getElem?_eq_some_iff.1 hh).1, hlc, fun i x hx => ?_⟩
    obtain ⟨ad, hA, hp⟩ := hC.2.2 hT
    cases hA
    obtain ⟨cs, _, hK, hc⟩ := hp i x hx
    have := hc 0 (triV x) (by rw [show cs = [triV x] from hK]; rfl)
    rw [show i * KSl.sz + 0 = i from by show i * 1 + 0 = i; omega, add_plain] at this
    exact this
theorem Ends.tab {w : World} {g1 : Nat} {s1 : LS} {ws1 : List Nat} {g2 : Nat} {s2 : LS} {ws2 : List Nat} {W : World} (h : Ends w g1 s1 ws1 g2 s2 ws2 W) (hT : Tab w) : Tab W := hT.below h.below
theorem Ends.send {w : World} {g1 : Nat} {s1 : LS} {ws1 : List Nat} {g2 : Nat} {s2 : LS} {ws2 : List Nat} {W : World} (E : Ends w g1 s1 ws1 g2 s2 ws2 W) (hT : Tab w) (A : Option Addr) (c n : Nat) (b : List Int) (hn : b.length = n) (hC : ∀ W', Keeps W W' ws1 → Kd.C (Kd.int .u8) W' A b.length b) (hc : n ≤ c) (hb : ∀ x ∈ b, 0 ≤ x ∧ x < 256) (hL : n ≤ 2000) :
    Calls Tryd.prog 12 #[.pointer (some ⟨g1, 0, none⟩), .slice A n c] W
      fun e w' => ∃ v T B ws1', e = .returned (.tuple #[v, .int .i64 s1.next, .int .i64 0]) ∧ T.length = manyF b.length ∧ w.heap.size ≤ B ∧ DgRows B w' v (dgF s1 s1.next b) T ∧ Ends w g1 (sendS s1) ws1' g2 s2 ws2 w' ∧ Keeps W w' ws1 := by
  subst hn
  refine (Send_calls g1 s1 ws1 A c b W E.one hC hc hb hL (E.tab hT) (E.one.out _ E.own1 hT.pos)).mono ?_
  rintro e w' ⟨v, T, ws', B, rfl, h1, h2, h3, h4, h5, h6, h7⟩
  exact ⟨v, T, B, ws', rfl, h1, Nat.le_trans (below_size E.below) h2, h4, E.step h5 h6 h7, h7⟩
theorem Ends.recv {w : World} {g1 : Nat} {s1 : LS} {ws1 : List Nat} {g2 : Nat} {s2 : LS} {ws2 : List Nat} {W : World} (E : Ends w g1 s1 ws1 g2 s2 ws2 W) (hT : Tab w) (A : Option Addr) (c n : Nat) (d : List Int) (hn : d.length = n) (hC : Kd.C (Kd.int .u8) W A d.length d) (hc : n ≤ c) (hd : ∀ x ∈ d, 0 ≤ x ∧ x < 256) (hl : n ≤ 140737488351232) :
    Calls Tryd.prog 13 #[.pointer (some ⟨g1, 0, none⟩), .slice A n c] W
      fun e w' => ∃ v ws1', e = .returned (.tuple #[v, .bool (recvF s1 d).2.2.1, .int .i64 (recvF s1 d).2.2.2]) ∧ RS W.heap.size w' v (recvF s1 d).2.1 ∧ Ends w g1 (recvF s1 d).1 ws1' g2 s2 ws2 w' ∧ Keeps W w' ws1 := by
  subst hn
  refine (Receive_calls A c d g1 s1 ws1 W E.one hC hc hd hl (E.tab hT) (fun _ _ => trivial)).mono ?_
  rintro e w' ⟨v, ws', rfl, h1, h2, h3, h4⟩
  exact ⟨v, ws', rfl, h1, E.step h2 h3 h4, h4⟩
theorem Ends.acked {w : World} {g1 : Nat} {s1 : LS} {ws1 : List Nat} {g2 : Nat} {s2 : LS} {ws2 : List Nat} {W : World} (E : Ends w g1 s1 ws1 g2 s2 ws2 W) :
    Calls Tryd.prog 14 #[.pointer (some ⟨g1, 0, none⟩)] W
      fun e w' => ∃ v, e = .returned v ∧ Kd.R (Kd.int .i64) 3 w' W.heap.size (fun _ => True) v (ackedF s1) ∧ Ends w g1 s1 ws1 g2 s2 ws2 w' ∧ Below W.heap.size W w' := by
  refine (Acked_calls g1 s1 ws1 W E.one).mono ?_
  rintro e w' ⟨v, rfl, h1, h2⟩
  exact ⟨v, rfl, h1, E.more h2, h2⟩
theorem two_read {w : World} {g1 : Nat} {s1 : LS} {ws1 : List Nat} {g2 : Nat} {s2 : LS} {ws2 : List Nat} {W : World} (E : Ends w g1 s1 ws1 g2 s2 ws2 W) (x y : Int) :
    ∀ W', Keeps (W.alloc (Obj.cells #[.int .u8 x, .int .u8 y] 5 (2, 3))) W' ws1 → Kd.C (Kd.int .u8) W' (some ⟨W.heap.size, 0, none⟩) [x, y].length [x, y] := by
  intro W' hk
  have h0 := (MapKept.heap_alloc W (Obj.cells #[.int .u8 x, .int .u8 y] 5 (2, 3))).1
  have h1 := (hk.2.2.2.2 W.heap.size (Array.getElem?_eq_some_iff.1 h0).1 (fun hm => by have := E.one.lt _ hm; omega)).trans h0
  exact C_block h1 [x, y] (fun j z hj => by
    cases j with
    | zero => simp only [List.getElem?_cons_zero, Option.some.injEq] at hj; subst hj; rfl
    | succ j => cases j with
      | zero => simp only [List.getElem?_cons_succ, List.getElem?_cons_zero, Option.some.injEq] at hj; subst hj; rfl
      | succ j => simp at hj) (by simp)
theorem RS.C {base : Nat} {W : World} {t : Tri} {l : List Int} (h : RS base W (triV t) l) : t.2.1 = l.length ∧ l.length ≤ t.2.2 ∧ Kd.C (Kd.int .u8) W t.1 l.length l := by
  obtain ⟨A, n, c⟩ := t
  obtain ⟨h1, h2, h3⟩ := Kd.R_reads' h.R
  exact ⟨h1, by rw [← h1]; exact h2, h3⟩
theorem sl_cell {W : World} {base gb c : Nat} {ok : Nat → Prop} {n : Nat} {T : List Tri} (h : Kd.R KSl 30 W base ok (.slice (some ⟨gb, 0, none⟩) n c) T) (i : Nat) (x : Tri) (hx : T[i]? = some x) : W.cell? ⟨gb, i, none⟩ = some (triV x) := by
  obtain ⟨gb', c', e, _, _, _, h⟩ := sl_at h (by have := (List.getElem?_eq_some_iff.1 hx).1; omega)
  injection e with e1 e2 e3
  injection e1 with e1
  injection e1 with e1
  subst e1
  exact h i x hx
theorem la1_range : ∀ x ∈ la1, 0 ≤ x ∧ x < 256 := by decide +kernel
theorem la4_range : (∀ x ∈ la4, 0 ≤ x ∧ x < 256) ∧ la4.length = 17 := by decide +kernel
theorem bytes_string {W : World} {base : Nat} {v : Value} {l : List Int} (h : RS base W v l) : ∃ A c, v = .slice A l.length c ∧ (convert 30 9 (.slice A l.length c)).run Tryd.prog W = .ok (.string (strOfNums l)) W := by
  obtain ⟨A, c, rfl⟩ := Kd.R_slice h.R
  exact ⟨A, c, rfl, Kd.C_string Tryd.underlying30 Tryd.underlying5 Tryd.underlying9 (Kd.R_reads' h.R).2.2⟩
set_option maxHeartbeats 8000000 in
set_option maxRecDepth 100000 in
theorem awake_calls (w : World) (hT : Tab w) : Calls Tryd.prog 9 #[] w fun e w' => e = .returned (.bool true) ∧ Below w.heap.size w w' := by
  have HT := Aside0.mk hT
  clear hT
  go_enter Tryd.func9, Tryd.ntmps9
  go_wp2_with fail
  ((with_reducible refine (New_calls 65535 w).mono ?_); rintro e_ W1 ⟨g1, ws1, rfl, hl1, ho1, hb1⟩)
  have HL1 := Aside0.mk hl1; have HO1 := Aside0.mk ho1; have HB1 := Aside0.mk hb1
  clear hl1 ho1 hb1
  go_wp2_with fail
  ((with_reducible refine (New_calls 5 W1).mono ?_); rintro e_ W2 ⟨g2, ws2, rfl, hl2, ho2, hb2⟩)
  have E0 : Aside0 (Ends w g1 (newS 65535) ws1 g2 (newS 5) ws2 W2) := ⟨⟨HL1.out.below hb2, hl2, fun k hk hm => by have := HL1.out.lt k hk; have := ho2 k hm; omega, HO1.out, fun k hk => by have := ho2 k hk; have := below_size HB1.out; omega, below_step HB1.out hb2⟩⟩
  clear hl2 ho2 hb2 HL1 HO1 HB1
  have k1 := conv_mark W2 #[.int .u8 104, .int .u8 105] 2
  go_wp2_with fail
  have hE := E0.out.more (below_alloc (Below.refl _ _) (Obj.cells #[.int .u8 104, .int .u8 105] 5 (2, 3)))
  ((with_reducible refine (hE.send HT.out (some ⟨W2.heap.size, 0, none⟩) 2 2 [104, 105] rfl (two_read E0.out 104 105) (by omega) (by decide) (by omega)).mono ?_); rintro e_ W4 ⟨v1, T1, B1, ws1a, rfl, hTl, hB1, hD1, hE1, hk1⟩)
  change Ends w g1 (sendS (newS 65535)) ws1a g2 (newS 5) ws2 W4 at hE1
  have hTl1 : T1.length = 1 := hTl
  obtain ⟨t1, ht1⟩ := List.length_eq_one_iff.1 hTl1
  subst ht1
  obtain ⟨A1, n1, c1⟩ := t1
  obtain ⟨gb1, cc1, rfl, hgb1, hgl1, hcc1, hat1⟩ := sl_at hD1.1 (by simp)
  have hc0 := hat1 0 _ rfl
  have hrs1 := hD1.2.1 0 _ rfl
  obtain ⟨hn1, hnc1, hC1⟩ := RS.C hrs1
  have hla1 : la1.length = 17 := awake_ev.1
  change n1 = la1.length at hn1
  change la1.length ≤ c1 at hnc1
  rw [hla1] at hn1 hnc1
  subst hn1
  change W4.cell? ⟨gb1, 0, none⟩ = some (.slice A1 17 c1) at hc0
  have HD1 := Aside0.mk hD1; have HE1 := Aside0.mk hE1; have HC1 := Aside0.mk hC1
  clear hE hTl hB1 hD1 hE1 hk1 hTl1 hgb1 hgl1 hcc1 hat1 hrs1 hC1 hla1 k1
  rw [show (newS 65535).next = 65535 from rfl]
  go_wp2_with fail
  have ev := awake_ev
  have hr1 := HE1.out.swap.recv HT.out A1 c1 17 la1 ev.1 HC1.out (by omega) la1_range (by omega)
  rw [show (recvF (newS 5) la1).2.2.1 = true by rw [ev.2.1], show (recvF (newS 5) la1).2.2.2 = 0 by rw [ev.2.1], show (recvF (newS 5) la1).2.1 = [104, 105] by rw [ev.2.1]] at hr1
  ((with_reducible refine hr1.mono ?_); rintro e_ W5 ⟨vm, ws2a, rfl, hm, hE2, hk2⟩)
  change Ends w g2 la2 ws2a g1 (sendS (newS 65535)) ws1a W5 at hE2
  have hD2 := HD1.out.keeps HE1.out.two hk2
  have hc0' := sl_cell hD2.1 0 _ rfl
  change W5.cell? ⟨gb1, 0, none⟩ = some (.slice A1 17 c1) at hc0'
  have hC2 := (RS.C (hD2.2.1 0 _ rfl)).2.2
  have HD2 := Aside0.mk hD2; have HE2 := Aside0.mk hE2; have HM := Aside0.mk hm; have HC2 := Aside0.mk hC2
  clear hr1 hm hE2 hk2 hD2 hC2 ev hc0 HD1 HE1 HC1
  go_wp2_with fail
  have ev := awake_ev
  have hr1 := HE2.out.recv HT.out A1 c1 17 la1 ev.1 HC2.out (by omega) la1_range (by omega)
  rw [show (recvF la2 la1).2.2.1 = false by rw [ev.2.2.1], show (recvF la2 la1).2.2.2 = 71 by rw [ev.2.2.1]] at hr1
  ((with_reducible refine hr1.mono ?_); rintro e_ W6 ⟨vx, ws2b, rfl, _, hE3, hk3⟩)
  change Ends w g2 la3 ws2b g1 (sendS (newS 65535)) ws1a W6 at hE3
  have hD3 := HD2.out.keeps HE2.out.one hk3
  have hm3 := HM.out.keeps HE2.out.one hk3
  have HD3 := Aside0.mk hD3; have HE3 := Aside0.mk hE3; have HM3 := Aside0.mk hm3
  clear hr1 hm3 hE3 hk3 hD3 ev hc0' HD2 HE2 HC2 HM
  have k1 := conv_mark W6 #[.int .u8 121, .int .u8 111] 2
  go_wp2_with fail
  have hE := HE3.out.more (below_alloc (Below.refl _ _) (Obj.cells #[.int .u8 121, .int .u8 111] 5 (2, 3)))
  have hDx := HD3.out.below (below_alloc (Below.refl _ _) (Obj.cells #[.int .u8 121, .int .u8 111] 5 (2, 3)))
  have hmx := HM3.out.below (below_alloc (Below.refl _ _) (Obj.cells #[.int .u8 121, .int .u8 111] 5 (2, 3)))
  ((with_reducible refine (hE.send HT.out (some ⟨W6.heap.size, 0, none⟩) 2 2 [121, 111] rfl (two_read HE3.out 121 111) (by omega) (by decide) (by omega)).mono ?_); rintro e_ W7 ⟨v2, T2, B2, ws2c, rfl, hTl, hB2, hE4D, hE4, hk4⟩)
  have hD4 := hDx.keeps hE.one hk4
  have hm4 := hmx.keeps hE.one hk4
  have hnx : la3.next = 5 := awake_ev.2.2.2.2.2.1
  rw [hnx] at hE4D ⊢
  change DgRows B2 W7 v2 (dgF la3 5 [121, 111]) T2 at hE4D
  have hTl2 : T2.length = 1 := hTl
  obtain ⟨t2, ht2⟩ := List.length_eq_one_iff.1 hTl2
  subst ht2
  obtain ⟨A2, n2, c2⟩ := t2
  obtain ⟨gb2, cc2, rfl, hgb2, hgl2, hcc2, hat2⟩ := sl_at hE4D.1 (by simp)
  have hc2 := hat2 0 _ rfl
  obtain ⟨hn2, hnc2, hC4⟩ := RS.C (hE4D.2.1 0 _ rfl)
  change n2 = la4.length at hn2
  change la4.length ≤ c2 at hnc2
  rw [la4_range.2] at hn2 hnc2
  subst hn2
  change W7.cell? ⟨gb2, 0, none⟩ = some (.slice A2 17 c2) at hc2
  have HD4 := Aside0.mk hD4; have HE4 := Aside0.mk hE4; have HM4 := Aside0.mk hm4; have HC4 := Aside0.mk hC4
  clear hE hDx hmx hTl hB2 hE4D hE4 hk4 hD4 hm4 hnx hTl2 hgb2 hgl2 hcc2 hat2 hC4 k1 HD3 HE3 HM3
  go_wp2_with fail
  have ev := awake_ev
  have hr1 := HE4.out.swap.recv HT.out A2 c2 17 la4 la4_range.2 HC4.out (by omega) la4_range.1 (by omega)
  rw [show (recvF (sendS (newS 65535)) la4).2.2.1 = true by rw [ev.2.2.2.1], show (recvF (sendS (newS 65535)) la4).2.2.2 = 0 by rw [ev.2.2.2.1], show (recvF (sendS (newS 65535)) la4).2.1 = [121, 111] by rw [ev.2.2.2.1]] at hr1
  ((with_reducible refine hr1.mono ?_); rintro e_ W8 ⟨vp, ws1b, rfl, hp, hE5, hk5⟩)
  change Ends w g1 la5 ws1b g2 (sendS la3) ws2c W8 at hE5
  have hD5 := HD4.out.keeps HE4.out.two hk5
  have hm5 := HM4.out.keeps HE4.out.two hk5
  have HD5 := Aside0.mk hD5; have HE5 := Aside0.mk hE5; have HM5 := Aside0.mk hm5; have HP5 := Aside0.mk hp
  clear hr1 hm5 hE5 hk5 hD5 hp ev hc2 HD4 HE4 HC4 HM4
  go_wp2_with fail
  ((with_reducible refine HE5.out.acked.mono ?_); rintro e_ W9 ⟨va, rfl, ha, hE6, hb6⟩)
  have ev := awake_ev
  rw [ev.2.2.2.2.1] at ha
  obtain ⟨Aa, ca, hva⟩ := Kd.R_slice ha
  subst hva
  obtain ⟨ada, hA, hca⟩ := Kd.at_int (Kd.R_reads' ha).2.2 0 (by omega) (by decide)
  subst hA
  have hD6 := HD5.out.below hb6
  have hc6 := sl_cell hD6.1 0 _ rfl
  change W9.cell? ⟨gb1, 0, none⟩ = some (.slice A1 17 c1) at hc6
  obtain ⟨Am, cm, hvm, hcm⟩ := bytes_string (HM5.out.below hb6)
  obtain ⟨Ap, cp, hvp, hcp⟩ := bytes_string (HP5.out.below hb6)
  subst hvm; subst hvp
  change (convert _ _ (.slice Am 2 cm)).run Tryd.prog W9 = .ok (.string ⟨#[104, 105]⟩) W9 at hcm
  change (convert _ _ (.slice Ap 2 cp)).run Tryd.prog W9 = .ok (.string ⟨#[121, 111]⟩) W9 at hcp
  change W9.cell? (ada.add 0) = some (.int .i64 65535) at hca
  have had0 : ada.add 0 = ada := by
    obtain ⟨b_, o_, p_⟩ := ada
    unfold Addr.add
    cases p_ <;> simp
  rw [had0] at hca
  have HE6 := Aside0.mk hE6
  clear ha hE6 hD6 hb6 ev HD5 HE5 HM5 HP5
  go_wp2_with fail
  have n1 := awake_ev.2.2.2.2.2.2
  have c1_ := Newer_calls 0 65535 W9
  rw [n1.1] at c1_
  ((with_reducible refine c1_.mono ?_); rintro e_ W10 ⟨rfl, rfl⟩)
  clear n1 c1_
  go_wp2_with fail
  have n1 := awake_ev.2.2.2.2.2.2
  have c1_ := Newer_calls 0 32768 W10
  rw [n1.2] at c1_
  ((with_reducible refine c1_.mono ?_); rintro e_ W11 ⟨rfl, rfl⟩)
  clear n1 c1_
  go_wp2
  go_ret
  exact ⟨rfl, HE6.out.below⟩
end Go.Proofs.YtbdocgddidcfeaaDoor
namespace Go.Proofs.YtbdocgddidcfeaaDoor
open Go.RowKit Go.Proofs.YtbdocgddidcfeaaDoorW.PrintWords Go.Proofs.YtbdocgddidcfeaaDoorW.PrintLast Go.Proofs.YtbdocgddidcfeaaDoorW.PrintMore
set_option linter.unusedVariables false
set_option linter.unusedSimpArgs false
theorem and_65535 (z : Int) : bits .and .i64 z 65535 = z % 65536 := by
  show IntKind.i64.wrap (((BitVec.ofInt 64 z) &&& (BitVec.ofInt 64 65535)).toNat : Int) = z % 65536
  rw [BitVec.toNat_and, show (BitVec.ofInt 64 65535).toNat = 2 ^ 16 - 1 by decide, Nat.and_two_pow_sub_one_eq_mod, IntKind.wrap_i64, BitVec.toNat_ofInt]
  have h : (((z % (2 ^ 64 : Nat)).toNat % 2 ^ 16 : Nat) : Int) = z % 65536 := by
    have : (0 : Int) ≤ z % (2 ^ 64 : Nat) := Int.emod_nonneg _ (by decide)
    rw [Int.natCast_emod, Int.toNat_of_nonneg this]
    show z % 18446744073709551616 % 65536 = z % 65536
    omega
  rw [h]
  omega
end Go.Proofs.YtbdocgddidcfeaaDoor
namespace Go.Proofs.YtbdocgddidcfeaaDoor
open Go.RowKit Go.Proofs.YtbdocgddidcfeaaDoorW.PrintWords Go.Proofs.YtbdocgddidcfeaaDoorW.PrintLast Go.Proofs.YtbdocgddidcfeaaDoorW.PrintMore
set_option linter.unusedVariables false
set_option linter.unusedSimpArgs false
structure ByIn (w : World) (t : Tri) (l : List Int) : Prop where
  len : t.2.1 = l.length
  cap : l.length ≤ t.2.2
  C : Kd.C (Kd.int .u8) w t.1 l.length l
  byte : ∀ x ∈ l, 0 ≤ x ∧ x < 256
  small : l.length ≤ 140737488351232
structure RowsIn (w : World) (A : Option Addr) (c : Nat) (T : List Tri) (L : List (List Int)) : Prop where
  len : T.length = L.length
  cap : T.length ≤ c
  C : Kd.C KSl w A T.length T
  row : ∀ (i : Nat) t l, T[i]? = some t → L[i]? = some l → ByIn w t l
  small : T.length ≤ 140737488351232
theorem ByIn.below {w w' : World} {t : Tri} {l : List Int} (h : ByIn w t l) (hb : Below w.heap.size w w') : ByIn w' t l := ⟨h.len, h.cap, Kd.C_below h.C hb, h.byte, h.small⟩
theorem RowsIn.below {w w' : World} {A : Option Addr} {c : Nat} {T : List Tri} {L : List (List Int)} (h : RowsIn w A c T L) (hb : Below w.heap.size w w') : RowsIn w' A c T L :=
  ⟨h.len, h.cap, Kd.C_below h.C hb, fun i t l ht hl => (h.row i t l ht hl).below hb, h.small⟩
theorem RowsIn.at {w : World} {A : Option Addr} {c : Nat} {T : List Tri} {L : List (List Int)} (h : RowsIn w A c T L) (i : Int) (h0 : 0 ≤ i) (h1 : i < (T.length : Int)) :
    ∃ ad t l, A = some ad ∧ T[i.toNat]? = some t ∧ L[i.toNat]? = some l ∧ ByIn w t l ∧ w.cell? (ad.add i.toNat) = some (.slice t.1 l.length t.2.2) := by
  have hi : i.toNat < T.length := by omega
  have hi2 : i.toNat < L.length := by rw [← h.len]; exact hi
  obtain ⟨ad, hA, hc⟩ := h.C.2.2 (by omega)
  obtain ⟨cs, _, hK, hcell⟩ := hc i.toNat T[i.toNat] (List.getElem?_eq_getElem hi)
  have hr := h.row i.toNat T[i.toNat] L[i.toNat] (List.getElem?_eq_getElem hi) (List.getElem?_eq_getElem hi2)
  refine ⟨ad, T[i.toNat], L[i.toNat], hA, List.getElem?_eq_getElem hi, List.getElem?_eq_getElem hi2, hr, ?_⟩
  have h2 := hcell 0 (triV T[i.toNat]) (by rw [show cs = [triV T[i.toNat]] from hK]; rfl)
  rw [show i.toNat * KSl.sz + 0 = i.toNat from by show i.toNat * 1 + 0 = _; omega] at h2
  rw [h2]
  unfold triV
  rw [hr.len]
theorem ByIn.kept {w W : World} {t : Tri} {l : List Int} {ws : List Nat} (h : ByIn w t l) (hb : Below w.heap.size w W) (ho : ∀ k ∈ ws, w.heap.size ≤ k) : ∀ W', Keeps W W' ws → Kd.C (Kd.int .u8) W' t.1 l.length l := by
  intro W' hk
  refine Kd.C_below h.C ?_
  have hs := below_size hb
  refine ⟨hk.1.trans hb.os, hk.2.1.trans hb.tape, hk.2.2.1.trans hb.output, Nat.le_trans hs hk.2.2.2.1, fun k hlt => ?_⟩
  exact (hk.2.2.2.2 k (by omega) (fun hm => by have := ho k hm; omega)).trans (hb.block k hlt)
structure One (w : World) (g : Nat) (s : LS) (ws : List Nat) (W : World) : Prop where
  link : LinkM W g s ws
  own : ∀ k ∈ ws, w.heap.size ≤ k
  below : Below w.heap.size w W
theorem One.more {w : World} {g : Nat} {s : LS} {ws : List Nat} {W W' : World} (h : One w g s ws W) (hb : Below W.heap.size W W') : One w g s ws W' := ⟨h.link.below hb, h.own, below_step h.below hb⟩
theorem One.step {w : World} {g : Nat} {s s' : LS} {ws ws' : List Nat} {W W' : World} (h : One w g s ws W) (hl : LinkM W' g s' ws') (hn : ∀ k ∈ ws', k ∈ ws ∨ W.heap.size ≤ k) (hk : Keeps W W' ws) : One w g s' ws' W' := by
  have hs := below_size h.below
  refine ⟨hl, fun k hk => ?_, ((Keeps.of_below h.below ws).trans hk (fun k hk => .inl hk)).below (Nat.le_refl _) h.own⟩
  rcases hn k hk with e | e
  · exact h.own k e
  · omega
theorem One.send {w : World} {g : Nat} {s : LS} {ws : List Nat} {W : World} (E : One w g s ws W) (hT : Tab w) (A : Option Addr) (c n : Nat) (b : List Int) (hn : b.length = n) (hC : ∀ W', Keeps W W' ws → Kd.C (Kd.int .u8) W' A b.length b) (hc : n ≤ c) (hb : ∀ x ∈ b, 0 ≤ x ∧ x < 256) (hL : n ≤ 2000) :
    Calls Tryd.prog 12 #[.pointer (some ⟨g, 0, none⟩), .slice A n c] W
      fun e w' => ∃ v T B ws', e = .returned (.tuple #[v, .int .i64 s.next, .int .i64 0]) ∧ T.length = manyF b.length ∧ w.heap.size ≤ B ∧ DgRows B w' v (dgF s s.next b) T ∧ One w g (sendS s) ws' w' ∧ Keeps W w' ws := by
  subst hn
  refine (Send_calls g s ws A c b W E.link hC hc hb hL (hT.below E.below) (E.link.out _ E.own hT.pos)).mono ?_
  rintro e w' ⟨v, T, ws', B, rfl, h1, h2, h3, h4, h5, h6, h7⟩
  exact ⟨v, T, B, ws', rfl, h1, Nat.le_trans (below_size E.below) h2, h4, E.step h5 h6 h7, h7⟩
theorem One.recv {w : World} {g : Nat} {s : LS} {ws : List Nat} {W : World} (E : One w g s ws W) (hT : Tab w) (A : Option Addr) (c n : Nat) (d : List Int) (hn : d.length = n) (hC : Kd.C (Kd.int .u8) W A d.length d) (hc : n ≤ c) (hd : ∀ x ∈ d, 0 ≤ x ∧ x < 256) (hl : n ≤ 140737488351232) :
    Calls Tryd.prog 13 #[.pointer (some ⟨g, 0, none⟩), .slice A n c] W
      fun e w' => ∃ v ws', e = .returned (.tuple #[v, .bool (recvF s d).2.2.1, .int .i64 (recvF s d).2.2.2]) ∧ RS W.heap.size w' v (recvF s d).2.1 ∧ One w g (recvF s d).1 ws' w' ∧ Keeps W w' ws := by
  subst hn
  refine (Receive_calls A c d g s ws W E.link hC hc hd hl (hT.below E.below) (fun _ _ => trivial)).mono ?_
  rintro e w' ⟨v, ws', rfl, h1, h2, h3, h4⟩
  exact ⟨v, ws', rfl, h1, E.step h2 h3 h4, h4⟩
set_option maxHeartbeats 4000000 in
set_option maxRecDepth 100000 in
/-- A message that is too long. -/
theorem Send_long (P : Option Addr) (A : Option Addr) (L c : Nat) (w : World) (hL : 2000 < L) :
    Calls Tryd.prog 12 #[.pointer P, .slice A L c] w fun e w' => e = .returned (.tuple #[.slice none 0 0, .int .i64 0, .int .i64 2]) ∧ w' = w := by
  have e1 : decide (2000 < (L : Int)) = true := decide_eq_true (by omega)
  have e2 : decide (2000 < L) = true := decide_eq_true hL
  clear hL
  go_enter Tryd.func12, Tryd.ntmps12
  go_wp2
  go_ret3
  exact ⟨rfl, rfl⟩
theorem dg_len (s : LS) (n : Int) (b : List Int) (i : Nat) : (dgF s n b i).length = 15 + min 200 (b.length - 200 * i) := by
  unfold dgF frameF
  rw [List.length_append, raw_len]
  unfold partF
  rw [List.length_take, List.length_drop]
  simp only [List.length_cons, List.length_nil]
  omega
end Go.Proofs.YtbdocgddidcfeaaDoor
namespace Go.Proofs.YtbdocgddidcfeaaDoor
open Go.RowKit Go.ChangeShapes Go.WideShapes Go.Deep Go.Proofs.YtbdocgddidcfeaaDoorW.PrintWords Go.Proofs.YtbdocgddidcfeaaDoorW.PrintLast Go.Proofs.YtbdocgddidcfeaaDoorW.PrintMore
set_option linter.unusedVariables false
set_option linter.unusedSimpArgs false
theorem weightsAll_in {H : Type} {P : Program} {e : TypeId} {x : DataW H} : ∀ {l : List (DataW H)}, x ∈ l → ∀ n ∈ x.weights P e, n ∈ DataW.weightsAll P e l
  | [], h, _, _ => by cases h
  | d :: r, h, n, hn => by
    simp only [DataW.weightsAll, List.mem_append]
    rcases List.mem_cons.1 h with rfl | h
    · exact Or.inl hn
    · exact Or.inr (weightsAll_in h n hn)
section
variable {H : Type} {enc : TypeId × Value → H} {W : World} {base : Nat} {held : Bool}
theorem u8_bounds {x : Int} (h : (Lit.int .u8 x).wf = true) : 0 ≤ x ∧ x < 256 := by
  have h1 : IntKind.u8.min ≤ x ∧ x ≤ IntKind.u8.max := by simpa [Lit.wf] using h
  rw [show IntKind.u8.min = 0 by decide, show IntKind.u8.max = 255 by decide] at h1; omega
theorem C_row {a : Addr} {l : List Int} (hl : l.length ≤ 9223372036854775807) (hc : ∀ i, i < l.length → W.cell? (a.add i) = some (.int .u8 (l.getD i 0))) : Kd.C (Kd.int .u8) W (some a) l.length l := by
  refine ⟨rfl, hl, fun _ => ⟨a, rfl, fun j p hj => ⟨[.int .u8 p], rfl, rfl, fun i u hu => ?_⟩⟩⟩
  cases i with
  | succ i => simp at hu
  | zero =>
    simp only [List.getElem?_cons_zero, Option.some.injEq] at hu
    subst hu
    show W.cell? (a.add (j * 1 + 0)) = _
    have hj' := (List.getElem?_eq_some_iff.1 hj).1
    rw [Nat.mul_one, Nat.add_zero, hc j hj', List.getD_eq_getElem?_getD, hj]
    rfl
theorem open_bytes {fuel : Nat} {v : Value} {x : DataW H × List MemPlace} (h : DataW.trod enc Tryd.prog W base (fun _ => true) held fuel 30 [v] = some x) (hw : ∀ n ∈ x.1.weights Tryd.prog 30, n ≤ reachBytes) :
    ∃ t l, v = triV t ∧ ByIn W t l := by
  rcases open_ints Tryd.underlying30 Tryd.underlying5 (by kernel_rfl) h with ⟨hcs, hx⟩ | ⟨a, len, cap, zs, hcs, hb, hl, hm, hz, hx, hcell, hwz⟩
  · refine ⟨(none, 0, 0), [], ?_, ⟨rfl, Nat.le_refl _, Kd.C_nil _ _, by simp, by simp⟩⟩
    simpa [triV] using hcs
  · simp only [if_true] at hz
    have hzl : len ≤ zs.length := by omega
    have htl : (zs.take len).length = len := by rw [List.length_take]; omega
    have hwt := hw ((lits (H := H) .u8 (zs.take len)).length + (lits (H := H) .u8 (zs.drop len)).length) (by
      rw [hx]
      simp only [DataW.weights, Tryd.underlying30]
      rw [show Tryd.prog.bytesOf 5 = 1 by kernel_rfl, Nat.mul_one]
      exact List.mem_cons_self ..)
    have hsm : len ≤ 140737488351232 := by
      have h1 : (lits (H := H) .u8 (zs.take len)).length = len := by rw [show (lits (H := H) .u8 (zs.take len)).length = (zs.take len).length by simp [lits], htl]
      have h2 : reachBytes = 140737488351232 := rfl
      omega
    refine ⟨(some a, len, cap), zs.take len, by simpa [triV] using hcs, ⟨htl.symm, by rw [htl]; exact hl, C_row (by omega) (fun i hi => ?_), fun y hy => u8_bounds (hwz y (List.mem_of_mem_take hy)), by rw [htl]; exact hsm⟩⟩
    rw [htl] at hi
    rw [hcell i (by omega), List.getD_eq_getElem?_getD, List.getD_eq_getElem?_getD, List.getElem?_take, if_pos hi]
structure ActD where
  what : Int
  who : Int
  which : Int
  t : Tri
  l : List Int
instance : Inhabited ActD := ⟨⟨0, 0, 0, (none, 0, 0), []⟩⟩
def w64 (x : Int) : Prop := -9223372036854775808 ≤ x ∧ x ≤ 9223372036854775807
structure ActsIn (w : World) (A : Option Addr) (c : Nat) (X : List ActD) : Prop where
  cap : X.length ≤ c
  small : X.length ≤ 140737488351232
  at_ : 0 < X.length → ∃ ad, A = some ad ∧ ∀ (i : Nat) x, X[i]? = some x → w.cell? (ad.add (i * 4)) = some (.int .i64 x.what) ∧ w.cell? (ad.add (i * 4 + 1)) = some (.int .i64 x.who) ∧ w.cell? (ad.add (i * 4 + 2)) = some (.int .i64 x.which) ∧ w.cell? (ad.add (i * 4 + 3)) = some (.slice x.t.1 x.l.length x.t.2.2)
  each : ∀ (i : Nat) x, X[i]? = some x → ByIn w x.t x.l ∧ w64 x.what ∧ w64 x.who ∧ w64 x.which
theorem ActsIn.below {w w' : World} {A : Option Addr} {c : Nat} {X : List ActD} (h : ActsIn w A c X) (hb : Below w.heap.size w w') : ActsIn w' A c X := by
  refine ⟨h.cap, h.small, fun h0 => ?_, fun i x hx => ⟨(h.each i x hx).1.below hb, (h.each i x hx).2⟩⟩
  obtain ⟨ad, hA, hc⟩ := h.at_ h0
  refine ⟨ad, hA, fun i x hx => ?_⟩
  obtain ⟨h1, h2, h3, h4⟩ := hc i x hx
  have mv : ∀ {p : Addr} {v : Value}, w.cell? p = some v → w'.cell? p = some v := fun hp => (hb.cell (World.block_lt_of_cell? w _ hp)).trans hp
  exact ⟨mv h1, mv h2, mv h3, mv h4⟩
theorem wf_i64 {x : Int} (h : (Lit.int .i64 x).wf = true) : w64 x := by
  have h1 : IntKind.i64.min ≤ x ∧ x ≤ IntKind.i64.max := by simpa [Lit.wf] using h
  rw [show IntKind.i64.min = -9223372036854775808 by decide, show IntKind.i64.max = 9223372036854775807 by decide] at h1
  exact h1
theorem open_acts {ts : List TypeId} {ds : List (DataW H)} {j : Nat} {b : Option Addr} {len cap : Nat} {d : DataW H} {ps : List MemPlace}
    (hsz : (DataW.weightsEach Tryd.prog ts ds).all (· ≤ reachBytes) = true) (ht : ts[j]? = some 32) (hd : ds[j]? = some d)
    (h : DataW.Trod enc Tryd.prog W base (fun _ => true) held 32 (.slice b len cap) d ps) : ∃ X : List ActD, len = X.length ∧ ActsIn W b cap X := by
  have hall : ∀ n ∈ d.weights Tryd.prog 32, n ≤ reachBytes := fun n hn => of_decide_eq_true (List.all_eq_true.1 hsz n (DataW.weights_mem_each ht hd n hn))
  obtain ⟨fuel, hf⟩ := h
  have ce : Tryd.prog.cellsOf 35 = 4 := by kernel_rfl
  have c1 : Tryd.prog.cellsOf 3 = 1 := by kernel_rfl
  have c2 : Tryd.prog.cellsOf 30 = 1 := by kernel_rfl
  rcases open_slice Tryd.underlying32 hf with ⟨hcs, _⟩ | ⟨a, len', cap', m, n, D, Pl, hcs, hb, hl, hm, hmm, hx, hcell⟩
  · simp [Value.cells] at hcs
    obtain ⟨rfl, rfl, rfl⟩ := hcs
    exact ⟨[], rfl, ⟨Nat.le_refl _, by simp, by simp, by simp⟩⟩
  · simp [Value.cells] at hcs
    obtain ⟨rfl, rfl, rfl⟩ := hcs
    obtain ⟨hx, _⟩ := Prod.mk.inj hx
    subst hx
    simp only [if_true] at hmm
    subst hmm
    have each : ∀ i, i < len → ∃ x : ActD, (W.cell? (a.add (i * 4)) = some (.int .i64 x.what) ∧ W.cell? (a.add (i * 4 + 1)) = some (.int .i64 x.who) ∧ W.cell? (a.add (i * 4 + 2)) = some (.int .i64 x.which) ∧ W.cell? (a.add (i * 4 + 3)) = some (.slice x.t.1 x.l.length x.t.2.2)) ∧ ByIn W x.t x.l ∧ w64 x.what ∧ w64 x.who ∧ w64 x.which := by
      intro i hi
      obtain ⟨cs', h1, h2⟩ := hcell i (by omega)
      rw [ce] at h1
      obtain ⟨_, hlen, hcl⟩ := World.cells?_some h1
      obtain ⟨xs, k, hk, hxy, _, hxl, hfs⟩ := DataW.trod_struct Tryd.underlying35 h2
      match xs, hxl, cs', hlen with
      | [y0, y1, y2, y3], _, [v0, v1, v2, v3], _ =>
        have g0 := hfs 0 _ rfl
        have g1 := hfs 1 _ rfl
        have g2 := hfs 2 _ rfl
        have g3 := hfs 3 _ rfl
        simp [c1, c2] at g0 g1 g2 g3
        have e0 := hcl 0 (by omega)
        have e1 := hcl 1 (by omega)
        have e2 := hcl 2 (by omega)
        have e3 := hcl 3 (by omega)
        rw [Go.Deep.add_add] at e0 e1 e2 e3
        obtain ⟨n0, r0, _, w0⟩ := DataW.trod_int Tryd.underlying3 g0
        obtain ⟨n1, r1, _, w1⟩ := DataW.trod_int Tryd.underlying3 g1
        obtain ⟨n2, r2, _, w2⟩ := DataW.trod_int Tryd.underlying3 g2
        simp only [List.cons.injEq, and_true] at r0 r1 r2
        subst r0; subst r1; subst r2
        have hD : D i = .agg [y0.1, y1.1, y2.1, y3.1] := by
          have := congrArg Prod.fst hxy
          simpa using this
        obtain ⟨t, l, e4, hby⟩ := open_bytes g3 (fun n hn => hall n (by
          simp only [DataW.weights, Tryd.underlying32, List.mem_cons, List.mem_append]
          refine Or.inr (Or.inl (weightsAll_in (List.mem_map.2 ⟨i, by simpa using hi, hD⟩) n ?_))
          simp only [DataW.weights, Tryd.underlying35]
          exact DataW.weights_mem_each (j := 3) rfl rfl n hn))
        subst e4
        refine ⟨⟨n0, n1, n2, t, l⟩, ⟨by simpa using e0, by simpa using e1, by simpa using e2, ?_⟩, hby, wf_i64 w0, wf_i64 w1, wf_i64 w2⟩
        have e5 : W.cell? (a.add (i * 4 + 3)) = some (triV t) := by simpa using e3
        rw [e5]
        unfold triV
        rw [hby.len]
    obtain ⟨q, hq⟩ := choose_lt each
    have hsm : len * 48 ≤ 140737488351232 := by
      have := hall ((((List.range len).map D).length + ((List.range (m - len)).map fun j => D (len + j)).length) * 48) (by
        simp only [DataW.weights, Tryd.underlying32]
        rw [show Tryd.prog.bytesOf 35 = 48 by kernel_rfl]
        exact List.mem_cons_self ..)
      have h2 : reachBytes = 140737488351232 := rfl
      rw [List.length_map, List.length_range] at this
      have h3 : len * 48 ≤ (len + ((List.range (m - len)).map fun j => D (len + j)).length) * 48 := Nat.mul_le_mul_right _ (Nat.le_add_right _ _)
      omega
    have e : ((List.range len).map q).length = len := by simp
    have get : ∀ (i : Nat) x, ((List.range len).map q)[i]? = some x → i < len ∧ q i = x := fun i x hx => by
      have hi : i < len := by have := (List.getElem?_eq_some_iff.1 hx).1; rw [e] at this; exact this
      rw [List.getElem?_map, List.getElem?_range hi] at hx
      exact ⟨hi, by simpa using hx⟩
    refine ⟨(List.range len).map q, e.symm, ⟨by rw [e]; exact hl, by rw [e]; omega, fun _ => ⟨a, rfl, fun i x hx => ?_⟩, fun i x hx => ?_⟩⟩
    · obtain ⟨hi, rfl⟩ := get i x hx
      exact (hq i hi).1
    · obtain ⟨hi, rfl⟩ := get i x hx
      exact (hq i hi).2
end
end Go.Proofs.YtbdocgddidcfeaaDoor
namespace Go.Proofs.YtbdocgddidcfeaaDoor
open Go.RowKit Go.Proofs.YtbdocgddidcfeaaDoorW.PrintWords Go.Proofs.YtbdocgddidcfeaaDoorW.PrintLast Go.Proofs.YtbdocgddidcfeaaDoorW.PrintMore
set_option linter.unusedVariables false
set_option linter.unusedSimpArgs false
theorem LinkM.ty {W : World} {g : Nat} {s : LS} {ws : List Nat} (h : LinkM W g s ws) : ∀ k ∈ ws, ∀ (cs : Array Value) (t : TypeId), W.heap[k]? = some (Obj.cells cs t (0, 0)) → t = 64 ∨ t = 58 := by
  obtain ⟨sv, ma, mp, gs, mb, h1, h2, h3, h4, h5, h6, h7, h8⟩ := h
  intro b hm cs t hc
  rw [h7] at hm
  simp only [wset, List.mem_append, List.mem_cons, List.not_mem_nil, or_false, Option.mem_toList] at hm
  rcases hm with ((rfl | rfl) | hm) | hm
  · rw [h1] at hc; injection hc with hc; injection hc with _ hc; exact .inl hc.symm
  · obtain ⟨es, clock, e, _⟩ := h3; rw [e] at hc; cases hc
  · rcases h2 with ⟨_, _, e⟩ | ⟨b', _, _, _, e, _, e3, _⟩
    · rw [e] at hm; cases hm
    · rw [e] at hm; cases hm; rw [e3] at hc; injection hc with hc; injection hc with _ hc; exact .inr hc.symm
  · rcases h4 with ⟨_, _, e⟩ | ⟨b', e, _, es, clock, e3, _⟩
    · rw [e] at hm; cases hm
    · rw [e] at hm; cases hm; rw [e3] at hc; cases hc
theorem LinkM.grown {W W' : World} {g : Nat} {s : LS} {ws : List Nat} {v : Option Nat} {t : TypeId} (h : LinkM W g s ws) (ht : t ≠ 64 ∧ t ≠ 58 ∧ t ≠ 5) (hv : ∀ b, v = some b → ∃ cs, W.heap[b]? = some (Obj.cells cs t (0, 0))) (hg : W.grownBy W' v) : LinkM W' g s ws := by
  refine h.frame (fun b hb => hg.block b (h.lt b hb) (fun e => ?_)) (fun b cs hb => (hg.block b (Array.getElem?_eq_some_iff.1 hb).1 (fun e => ?_)))
  · obtain ⟨cs, hc⟩ := hv b e.symm
    rcases h.ty b hb cs t hc with e | e
    · exact ht.1 e
    · exact ht.2.1 e
  · obtain ⟨cs', hc⟩ := hv b e.symm
    rw [hb] at hc
    injection hc with hc
    injection hc with _ hc
    exact ht.2.2 hc.symm
theorem grown_below {w W W' : World} {v : Option Nat} (hb : Below w.heap.size w W) (hg : W.grownBy W' v) (hv : ∀ b, v = some b → w.heap.size ≤ b) : Below w.heap.size w W' := by
  have hs := below_size hb
  exact ⟨hg.os.trans hb.os, hg.tape.trans hb.tape, hg.output.trans hb.output, Nat.le_trans hs hg.size, fun k hk => (hg.block k (by omega) (fun e => by have := hv k e.symm; omega)).trans (hb.block k hk)⟩
theorem One.grown {w : World} {g : Nat} {s : LS} {ws : List Nat} {W W' : World} {v : Option Nat} {t : TypeId} (E : One w g s ws W) (ht : t ≠ 64 ∧ t ≠ 58 ∧ t ≠ 5) (hv : ∀ b, v = some b → w.heap.size ≤ b ∧ ∃ cs, W.heap[b]? = some (Obj.cells cs t (0, 0))) (hg : W.grownBy W' v) : One w g s ws W' :=
  ⟨E.link.grown ht (fun b e => (hv b e).2) hg, E.own, grown_below E.below hg (fun b e => (hv b e).1)⟩
def lastOf (S : List Int) : List Int := S.drop (S.length - 64)
theorem sendS_sent {s : LS} {S : List Int} (h : s.sent = lastOf S) : (sendS s).sent = lastOf (S ++ [s.next]) := by
  unfold sendS lastOf at *
  simp only [h]
  by_cases hl : S.length < 64
  · rw [show S.length - 64 = 0 by omega, List.drop_zero, if_neg (by simp; omega), show (S ++ [s.next]).length - 64 = 0 by simp; omega, List.drop_zero]
  · have e : (S.drop (S.length - 64) ++ [s.next]).length = 65 := by simp; omega
    rw [if_pos (by rw [e]; decide)]
    rw [show (S ++ [s.next]).length - 64 = (S.length - 64) + 1 by simp; omega]
    have e2 : List.drop (S.length - 64) (S ++ [s.next]) = List.drop (S.length - 64) S ++ [s.next] := List.drop_append_of_le_length (by omega)
    rw [← List.drop_drop, e2]
theorem acked_len {s : LS} (h : Okay s) : (ackedF s).length ≤ 64 := Nat.le_trans (List.length_filter_le _ _) h.2.2.2.2.2.2.1
theorem cell_spot {w : World} {a : Addr} {v : Value} (h : w.cell? a = some v) : a.spot = none := by
  unfold World.cell? at h
  split at h
  · split at h
    · cases h
    · rename_i hs; simpa using hs
  · cases h
theorem One.acked {w : World} {g : Nat} {s : LS} {ws : List Nat} {W : World} (E : One w g s ws W) :
    Calls Tryd.prog 14 #[.pointer (some ⟨g, 0, none⟩)] W
      fun e w' => ∃ v, e = .returned v ∧ Kd.R (Kd.int .i64) 3 w' W.heap.size (fun _ => True) v (ackedF s) ∧ One w g s ws w' ∧ Below W.heap.size W w' := by
  refine (Acked_calls g s ws W E.link).mono ?_
  rintro e w' ⟨v, rfl, h1, h2⟩
  exact ⟨v, rfl, h1, E.more h2, h2⟩
theorem add_off (g o j : Nat) : (⟨g, o, none⟩ : Addr).add j = ⟨g, o + j, none⟩ := by unfold Addr.add; split <;> simp_all
theorem ActsIn.at {w : World} {A : Option Addr} {c : Nat} {X : List ActD} (h : ActsIn w A c X) (k : Nat) (hk : k < X.length) :
    ∃ ab ao what who which A2 c2 l, A = some ⟨ab, ao, none⟩ ∧ X[k]? = some ⟨what, who, which, (A2, l.length, c2), l⟩ ∧ w.cell? ⟨ab, ao + k * 4, none⟩ = some (.int .i64 what) ∧ w.cell? ⟨ab, ao + k * 4 + 1, none⟩ = some (.int .i64 who) ∧ w.cell? ⟨ab, ao + k * 4 + 2, none⟩ = some (.int .i64 which) ∧
      w.cell? ⟨ab, ao + k * 4 + 3, none⟩ = some (.slice A2 l.length c2) ∧ ByIn w (A2, l.length, c2) l ∧ w64 what ∧ w64 who ∧ w64 which := by
  obtain ⟨⟨ab, ao, sp⟩, hA, hc⟩ := h.at_ (by omega)
  obtain ⟨x, hx⟩ : ∃ x, X[k]? = some x := ⟨X[k], List.getElem?_eq_getElem hk⟩
  obtain ⟨h1, h2, h3, h4⟩ := hc k x hx
  obtain ⟨h5, h6, h7, h8⟩ := h.each k x hx
  obtain ⟨what, who, which, ⟨A2, n2, c2⟩, l⟩ := x
  have hn : n2 = l.length := h5.len
  subst hn
  have hsp := cell_spot (hc 0 X[0] (List.getElem?_eq_getElem (by omega))).1
  cases sp with
  | none =>
    rw [add_off] at h1 h2 h3 h4
    exact ⟨ab, ao, what, who, which, A2, c2, l, hA, hx, h1, h2, h3, h4, h5, h6, h7, h8⟩
  | some q =>
    unfold Addr.add at hsp
    split at hsp <;> simp_all
end Go.Proofs.YtbdocgddidcfeaaDoor
namespace Go.Proofs.YtbdocgddidcfeaaDoor
open Go.RowKit Go.Proofs.YtbdocgddidcfeaaDoorW.PrintWords Go.Proofs.YtbdocgddidcfeaaDoorW.PrintLast Go.Proofs.YtbdocgddidcfeaaDoorW.PrintMore
set_option linter.unusedVariables false
set_option linter.unusedSimpArgs false
theorem head_cases (s : LS) : (s.any = false ∧ headF s = [0, 0, 0, 0, 0, 0, 0]) ∨ (s.any = true ∧ headF s = [1, s.last / 256, s.last % 256, s.bits / 16777216, s.bits / 65536 % 256, s.bits / 256 % 256, s.bits % 256]) := by
  unfold headF
  cases s.any <;> simp
def partsOf (b : List Int) (R : List Nat) : List (Int × List Int) := R.map (fun i : Nat => ((i : Int), partF b i))
theorem head_range {s : LS} (h : Okay s) : ∀ x ∈ headF s, 0 ≤ x ∧ x < 256 := by
  obtain ⟨_, ⟨h1, h2⟩, ⟨h3, h4⟩, _⟩ := h
  rcases head_cases s with ⟨_, e⟩ | ⟨_, e⟩
  · rw [e]; intro x hx
    simp at hx
    omega
  · rw [e]; intro x hx
    simp only [List.mem_cons, List.not_mem_nil, or_false] at hx
    rcases hx with rfl | rfl | rfl | rfl | rfl | rfl | rfl <;> omega
theorem part_range' {b : List Int} (h : ∀ x ∈ b, 0 ≤ x ∧ x < 256) (i : Nat) : ∀ x ∈ partF b i, 0 ≤ x ∧ x < 256 := fun x hx => h x (List.mem_of_mem_drop (List.mem_of_mem_take hx))
theorem dg_range {s : LS} {n : Int} {b : List Int} {i : Nat} (h : Okay s) (hn : 0 ≤ n ∧ n < 65536) (hb : ∀ x ∈ b, 0 ≤ x ∧ x < 256) (hl : b.length ≤ 2000) (hi : i < manyF b.length) : ∀ x ∈ dgF s n b i, 0 ≤ x ∧ x < 256 := by
  have hm := manyF_le hl
  refine frameF_range _ ?_
  unfold rawF
  refine app_range (app_range (head_range h) ?_) (part_range' hb i)
  intro x hx
  simp only [List.mem_cons, List.not_mem_nil, or_false] at hx
  rcases hx with rfl | rfl | rfl | rfl <;> omega
theorem dg_small (s : LS) (n : Int) (b : List Int) (i : Nat) : (dgF s n b i).length ≤ 215 := by
  rw [dg_len]; omega
end Go.Proofs.YtbdocgddidcfeaaDoor
namespace Go.Proofs.YtbdocgddidcfeaaDoor
open Go.RowKit Go.Proofs.YtbdocgddidcfeaaDoorW.PrintWords Go.Proofs.YtbdocgddidcfeaaDoorW.PrintLast Go.Proofs.YtbdocgddidcfeaaDoorW.PrintMore
set_option linter.unusedVariables false
set_option linter.unusedSimpArgs false
theorem rf_move {base : Nat} {w w1 : World} {v : Value} {xs : List Int} (h : RS base w v xs) (hu : ∀ (b : Nat) (cs : Array Value), w.heap[b]? = some (Obj.cells cs 5 (0, 0)) → w1.heap[b]? = w.heap[b]?) : RS base w1 v xs := by
  obtain ⟨sp, h⟩ := h
  refine ⟨sp, ?_⟩
  rcases h with h | ⟨gb, h1, h2, h3, h4⟩
  · exact .inl h
  · exact .inr ⟨gb, h1, h2, (hu _ _ h3).trans h3, h4⟩
theorem grown_far {W W' : World} {v : Option Nat} (hv : ∀ b, v = some b → ∃ cs, W.heap[b]? = some (Obj.cells cs 3 (0, 0))) (hg : W.grownBy W' v) : ∀ (b : Nat) (cs : Array Value) (t : TypeId), W.heap[b]? = some (Obj.cells cs t (0, 0)) → t ≠ 3 → W'.heap[b]? = W.heap[b]? :=
  fun b cs t hb ht => hg.block b (Array.getElem?_eq_some_iff.1 hb).1 (fun e => by
    obtain ⟨cs', hc⟩ := hv b e.symm
    rw [hb] at hc
    injection hc with hc
    injection hc with _ hc
    exact ht hc)
theorem DgRows.grown {W W' : World} {base : Nat} {v0 : Value} {D : Nat → List Int} {T : List Tri} {v : Option Nat} (h : DgRows base W v0 D T) (hv : ∀ b, v = some b → ∃ cs, W.heap[b]? = some (Obj.cells cs 3 (0, 0))) (hg : W.grownBy W' v) : DgRows base W' v0 D T := by
  have hf := grown_far hv hg
  refine ⟨Kd.R_mono (Kd.R_move (Kd.R_bound h.1) (fun k hkk => ?_)) (fun _ _ => trivial), fun i x hx => rf_move (h.2.1 i x hx) (fun b cs hb => hf b cs _ hb (by decide)), h.2.2⟩
  obtain ⟨_, _, hlt, q, hq, cs, hc⟩ := hkk
  have hq' : q = 30 := by
    rcases List.mem_cons.1 hq with e | e
    · exact e
    · cases e
  subst hq'
  exact hf k cs _ hc (by decide)
theorem Ends.grown {w : World} {g1 : Nat} {s1 : LS} {ws1 : List Nat} {g2 : Nat} {s2 : LS} {ws2 : List Nat} {W W' : World} {v : Option Nat} (E : Ends w g1 s1 ws1 g2 s2 ws2 W) (hv : ∀ b, v = some b → w.heap.size ≤ b ∧ ∃ cs, W.heap[b]? = some (Obj.cells cs 3 (0, 0))) (hg : W.grownBy W' v) : Ends w g1 s1 ws1 g2 s2 ws2 W' :=
  ⟨E.one.grown (t := 3) (by decide) (fun b e => (hv b e).2) hg, E.two.grown (t := 3) (by decide) (fun b e => (hv b e).2) hg, E.apart, E.own1, E.own2, grown_below E.below hg (fun b e => (hv b e).1)⟩
end Go.Proofs.YtbdocgddidcfeaaDoor
namespace Go.Proofs.YtbdocgddidcfeaaDoor
open Go.RowKit Go.Proofs.YtbdocgddidcfeaaDoorW.PrintWords Go.Proofs.YtbdocgddidcfeaaDoorW.PrintLast Go.Proofs.YtbdocgddidcfeaaDoorW.PrintMore
set_option linter.unusedVariables false
set_option linter.unusedSimpArgs false
def numO (F : Int) (m : Nat) : Int := (F + (m : Int)) % 65536
theorem numO_range (F : Int) (m : Nat) : 0 ≤ numO F m ∧ numO F m < 65536 := by unfold numO; omega
def RecvO (F : Int) (S : List (List Int)) (told : Nat) (r : LS) : Prop :=
  (r.any = true → 0 < told ∧ r.last = numO F (told - 1)) ∧ (r.any = false → told = 0) ∧
  (r.waits = true → ∃ m b R, told ≤ m ∧ S[m]? = some b ∧ r.n = numO F m ∧ r.many = (manyF b.length : Int) ∧ r.parts = partsOf b R ∧ R.Nodup ∧ R.length < manyF b.length ∧ ∀ i ∈ R, i < manyF b.length)
def SendO (F : Int) (S : List (List Int)) (told : Nat) (s : LS) : Prop :=
  s.next = numO F S.length ∧ (∀ x ∈ s.sent, ∃ m, m < S.length ∧ x = numO F m) ∧ ∀ q ∈ s.acked, ∃ m, m < told ∧ q.1 = numO F m
theorem pdel_sub {α : Type} (x : Int) : ∀ p : List (Int × α), List.Sublist (pdel x p) p
  | [] => List.Sublist.refl _
  | q :: p => by
    unfold pdel
    split
    · exact List.sublist_cons_self q p
    · exact (pdel_sub x p).cons_cons q
theorem padd_mem {x : Int} {p : List (Int × Unit)} {q : Int × Unit} (h : q ∈ padd x p) : q ∈ p ∨ q.1 = x := by
  unfold padd at h
  split at h
  · exact .inl h
  · rcases List.mem_append.1 h with h | h
    · exact .inl h
    · rw [List.mem_singleton.1 h]; exact .inr rfl
theorem RecvO.more {F : Int} {S : List (List Int)} {told : Nat} {r : LS} (h : RecvO F S told r) (b : List Int) : RecvO F (S ++ [b]) told r := by
  obtain ⟨h1, h2, h3⟩ := h
  refine ⟨h1, h2, fun hw => ?_⟩
  obtain ⟨m, b', R, k1, k2, k3⟩ := h3 hw
  exact ⟨m, b', R, k1, by rw [List.getElem?_append_left (List.getElem?_eq_some_iff.1 k2).1]; exact k2, k3⟩
theorem RecvO.send {F : Int} {S : List (List Int)} {told : Nat} {r : LS} (h : RecvO F S told r) : RecvO F S told (sendS r) := h
theorem SendO.told {F : Int} {S : List (List Int)} {t t' : Nat} {s : LS} (h : SendO F S t s) (ht : t ≤ t') : SendO F S t' s :=
  ⟨h.1, h.2.1, fun q hq => by obtain ⟨m, h1, h2⟩ := h.2.2 q hq; exact ⟨m, by omega, h2⟩⟩
def DgO (F : Int) (S : List (List Int)) (d : List Int) : Prop := ∃ m s0 p b, S[m]? = some b ∧ Okay s0 ∧ b.length ≤ 2000 ∧ (∀ x ∈ b, 0 ≤ x ∧ x < 256) ∧ p < manyF b.length ∧ d = dgF s0 (numO F m) b p
theorem DgO.more {F : Int} {S : List (List Int)} {d : List Int} (h : DgO F S d) (b : List Int) : DgO F (S ++ [b]) d := by
  obtain ⟨m, s0, p, b', k2, k3⟩ := h
  exact ⟨m, s0, p, b', by rw [List.getElem?_append_left (List.getElem?_eq_some_iff.1 k2).1]; exact k2, k3⟩
theorem DgO.range {F : Int} {S : List (List Int)} {d : List Int} (h : DgO F S d) : (∀ x ∈ d, 0 ≤ x ∧ x < 256) ∧ d.length ≤ 215 := by
  obtain ⟨m, s0, p, b, h1, h2, h3, h4, h5, rfl⟩ := h
  exact ⟨dg_range h2 (numO_range F m) h4 h3 h5, dg_small _ _ _ _⟩
end Go.Proofs.YtbdocgddidcfeaaDoor
namespace Go.Proofs.YtbdocgddidcfeaaDoor
open Go.RowKit Go.Proofs.YtbdocgddidcfeaaDoorW.PrintWords Go.Proofs.YtbdocgddidcfeaaDoorW.PrintLast Go.Proofs.YtbdocgddidcfeaaDoorW.PrintMore
set_option linter.unusedVariables false
set_option linter.unusedSimpArgs false
structure SentRow (w W : World) (v : Value) (S : List (List Int)) : Prop where
  ex : ∃ TS, Kd.R KSl 30 W w.heap.size (fun _ => True) v TS ∧ TS.length = S.length ∧ ∀ (i : Nat) t s, TS[i]? = some t → S[i]? = some s → ByIn w t s
theorem sl_flat {base : Nat} {ok ok' : Nat → Prop} {W : World} {v : Value} {T : List Tri} (h : Kd.R KSl 30 W base ok v T) (hok : ∀ k, v.ownBlock = some k → ok k → ok' k) : Kd.R KSl 30 W base ok' v T := by
  obtain ⟨h0, inner, hown, hr⟩ := h
  exact ⟨fun k hk => hok k hk (h0 k hk), inner, hown, hr.imp_ (fun _ _ hm => hm)⟩
theorem sl_grown {W W' : World} {base : Nat} {v : Value} {T : List Tri} {u : Option Nat} (h : Kd.R KSl 30 W base (fun _ => True) v T) (hu : ∀ b, v.ownBlock = some b → u ≠ some b) (hg : W.grownBy W' u) : Kd.R KSl 30 W' base (fun _ => True) v T := by
  have h1 := sl_flat (ok' := fun k => v.ownBlock = some k) h (fun k hk _ => hk)
  refine sl_flat (Kd.R_move (Kd.R_bound h1) (fun k hk => hg.block k hk.2.2.1 (fun e => hu k hk.1 e.symm))) (fun _ _ _ => trivial)
theorem sl_own {W : World} {base : Nat} {v : Value} {T : List Tri} (h : Kd.R KSl 30 W base (fun _ => True) v T) : ∀ b, v.ownBlock = some b → base ≤ b ∧ b < W.heap.size ∧ ∃ cs, W.heap[b]? = some (Obj.cells cs 30 (0, 0)) := by
  intro b hb
  obtain ⟨_, h1, h2, q, hq, cs, hc⟩ := (Kd.R_bound h).1 b hb
  have hq' : q = 30 := by
    rcases List.mem_cons.1 hq with e | e
    · exact e
    · cases e
  subst hq'
  exact ⟨h1, h2, cs, hc⟩
theorem rs_grownT {W W' : World} {base : Nat} {x : Value} {l : List Int} {v : Option Nat} {t : TypeId} (h : RS base W x l) (ht : t ≠ 5) (hv : ∀ b, v = some b → ∃ cs, W.heap[b]? = some (Obj.cells cs t (0, 0))) (hg : W.grownBy W' v) : RS base W' x l :=
  rf_move h (fun b cs hb => hg.block b (Array.getElem?_eq_some_iff.1 hb).1 (fun e => by
    obtain ⟨cs', hc⟩ := hv b e.symm
    rw [hb] at hc
    injection hc with hc
    injection hc with _ hc
    exact ht hc.symm))
structure AllRow (w W : World) (v : Value) (D : List (List Int)) : Prop where
  ex : ∃ TA, Kd.R KSl 30 W w.heap.size (fun _ => True) v TA ∧ TA.length = D.length ∧ ∀ (i : Nat) t d, TA[i]? = some t → D[i]? = some d → RS w.heap.size W (triV t) d
def Sep (v u : Value) : Prop := ∀ b, v.ownBlock = some b → u.ownBlock ≠ some b
theorem AllRow.keeps {w W W' : World} {v : Value} {D : List (List Int)} {g : Nat} {s : LS} {ws : List Nat} (h : AllRow w W v D) (hl : LinkM W g s ws) (hk : Keeps W W' ws) : AllRow w W' v D := by
  obtain ⟨TA, h1, h2, h3⟩ := h.ex
  exact ⟨TA, sl_keeps h1 hl hk, h2, fun i t d ht hd => (h3 i t d ht hd).keeps hl hk⟩
theorem SentRow.keeps {w W W' : World} {v : Value} {S : List (List Int)} {g : Nat} {s : LS} {ws : List Nat} (h : SentRow w W v S) (hl : LinkM W g s ws) (hk : Keeps W W' ws) : SentRow w W' v S := by
  obtain ⟨TS, h1, h2, h3⟩ := h.ex
  exact ⟨TS, sl_keeps h1 hl hk, h2, h3⟩
theorem AllRow.below {w W W' : World} {v : Value} {D : List (List Int)} (h : AllRow w W v D) (hb : Below W.heap.size W W') : AllRow w W' v D := by
  obtain ⟨TA, h1, h2, h3⟩ := h.ex
  exact ⟨TA, Kd.R_below h1 hb, h2, fun i t d ht hd => (h3 i t d ht hd).below hb⟩
theorem SentRow.below {w W W' : World} {v : Value} {S : List (List Int)} (h : SentRow w W v S) (hb : Below W.heap.size W W') : SentRow w W' v S := by
  obtain ⟨TS, h1, h2, h3⟩ := h.ex
  exact ⟨TS, Kd.R_below h1 hb, h2, h3⟩
theorem AllRow.own {w W : World} {v : Value} {D : List (List Int)} (h : AllRow w W v D) : ∀ b, v.ownBlock = some b → w.heap.size ≤ b ∧ b < W.heap.size ∧ ∃ cs, W.heap[b]? = some (Obj.cells cs 30 (0, 0)) := by
  obtain ⟨TA, h1, _⟩ := h.ex
  exact sl_own h1
theorem SentRow.own {w W : World} {v : Value} {S : List (List Int)} (h : SentRow w W v S) : ∀ b, v.ownBlock = some b → w.heap.size ≤ b ∧ b < W.heap.size ∧ ∃ cs, W.heap[b]? = some (Obj.cells cs 30 (0, 0)) := by
  obtain ⟨TS, h1, _⟩ := h.ex
  exact sl_own h1
theorem AllRow.grown {w W W' : World} {v u : Value} {D : List (List Int)} (h : AllRow w W v D) (hs : Sep v u) (hu : ∀ b, u.ownBlock = some b → ∃ cs, W.heap[b]? = some (Obj.cells cs 30 (0, 0))) (hg : W.grownBy W' u.ownBlock) : AllRow w W' v D := by
  obtain ⟨TA, h1, h2, h3⟩ := h.ex
  exact ⟨TA, sl_grown h1 hs hg, h2, fun i t d ht hd => rs_grownT (h3 i t d ht hd) (by decide) hu hg⟩
theorem SentRow.grown {w W W' : World} {v u : Value} {S : List (List Int)} (h : SentRow w W v S) (hs : Sep v u) (hg : W.grownBy W' u.ownBlock) : SentRow w W' v S := by
  obtain ⟨TS, h1, h2, h3⟩ := h.ex
  exact ⟨TS, sl_grown h1 hs hg, h2, h3⟩
theorem SentRow.snoc {w W : World} {v : Value} {TS : List Tri} {S : List (List Int)} {t : Tri} {b : List Int} (h : Kd.R KSl 30 W w.heap.size (fun _ => True) v (TS ++ [t])) (hl : TS.length = S.length) (he : ∀ (i : Nat) t s, TS[i]? = some t → S[i]? = some s → ByIn w t s) (ht : ByIn w t b) : SentRow w W v (S ++ [b]) := by
  refine ⟨TS ++ [t], h, by simp [hl], fun i x s hx hs => ?_⟩
  by_cases hi : i < TS.length
  · rw [List.getElem?_append_left hi] at hx
    rw [List.getElem?_append_left (by omega)] at hs
    exact he i x s hx hs
  · rw [List.getElem?_append_right (by omega)] at hx hs
    rw [hl] at hx
    have h0 : i - S.length = 0 := by
      have := (List.getElem?_eq_some_iff.1 hx).1
      simpa using this
    rw [h0] at hx hs
    simp at hx hs
    subst hx; subst hs
    exact ht
end Go.Proofs.YtbdocgddidcfeaaDoor
namespace Go.Proofs.YtbdocgddidcfeaaDoor
open Go.RowKit Go.Proofs.YtbdocgddidcfeaaDoorW.PrintWords Go.Proofs.YtbdocgddidcfeaaDoorW.PrintLast Go.Proofs.YtbdocgddidcfeaaDoorW.PrintMore
set_option linter.unusedVariables false
set_option linter.unusedSimpArgs false
def tb (b : Int) (i : Nat) : Bool := decide (b / 2 ^ i % 2 = 1)
theorem tb_nat (b i : Nat) : tb (b : Int) i = b.testBit i := by
  unfold tb
  rw [Nat.testBit_eq_decide_div_mod_eq]
  refine decide_eq_decide.2 ?_
  rw [show ((2 : Int) ^ i) = ((2 ^ i : Nat) : Int) by rw [Int.natCast_pow]; rfl]
  constructor <;> intro h <;> exact_mod_cast h
theorem tb_zero (i : Nat) : tb 0 i = false := by
  have := tb_nat 0 i
  rw [Nat.zero_testBit] at this
  exact this
theorem tell_tb (b k : Int) (i : Nat) (hb : 0 ≤ b ∧ b < 4294967296) (hk : 1 ≤ k) (hi : i < 32) :
    tb (tellBits b k) i = if k.toNat ≤ i then tb b (i - k.toNat) else decide (i = k.toNat - 1) := by
  obtain ⟨c, rfl⟩ : ∃ n : Nat, b = (n : Int) := ⟨b.toNat, by omega⟩
  obtain ⟨j, rfl⟩ : ∃ n : Nat, k = (n : Int) := ⟨k.toNat, by omega⟩
  unfold tellBits
  rw [Int.toNat_natCast, show ((j : Int) - 1).toNat = j - 1 by omega]
  have e1 : ((c : Int) * 2 ^ (min j 32) % 4294967296) = ((c * 2 ^ (min j 32) % 4294967296 : Nat) : Int) := by
    rw [Int.natCast_emod, Int.natCast_mul, Int.natCast_pow]; rfl
  have e2 : ((2 : Int) ^ (min (j - 1) 32) % 4294967296) = ((2 ^ (min (j - 1) 32) % 4294967296 : Nat) : Int) := by
    rw [Int.natCast_emod, Int.natCast_pow]; rfl
  rw [e1, e2, u32_or_nat _ _ (Nat.mod_lt _ (by decide)) (Nat.mod_lt _ (by decide)), tb_nat, Nat.testBit_or, show (4294967296 : Nat) = 2 ^ 32 from rfl, Nat.testBit_mod_two_pow, Nat.testBit_mod_two_pow, Nat.testBit_mul_two_pow, Nat.testBit_two_pow, tb_nat]
  simp only [decide_eq_true hi, Bool.true_and]
  by_cases h : j ≤ i
  · rw [if_pos h, show min j 32 = j by omega, show min (j - 1) 32 = j - 1 by omega]
    simp [h]
    intro e; omega
  · rw [if_neg h]
    by_cases h32 : j ≤ 32
    · rw [show min j 32 = j by omega, show min (j - 1) 32 = j - 1 by omega]
      simp [h]
      try (constructor <;> intro e <;> omega)
      try omega
    · rw [show min j 32 = 32 by omega, show min (j - 1) 32 = 32 by omega]
      simp [show ¬ 32 ≤ i by omega]
      omega
def byF (b : Int) (k j : Nat) : Int := b % 2 ^ k / 2 ^ (8 * j) % 256
theorem byF_zero (b : Int) (j : Nat) : byF b 0 j = 0 := by unfold byF; simp
theorem byF_last (b : Int) (hb : 0 ≤ b ∧ b < 4294967296) : byF b 32 0 = b % 256 ∧ byF b 32 1 = b / 256 % 256 ∧ byF b 32 2 = b / 65536 % 256 ∧ byF b 32 3 = b / 16777216 := by
  unfold byF
  refine ⟨?_, ?_, ?_, ?_⟩ <;> simp only [show (2 : Int) ^ 32 = 4294967296 from rfl, Nat.mul_zero, Nat.mul_one, show (2 : Int) ^ 0 = 1 from rfl, show (2 : Int) ^ 8 = 256 from rfl, show (2 : Int) ^ (8 * 2) = 65536 from rfl, show (2 : Int) ^ (8 * 3) = 16777216 from rfl] <;> omega
theorem byF_range (b : Int) (k j : Nat) : 0 ≤ byF b k j ∧ byF b k j < 256 := by unfold byF; omega
theorem lt32 {k : Nat} (h : k < 32) : k = 0 ∨ k = 1 ∨ k = 2 ∨ k = 3 ∨ k = 4 ∨ k = 5 ∨ k = 6 ∨ k = 7 ∨ k = 8 ∨ k = 9 ∨ k = 10 ∨ k = 11 ∨ k = 12 ∨ k = 13 ∨ k = 14 ∨ k = 15 ∨ k = 16 ∨ k = 17 ∨ k = 18 ∨ k = 19 ∨ k = 20 ∨ k = 21 ∨ k = 22 ∨ k = 23 ∨ k = 24 ∨ k = 25 ∨ k = 26 ∨ k = 27 ∨ k = 28 ∨ k = 29 ∨ k = 30 ∨ k = 31 := by omega
theorem byF_step (b : Int) (k j : Nat) (hk : k < 32) (hj : j < 4) (hb : 0 ≤ b) :
    byF b (k + 1) j = byF b k j + (if j = k / 8 ∧ tb b k = true then 2 ^ (k % 8) else 0) ∧ (j = k / 8 → byF b k j < 2 ^ (k % 8)) := by
  unfold byF tb
  have hj4 : j = 0 ∨ j = 1 ∨ j = 2 ∨ j = 3 := by omega
  rcases lt32 hk with h | h | h | h | h | h | h | h | h | h | h | h | h | h | h | h | h | h | h | h | h | h | h | h | h | h | h | h | h | h | h | h <;> subst h <;>
    rcases hj4 with e | e | e | e <;> subst e <;> simp <;> (try split) <;> omega
theorem hit_bit (b3 b4 b5 b6 : Int) (k : Nat) (hk : k < 32) (h3 : 0 ≤ b3 ∧ b3 < 256) (h4 : 0 ≤ b4 ∧ b4 < 256) (h5 : 0 ≤ b5 ∧ b5 < 256) (h6 : 0 ≤ b6 ∧ b6 < 256) :
    (b3 * 16777216 + b4 * 65536 + b5 * 256 + b6) / 2 ^ k % 2 = (if k / 8 = 0 then b6 else if k / 8 = 1 then b5 else if k / 8 = 2 then b4 else b3) / 2 ^ (k % 8) % 2 := by
  rcases lt32 hk with h | h | h | h | h | h | h | h | h | h | h | h | h | h | h | h | h | h | h | h | h | h | h | h | h | h | h | h | h | h | h | h <;> subst h <;> simp <;> omega
end Go.Proofs.YtbdocgddidcfeaaDoor
