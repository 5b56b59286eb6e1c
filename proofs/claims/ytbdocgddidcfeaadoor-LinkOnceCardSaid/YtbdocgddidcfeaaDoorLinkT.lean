/- Own rows beside a link; LinkHeard. -/
import Derived.Test.YtbdocgddidcfeaaDoorLinkS
namespace Go.Proofs.YtbdocgddidcfeaaDoor
open Go.RowKit Go.Proofs.YtbdocgddidcfeaaDoorW.PrintWords Go.Proofs.YtbdocgddidcfeaaDoorW.PrintLast Go.Proofs.YtbdocgddidcfeaaDoorW.PrintMore
set_option linter.unusedVariables false
set_option linter.unusedSimpArgs false

/-- The types of the blocks that a link writes. -/
theorem LinkM.ty {W : World} {g : Nat} {s : LS} {ws : List Nat} (h : LinkM W g s ws) : ∀ k ∈ ws, ∀ (cs : Array Value) (t : TypeId), W.heap[k]? = some (Obj.cells cs t (0, 0)) → t = 64 ∨ t = 58 := by
  obtain ⟨sv, ma, mp, gs, mb, h1, h2, h3, h4, h5, h6, h7, h8⟩ := h
  intro b hm cs t hc
  rw [h7] at hm
  simp only [wset, List.mem_append, List.mem_cons, List.not_mem_nil, or_false, Option.mem_toList] at hm
  rcases hm with ((rfl | rfl) | hm) | hm
  · rw [h1] at hc; injection hc with hc; injection hc with _ hc; exact .inl hc.symm
  · obtain ⟨es, clock, e, _⟩ := h3; rw [e] at hc; cases hc
  · rcases h2 with ⟨_, _, e⟩ | ⟨b', _, _, _, e, _, e3, _⟩
    · rw [e] at hm; cases hm
    · rw [e] at hm; cases hm; rw [e3] at hc; injection hc with hc; injection hc with _ hc; exact .inr hc.symm
  · rcases h4 with ⟨_, _, e⟩ | ⟨b', e, _, es, clock, e3, _⟩
    · rw [e] at hm; cases hm
    · rw [e] at hm; cases hm; rw [e3] at hc; cases hc
theorem ints_keeps {W W' : World} {base g : Nat} {s : LS} {ws : List Nat} {v : Value} {T : List Int} (h : Kd.R (Kd.int .i64) 3 W base (fun _ => True) v T) (hl : LinkM W g s ws) (hk : Keeps W W' ws) : Kd.R (Kd.int .i64) 3 W' base (fun _ => True) v T := by
  refine Kd.R_mono (Kd.R_move (Kd.R_bound h) (fun k hkk => ?_)) (fun _ _ => trivial)
  obtain ⟨_, _, hlt, q, hq, cs, hc⟩ := hkk
  refine hk.2.2.2.2 k hlt (fun hm => ?_)
  have hq' : q = 3 := by
    rcases List.mem_cons.1 hq with e | e
    · exact e
    · cases e
  subst hq'
  rcases hl.ty k hm cs _ hc with e | e <;> cases e
/-- Own memory of another type grows beside the link. -/
theorem LinkM.grown {W W' : World} {g : Nat} {s : LS} {ws : List Nat} {v : Option Nat} {t : TypeId} (h : LinkM W g s ws) (ht : t ≠ 64 ∧ t ≠ 58 ∧ t ≠ 5) (hv : ∀ b, v = some b → ∃ cs, W.heap[b]? = some (Obj.cells cs t (0, 0))) (hg : W.grownBy W' v) : LinkM W' g s ws := by
  refine h.frame (fun b hb => hg.block b (h.lt b hb) (fun e => ?_)) (fun b cs hb => (hg.block b (Array.getElem?_eq_some_iff.1 hb).1 (fun e => ?_)))
  · obtain ⟨cs, hc⟩ := hv b e.symm
    rcases h.ty b hb cs t hc with e | e
    · exact ht.1 e
    · exact ht.2.1 e
  · obtain ⟨cs', hc⟩ := hv b e.symm
    rw [hb] at hc
    injection hc with hc
    injection hc with _ hc
    exact ht.2.2 hc.symm
theorem grown_below {w W W' : World} {v : Option Nat} (hb : Below w.heap.size w W) (hg : W.grownBy W' v) (hv : ∀ b, v = some b → w.heap.size ≤ b) : Below w.heap.size w W' := by
  have hs := below_size hb
  exact ⟨hg.os.trans hb.os, hg.tape.trans hb.tape, hg.output.trans hb.output, Nat.le_trans hs hg.size, fun k hk => (hg.block k (by omega) (fun e => by have := hv k e.symm; omega)).trans (hb.block k hk)⟩
theorem One.grown {w : World} {g : Nat} {s : LS} {ws : List Nat} {W W' : World} {v : Option Nat} {t : TypeId} (E : One w g s ws W) (ht : t ≠ 64 ∧ t ≠ 58 ∧ t ≠ 5) (hv : ∀ b, v = some b → w.heap.size ≤ b ∧ ∃ cs, W.heap[b]? = some (Obj.cells cs t (0, 0))) (hg : W.grownBy W' v) : One w g s ws W' :=
  ⟨E.link.grown ht (fun b e => (hv b e).2) hg, E.own, grown_below E.below hg (fun b e => (hv b e).1)⟩
theorem ints_own {W : World} {base : Nat} {v : Value} {T : List Int} (h : Kd.R (Kd.int .i64) 3 W base (fun _ => True) v T) : ∀ b, v.ownBlock = some b → base ≤ b ∧ ∃ cs, W.heap[b]? = some (Obj.cells cs 3 (0, 0)) := by
  intro b hb
  obtain ⟨_, h1, h2, q, hq, cs, hc⟩ := (Kd.R_bound h).1 b hb
  have hq' : q = 3 := by
    rcases List.mem_cons.1 hq with e | e
    · exact e
    · cases e
  subst hq'
  exact ⟨h1, cs, hc⟩

/-! ### what is heard was sent -/
def lastOf (S : List Int) : List Int := S.drop (S.length - 64)
theorem recvF_sent (s : LS) (d : List Int) : (recvF s d).1.sent = s.sent := by
  unfold recvF
  split
  · rfl
  · simp only []
    generalize (opF d).1 = b
    generalize rd b 7 * 256 + rd b 8 = N
    by_cases c1 : s.any = true ∧ newerF N s.last = false
    · rw [if_pos c1]
    · rw [if_neg c1]
      by_cases c2 : s.waits = true ∧ N ≠ s.n ∧ newerF N s.n = false
      · rw [if_pos c2]
      · rw [if_neg c2]
        by_cases c3 : s.waits = true ∧ N = s.n
        · simp only [if_pos c3]
          split
          · rfl
          · split
            · rfl
            · split
              · rfl
              · rfl
        · simp only [if_neg c3]
          split
          · rfl
          · split
            · rfl
            · split
              · rfl
              · rfl
theorem sendS_sent {s : LS} {S : List Int} (h : s.sent = lastOf S) : (sendS s).sent = lastOf (S ++ [s.next]) := by
  unfold sendS lastOf at *
  simp only [h]
  by_cases hl : S.length < 64
  · rw [show S.length - 64 = 0 by omega, List.drop_zero, if_neg (by simp; omega), show (S ++ [s.next]).length - 64 = 0 by simp; omega, List.drop_zero]
  · have e : (S.drop (S.length - 64) ++ [s.next]).length = 65 := by simp; omega
    rw [if_pos (by rw [e]; decide)]
    rw [show (S ++ [s.next]).length - 64 = (S.length - 64) + 1 by simp; omega]
    have e2 : List.drop (S.length - 64) (S ++ [s.next]) = List.drop (S.length - 64) S ++ [s.next] := List.drop_append_of_le_length (by omega)
    rw [← List.drop_drop, e2]
theorem acked_sub {s : LS} {S : List Int} (h : s.sent = lastOf S) : List.Sublist (ackedF s) (S.drop (S.length - 64)) := by
  unfold ackedF
  rw [h]
  exact List.filter_sublist
theorem sub_skip {x : Int} {r S : List Int} {k : Nat} (h : List.Sublist (x :: r) (S.drop k)) (hk : k < S.length) (hne : rd S (k : Int) ≠ x) : List.Sublist (x :: r) (S.drop (k + 1)) := by
  rw [List.drop_eq_getElem_cons hk] at h
  rcases List.sublist_cons_iff.1 h with h | ⟨r', e, h⟩
  · exact h
  · injection e with e1 e2
    rw [rd_get' hk] at hne
    exact absurd e1.symm hne
theorem sub_take {x : Int} {r S : List Int} {k : Nat} (h : List.Sublist (x :: r) (S.drop k)) (hk : k < S.length) (he : rd S (k : Int) = x) : List.Sublist r (S.drop (k + 1)) := by
  rw [List.drop_eq_getElem_cons hk] at h
  rcases List.sublist_cons_iff.1 h with h | ⟨r', e, h⟩
  · exact (List.sublist_cons_self x r).trans h
  · injection e with e1 e2
    subst e2
    exact h
theorem sub_end {x : Int} {r S : List Int} {k : Nat} (h : List.Sublist (x :: r) (S.drop k)) : k < S.length := by
  refine Nat.lt_of_not_le (fun hk => ?_)
  rw [List.drop_eq_nil_of_le hk] at h
  cases h
theorem acked_len {s : LS} (h : Okay s) : (ackedF s).length ≤ 64 := Nat.le_trans (List.length_filter_le _ _) h.2.2.2.2.2.2.1

theorem cell_spot {w : World} {a : Addr} {v : Value} (h : w.cell? a = some v) : a.spot = none := by
  unfold World.cell? at h
  split at h
  · split at h
    · cases h
    · rename_i hs; simpa using hs
  · cases h
theorem One.acked {w : World} {g : Nat} {s : LS} {ws : List Nat} {W : World} (E : One w g s ws W) :
    Calls Tryd.prog 14 #[.pointer (some ⟨g, 0, none⟩)] W
      fun e w' => ∃ v, e = .returned v ∧ Kd.R (Kd.int .i64) 3 w' W.heap.size (fun _ => True) v (ackedF s) ∧ One w g s ws w' ∧ Below W.heap.size W w' := by
  refine (Acked_calls g s ws W E.link).mono ?_
  rintro e w' ⟨v, rfl, h1, h2⟩
  exact ⟨v, rfl, h1, E.more h2, h2⟩
theorem add_off (g o j : Nat) : (⟨g, o, none⟩ : Addr).add j = ⟨g, o + j, none⟩ := by unfold Addr.add; split <;> simp_all
theorem ActsIn.at {w : World} {A : Option Addr} {c : Nat} {X : List ActD} (h : ActsIn w A c X) (k : Nat) (hk : k < X.length) :
    ∃ ab ao what who which A2 c2 l, A = some ⟨ab, ao, none⟩ ∧ X[k]? = some ⟨what, who, which, (A2, l.length, c2), l⟩ ∧ w.cell? ⟨ab, ao + k * 4, none⟩ = some (.int .i64 what) ∧ w.cell? ⟨ab, ao + k * 4 + 1, none⟩ = some (.int .i64 who) ∧ w.cell? ⟨ab, ao + k * 4 + 2, none⟩ = some (.int .i64 which) ∧
      w.cell? ⟨ab, ao + k * 4 + 3, none⟩ = some (.slice A2 l.length c2) ∧ ByIn w (A2, l.length, c2) l ∧ w64 what ∧ w64 who ∧ w64 which := by
  obtain ⟨⟨ab, ao, sp⟩, hA, hc⟩ := h.at_ (by omega)
  obtain ⟨x, hx⟩ : ∃ x, X[k]? = some x := ⟨X[k], List.getElem?_eq_getElem hk⟩
  obtain ⟨h1, h2, h3, h4⟩ := hc k x hx
  obtain ⟨h5, h6, h7, h8⟩ := h.each k x hx
  obtain ⟨what, who, which, ⟨A2, n2, c2⟩, l⟩ := x
  have hn : n2 = l.length := h5.len
  subst hn
  have hsp := cell_spot (hc 0 X[0] (List.getElem?_eq_getElem (by omega))).1
  cases sp with
  | none =>
    rw [add_off] at h1 h2 h3 h4
    exact ⟨ab, ao, what, who, which, A2, c2, l, hA, hx, h1, h2, h3, h4, h5, h6, h7, h8⟩
  | some q =>
    unfold Addr.add at hsp
    split at hsp <;> simp_all

set_option maxHeartbeats 8000000 in
set_option maxRecDepth 100000 in
theorem LinkHeard_calls (first : Int) (A : Option Addr) (c : Nat) (X : List ActD) (w : World) (hT : Tab w) (hR : ActsIn w A c X) :
    Calls Tryd.prog 5 #[.int .i64 first, .slice A X.length c] w fun e w' => e = .returned (.bool true) ∧ Below w.heap.size w w' := by
  have HT := Aside0.mk hT; have HR := Aside0.mk hR
  have hsm := hR.small
  obtain ⟨n, hn⟩ : ∃ n, n = X.length := ⟨_, rfl⟩
  rw [← hn] at hsm ⊢
  have HN := Aside0.mk hn
  clear hT hR hn
  go_enter Tryd.func5, Tryd.ntmps5
  go_wp2_with fail
  ((with_reducible refine (awake_calls w HT.out).mono ?_); rintro e_ W1 ⟨rfl, hb1⟩)
  have HB := Aside0.mk hb1
  clear hb1
  go_wp2_with fail
  ((with_reducible refine (One.new first w W1 HB.out).mono ?_); rintro e_ W2 ⟨g, ws0, rfl, hE0⟩)
  have HE0 := Aside0.mk hE0
  clear hE0 HB
  go_wp2
  go_loopw [7, 8] (fun vs vi wr => ∃ (k : Nat) (s : LS) (ws : List Nat) (S : List Int), vi = .int .i64 k ∧ k ≤ n ∧ k ≤ 200 ∧ Aside0 (One w g s ws wr) ∧ Aside0 (Kd.R (Kd.int .i64) 3 wr w.heap.size (fun _ => True) vs S) ∧ Aside0 (s.sent = lastOf S) ∧ S.length ≤ k) (fun _ vi _ => (n - (intOf vi).toNat))
  case atStart => exact ⟨0, newS first, ws0, [], rfl, by omega, by omega, HE0, ⟨Kd.R_nil _ _ _ _ _⟩, ⟨rfl⟩, by simp⟩
  case round =>
    obtain ⟨k, s, ws, S, rfl, hk1, hk2, HE, HS, HSS, hSk⟩ := hrel
    by_cases hx : k < n
    · have dx : decide (k < n) = true := decide_eq_true hx
      by_cases hy : k < 200
      · have dy : decide (k < 200) = true := decide_eq_true hy
        have dy' : decide ((k : Int) < 200) = true := decide_eq_true (by omega)
        obtain ⟨ab, ao, what, who, which, A2, c2, l, rfl, hX, hc0, _, _, hc3, _, hw0, _, _⟩ := (HR.out.below HE.out.below).at k (by have := HN.out; omega)
        have hby := (HR.out.each k _ hX).1
        have hcap : l.length ≤ c2 := hby.cap
        have hsml : l.length ≤ 140737488351232 := hby.small
        have hkept := hby.kept HE.out.below HE.out.own
        change ∀ W', Keeps wr W' ws → Kd.C (Kd.int .u8) W' A2 l.length l at hkept
        have hC : Kd.C (Kd.int .u8) wr A2 l.length l := hkept wr (Keeps.refl _ _)
        obtain ⟨m, hm⟩ : ∃ m, m = l.length := ⟨_, rfl⟩
        rw [← hm] at hc3 hcap hsml
        have HM := Aside0.mk hm; have HBY := Aside0.mk hby; have HK := Aside0.mk hkept; have HC := Aside0.mk hC
        clear hm hby hkept hX hC hw0
        go_upto_if 39 with (fail)
        go_cut [7] (fun s7 wc => ∃ (s' : LS) (ws' : List Nat) (S' : List Int), Aside0 (One w g s' ws' wc) ∧ Aside0 (Kd.R (Kd.int .i64) 3 wc w.heap.size (fun _ => True) s7 S') ∧ Aside0 (s'.sent = lastOf S') ∧ S'.length ≤ k + 1)
        case first =>
          by_cases hd : what = 0
          · subst hd
            by_cases hz : m ≤ 2000
            · go_wp2_with fail
              ((with_reducible refine (HE.out.send HT.out A2 c2 m l HM.out.symm HK.out hcap HBY.out.byte hz).mono ?_); rintro e_ W3 ⟨v, T2, B, ws2, rfl, hTl, hB, hD, hE, hk⟩)
              have hS3 := ints_keeps HS.out HE.out.link hk
              have HE3 := Aside0.mk hE; have HS3 := Aside0.mk hS3
              have HSS3 := Aside0.mk (sendS_sent HSS.out)
              clear hTl hB hD hE hk hS3 HE HS HSS HK
              obtain ⟨nx, hnx⟩ : ∃ nx, nx = s.next := ⟨_, rfl⟩
              rw [← hnx] at HSS3 ⊢
              have HNX := Aside0.mk hnx
              clear hnx
              go_wp2_with (first | ((with_reducible refine gate_builtin (b := .append) (xs := #[.tmp 53, .tmp 55]) rfl ?_); at_builtin; refine Kd.R_append_rows (Kd.int .i64) (w0 := w) w.heap.size rfl (.tmp 53) (.tmp 55) 33 3 (.int .i64 0) 8 rfl Tryd.underlying33 infoI rfl (by decide) (by omega) _ S [nx] _ _ _ (fun _ => True) (fun _ => False) rfl rfl ?aO ?aR (fun _ _ h => h) (fun _ h => h.elim) ?aF ?aB ?aS ?aL ?_; (case aR => exact (C_int1 W3 .i64 nx _)); (case aB => exact below_alloc HE3.out.below _); (case aF => exact (fun _ _ => trivial)); (case aO => exact Kd.R_alloc HS3.out _); (case aS => exact (below_size (below_alloc HE3.out.below _))); (case aL => (show (S.length + 1) * 8 ≤ 140737488355328; omega)); intro v1 w1 ho hb hg hat; have HE4 := Aside0.mk ((HE3.out.more (below_alloc (Below.refl _ _) _)).grown (by decide) (ints_own (Kd.R_alloc HS3.out _)) hg); have HS4 := Aside0.mk ho; clear HE3 HS3 ho hb hg hat))
              go_meet
              case rel => exact ⟨_, ws2, _, HE4, HS4, HSS3, by simp; omega⟩
            · go_wp2_with fail
              ((with_reducible refine (Send_long _ _ _ _ _ (by omega)).mono ?_); rintro e_ W3 ⟨rfl, rfl⟩)
              go_wp2
              go_meet
              case rel => exact ⟨s, ws, S, HE, HS, HSS, by omega⟩
          · have hd' : (what == 0) = false := by simpa using hd
            go_wp2_with fail
            ((with_reducible refine (HE.out.recv HT.out A2 c2 m l HM.out.symm HC.out hcap HBY.out.byte hsml).mono ?_); rintro e_ W3 ⟨v, ws2, rfl, _, hE, hk⟩)
            have hS3 := ints_keeps HS.out HE.out.link hk
            have HE3 := Aside0.mk hE; have HS3 := Aside0.mk hS3
            clear hE hk hS3
            go_wp2
            go_meet
            case rel => exact ⟨_, ws2, S, HE3, HS3, ⟨by rw [recvF_sent]; exact HSS.out⟩, by omega⟩
        case rest =>
          obtain ⟨s', ws', S', HE', HS', HSS', hSk'⟩ := hcut
          clear hc0 hc3 hcap hsml dx dy dy' HE HS HSS HC HK
          go_wp2_with fail
          ((with_reducible refine HE'.out.acked.mono ?_); rintro e_ W5 ⟨va, rfl, hA, hE5, hb5⟩)
          have hS5 := Kd.R_below HS'.out hb5
          obtain ⟨As, cs, hvs, hls, hCs⟩ := Kd.R_reads hS5
          obtain ⟨Aa, ca, hva, hla, hCa⟩ := Kd.R_reads hA
          subst hvs; subst hva
          have hsub := acked_sub HSS'.out
          have hal := acked_len HE'.out.link.ok
          have HS5 := Aside0.mk hS5; have HE5 := Aside0.mk hE5; have HCS := Aside0.mk hCs; have HCA := Aside0.mk hCa
          have HSS5 := HSS'
          clear hS5 hA hE5 hb5 hCs hCa HE' HS' HSS'
          obtain ⟨L, hL⟩ : ∃ L, L = ackedF s' := ⟨_, rfl⟩
          rw [← hL] at HCA hsub hal hla ⊢
          obtain ⟨nl, hnl⟩ : ∃ nl, nl = L.length := ⟨_, rfl⟩
          obtain ⟨ns, hns⟩ : ∃ ns, ns = S'.length := ⟨_, rfl⟩
          rw [← hnl] at hal hla HCA ⊢
          rw [← hns] at hls hSk' hsub HCS HS5 ⊢
          have hmx : max 0 ((ns : Int) - 64) = ((ns - 64 : Nat) : Int) := by omega
          have HSUB := Aside0.mk hsub; have HL := Aside0.mk hnl; have HNS := Aside0.mk hns
          clear hsub hL hnl hns
          obtain ⟨p0, hp0⟩ : ∃ p0, p0 = ns - 64 := ⟨_, rfl⟩
          have hp0' : p0 ≤ ns := by omega
          rw [← hp0] at HSUB hmx
          clear hp0
          go_wp2
          clear hmx
          go_loopw [13, 14] (fun vk vj wr2 => ∃ (p j q : Nat), vk = .int .i64 p ∧ vj = .int .i64 j ∧ j ≤ nl ∧ p ≤ ns ∧ Aside0 (List.Sublist (L.drop j) (S'.drop p)) ∧ wr2 = W5.drewN q) (fun _ vj _ => (nl - (intOf vj).toNat))
          case atStart => exact ⟨p0, 0, 0, rfl, rfl, by omega, hp0', HSUB, rfl⟩
          case round =>
            obtain ⟨p, j, q, rfl, rfl, hj, hp, HSB, rfl⟩ := hrel
            by_cases hjl : j < nl
            · have dj : decide (j < nl) = true := decide_eq_true hjl
              have hjL : j < L.length := by have := HL.out; omega
              have hxd : L.drop j = rd L (j : Int) :: L.drop (j + 1) := by rw [List.drop_eq_getElem_cons hjL, rd_get' hjL]
              rw [hxd] at HSB
              obtain ⟨x, hx1⟩ : ∃ x, x = rd L (j : Int) := ⟨_, rfl⟩
              rw [← hx1] at HSB
              have HXE := Aside0.mk hx1
              clear hxd hx1
              go_wp2
              go_loopw [13] (fun vk wr3 => ∃ (p q : Nat), vk = .int .i64 p ∧ p ≤ ns ∧ Aside0 (List.Sublist (x :: L.drop (j + 1)) (S'.drop p)) ∧ wr3 = W5.drewN q) (fun vk _ => (ns - (intOf vk).toNat))
              case atStart => exact ⟨p, q, rfl, hp, HSB, rfl⟩
              case round =>
                clear HSB
                obtain ⟨p, q, rfl, hp, HSB, rfl⟩ := hrel
                have hpS : p < ns := by have := sub_end HSB.out; have := HNS.out; omega
                have dp : decide (p < ns) = true := decide_eq_true hpS
                obtain ⟨ads, eS, hcs⟩ := Kd.at_int HCS.out (p : Int) (by omega) (by omega)
                obtain ⟨ada, eA, hca⟩ := Kd.at_int HCA.out (j : Int) (by omega) (by omega)
                subst eS; subst eA
                rw [Int.toNat_natCast] at hcs hca
                rw [← HXE.out] at hca
                have hpS' : p < S'.length := by have := HNS.out; omega
                obtain ⟨y, hy1⟩ : ∃ y, y = rd S' (p : Int) := ⟨_, rfl⟩
                rw [← hy1] at hcs
                have HYE := Aside0.mk hy1
                clear hy1
                by_cases hxy : y = x
                · subst hxy
                  have HT1 := Aside0.mk (sub_take HSB.out hpS' HYE.out.symm)
                  clear HSB
                  go_wp2
                  go_quiet (fail)
                  go_wp2
                  exact ⟨⟨p + 1, j + 1, _, by go_num, by go_num, by omega, by omega, HT1, rfl⟩, by simp [intOf]; omega⟩
                · have hne : (y == x) = false := by simpa using hxy
                  have HT1 := Aside0.mk (sub_skip HSB.out hpS' (by rw [← HYE.out]; exact hxy))
                  clear HSB
                  go_wp2
                  go_quiet (fail)
                  go_wp2
                  exact ⟨⟨p + 1, _, by go_num, by omega, HT1, rfl⟩, by simp [intOf]; omega⟩
            · have dj : decide (j < nl) = false := decide_eq_false hjl
              go_wp2
              exact ⟨⟨k + 1, s', ws', S', by go_num, by omega, by omega, ⟨HE5.out.more (drawn_below ⟨q, rfl⟩)⟩, ⟨Kd.R_below HS5.out (drawn_below ⟨q, rfl⟩)⟩, HSS5, by have := HNS.out; omega⟩, by simp [intOf]; omega⟩
      · have dy : decide (k < 200) = false := decide_eq_false hy
        have dy' : decide ((k : Int) < 200) = false := decide_eq_false (by omega)
        go_wp2
        go_ret
        exact ⟨rfl, HE.out.below⟩
    · have dx : decide (k < n) = false := decide_eq_false hx
      go_wp2
      go_ret
      exact ⟨rfl, HE.out.below⟩
end Go.Proofs.YtbdocgddidcfeaaDoor
