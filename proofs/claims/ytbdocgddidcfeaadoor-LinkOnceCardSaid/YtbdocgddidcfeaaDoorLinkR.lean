/- Rows of byte rows that came in; Send of a long message; LinkParts. -/
import Derived.Test.YtbdocgddidcfeaaDoorLinkQ
namespace Go.Proofs.YtbdocgddidcfeaaDoor
open Go.RowKit Go.Proofs.YtbdocgddidcfeaaDoorW.PrintWords Go.Proofs.YtbdocgddidcfeaaDoorW.PrintLast Go.Proofs.YtbdocgddidcfeaaDoorW.PrintMore
set_option linter.unusedVariables false
set_option linter.unusedSimpArgs false

/-- A row of bytes that came in. -/
structure ByIn (w : World) (t : Tri) (l : List Int) : Prop where
  len : t.2.1 = l.length
  cap : l.length ≤ t.2.2
  C : Kd.C (Kd.int .u8) w t.1 l.length l
  byte : ∀ x ∈ l, 0 ≤ x ∧ x < 256
  small : l.length ≤ 140737488351232
/-- Rows of bytes that came in. -/
structure RowsIn (w : World) (A : Option Addr) (c : Nat) (T : List Tri) (L : List (List Int)) : Prop where
  len : T.length = L.length
  cap : T.length ≤ c
  C : Kd.C KSl w A T.length T
  row : ∀ (i : Nat) t l, T[i]? = some t → L[i]? = some l → ByIn w t l
  small : T.length ≤ 140737488351232
theorem ByIn.below {w w' : World} {t : Tri} {l : List Int} (h : ByIn w t l) (hb : Below w.heap.size w w') : ByIn w' t l := ⟨h.len, h.cap, Kd.C_below h.C hb, h.byte, h.small⟩
theorem RowsIn.below {w w' : World} {A : Option Addr} {c : Nat} {T : List Tri} {L : List (List Int)} (h : RowsIn w A c T L) (hb : Below w.heap.size w w') : RowsIn w' A c T L :=
  ⟨h.len, h.cap, Kd.C_below h.C hb, fun i t l ht hl => (h.row i t l ht hl).below hb, h.small⟩
theorem RowsIn.at {w : World} {A : Option Addr} {c : Nat} {T : List Tri} {L : List (List Int)} (h : RowsIn w A c T L) (i : Int) (h0 : 0 ≤ i) (h1 : i < (T.length : Int)) :
    ∃ ad t l, A = some ad ∧ T[i.toNat]? = some t ∧ L[i.toNat]? = some l ∧ ByIn w t l ∧ w.cell? (ad.add i.toNat) = some (.slice t.1 l.length t.2.2) := by
  have hi : i.toNat < T.length := by omega
  have hi2 : i.toNat < L.length := by rw [← h.len]; exact hi
  obtain ⟨ad, hA, hc⟩ := h.C.2.2 (by omega)
  obtain ⟨cs, _, hK, hcell⟩ := hc i.toNat T[i.toNat] (List.getElem?_eq_getElem hi)
  have hr := h.row i.toNat T[i.toNat] L[i.toNat] (List.getElem?_eq_getElem hi) (List.getElem?_eq_getElem hi2)
  refine ⟨ad, T[i.toNat], L[i.toNat], hA, List.getElem?_eq_getElem hi, List.getElem?_eq_getElem hi2, hr, ?_⟩
  have h2 := hcell 0 (triV T[i.toNat]) (by rw [show cs = [triV T[i.toNat]] from hK]; rfl)
  rw [show i.toNat * KSl.sz + 0 = i.toNat from by show i.toNat * 1 + 0 = _; omega] at h2
  rw [h2]
  unfold triV
  rw [hr.len]
/-- A message that came in is read in each world that keeps it. -/
theorem ByIn.kept {w W : World} {t : Tri} {l : List Int} {ws : List Nat} (h : ByIn w t l) (hb : Below w.heap.size w W) (ho : ∀ k ∈ ws, w.heap.size ≤ k) : ∀ W', Keeps W W' ws → Kd.C (Kd.int .u8) W' t.1 l.length l := by
  intro W' hk
  refine Kd.C_below h.C ?_
  have hs := below_size hb
  refine ⟨hk.1.trans hb.os, hk.2.1.trans hb.tape, hk.2.2.1.trans hb.output, Nat.le_trans hs hk.2.2.2.1, fun k hlt => ?_⟩
  exact (hk.2.2.2.2 k (by omega) (fun hm => by have := ho k hm; omega)).trans (hb.block k hlt)

/-- One end alone. -/
structure One (w : World) (g : Nat) (s : LS) (ws : List Nat) (W : World) : Prop where
  link : LinkM W g s ws
  own : ∀ k ∈ ws, w.heap.size ≤ k
  below : Below w.heap.size w W
theorem One.more {w : World} {g : Nat} {s : LS} {ws : List Nat} {W W' : World} (h : One w g s ws W) (hb : Below W.heap.size W W') : One w g s ws W' := ⟨h.link.below hb, h.own, below_step h.below hb⟩
theorem One.step {w : World} {g : Nat} {s s' : LS} {ws ws' : List Nat} {W W' : World} (h : One w g s ws W) (hl : LinkM W' g s' ws') (hn : ∀ k ∈ ws', k ∈ ws ∨ W.heap.size ≤ k) (hk : Keeps W W' ws) : One w g s' ws' W' := by
  have hs := below_size h.below
  refine ⟨hl, fun k hk => ?_, ((Keeps.of_below h.below ws).trans hk (fun k hk => .inl hk)).below (Nat.le_refl _) h.own⟩
  rcases hn k hk with e | e
  · exact h.own k e
  · omega
theorem One.send {w : World} {g : Nat} {s : LS} {ws : List Nat} {W : World} (E : One w g s ws W) (hT : Tab w) (A : Option Addr) (c n : Nat) (b : List Int) (hn : b.length = n) (hC : ∀ W', Keeps W W' ws → Kd.C (Kd.int .u8) W' A b.length b) (hc : n ≤ c) (hb : ∀ x ∈ b, 0 ≤ x ∧ x < 256) (hL : n ≤ 2000) :
    Calls Tryd.prog 12 #[.pointer (some ⟨g, 0, none⟩), .slice A n c] W
      fun e w' => ∃ v T B ws', e = .returned (.tuple #[v, .int .i64 s.next, .int .i64 0]) ∧ T.length = manyF b.length ∧ w.heap.size ≤ B ∧ DgRows B w' v (dgF s s.next b) T ∧ One w g (sendS s) ws' w' ∧ Keeps W w' ws := by
  subst hn
  refine (Send_calls g s ws A c b W E.link hC hc hb hL (hT.below E.below) (E.link.out _ E.own hT.pos)).mono ?_
  rintro e w' ⟨v, T, ws', B, rfl, h1, h2, h3, h4, h5, h6, h7⟩
  exact ⟨v, T, B, ws', rfl, h1, Nat.le_trans (below_size E.below) h2, h4, E.step h5 h6 h7, h7⟩
theorem One.recv {w : World} {g : Nat} {s : LS} {ws : List Nat} {W : World} (E : One w g s ws W) (hT : Tab w) (A : Option Addr) (c n : Nat) (d : List Int) (hn : d.length = n) (hC : Kd.C (Kd.int .u8) W A d.length d) (hc : n ≤ c) (hd : ∀ x ∈ d, 0 ≤ x ∧ x < 256) (hl : n ≤ 140737488351232) :
    Calls Tryd.prog 13 #[.pointer (some ⟨g, 0, none⟩), .slice A n c] W
      fun e w' => ∃ v ws', e = .returned (.tuple #[v, .bool (recvF s d).2.2.1, .int .i64 (recvF s d).2.2.2]) ∧ RS W.heap.size w' v (recvF s d).2.1 ∧ One w g (recvF s d).1 ws' w' ∧ Keeps W w' ws := by
  subst hn
  refine (Receive_calls A c d g s ws W E.link hC hc hd hl (hT.below E.below)).mono ?_
  rintro e w' ⟨v, ws', rfl, h1, h2, h3, h4⟩
  exact ⟨v, ws', rfl, h1, E.step h2 h3 h4, h4⟩
theorem One.new (first : Int) (w W : World) (hb : Below w.heap.size w W) : Calls Tryd.prog 11 #[.int .i64 first] W fun e w' => ∃ g ws, e = .returned (.pointer (some ⟨g, 0, none⟩)) ∧ One w g (newS first) ws w' := by
  refine (New_calls first W).mono ?_
  rintro e w' ⟨g, ws, rfl, h1, h2, h3⟩
  exact ⟨g, ws, rfl, h1, fun k hk => by have := h2 k hk; have := below_size hb; omega, below_step hb h3⟩

set_option maxHeartbeats 4000000 in
set_option maxRecDepth 100000 in
/-- A message that is too long. -/
theorem Send_long (P : Option Addr) (A : Option Addr) (L c : Nat) (w : World) (hL : 2000 < L) :
    Calls Tryd.prog 12 #[.pointer P, .slice A L c] w fun e w' => e = .returned (.tuple #[.slice none 0 0, .int .i64 0, .int .i64 2]) ∧ w' = w := by
  have e1 : decide (2000 < (L : Int)) = true := decide_eq_true (by omega)
  have e2 : decide (2000 < L) = true := decide_eq_true hL
  clear hL
  go_enter Tryd.func12, Tryd.ntmps12
  go_wp2
  go_ret3
  exact ⟨rfl, rfl⟩

theorem dg_len (s : LS) (n : Int) (b : List Int) (i : Nat) : (dgF s n b i).length = 15 + min 200 (b.length - 200 * i) := by
  unfold dgF frameF
  rw [List.length_append, raw_len]
  unfold partF
  rw [List.length_take, List.length_drop]
  simp only [List.length_cons, List.length_nil]
  omega
/-- How long k datagrams are, but for what surrounds them. -/
theorem long_step (n : Nat) (k : Nat) : (min (200 * k) n : Nat) + ((15 + min 200 (n - 200 * k) : Nat) : Int) - 15 = ((min (200 * (k + 1)) n : Nat) : Int) := by omega
theorem many_covers (n : Nat) : min (200 * manyF n) n = n := by unfold manyF; omega

set_option maxHeartbeats 8000000 in
set_option maxRecDepth 100000 in
theorem LinkParts_calls (first : Int) (A : Option Addr) (c : Nat) (T : List Tri) (L : List (List Int)) (w : World) (hT : Tab w) (hR : RowsIn w A c T L) :
    Calls Tryd.prog 4 #[.int .i64 first, .slice A T.length c] w fun e w' => e = .returned (.bool true) ∧ Below w.heap.size w w' := by
  have HT := Aside0.mk hT; have HR := Aside0.mk hR
  have hsm := hR.small
  obtain ⟨n, hn⟩ : ∃ n, n = T.length := ⟨_, rfl⟩
  rw [← hn] at hsm ⊢
  have HN := Aside0.mk hn
  have hf := and_65535 first
  have hf1 : (newS first).next = first % 65536 := rfl
  rw [← hf1] at hf
  clear hT hR hn hf1
  go_enter Tryd.func4, Tryd.ntmps4
  go_wp2_with fail
  ((with_reducible refine (awake_calls w HT.out).mono ?_); rintro e_ W1 ⟨rfl, hb1⟩)
  have HB := Aside0.mk hb1
  clear hb1
  go_wp2_with fail
  ((with_reducible refine (One.new first w W1 HB.out).mono ?_); rintro e_ W2 ⟨g, ws0, rfl, hE0⟩)
  have HE0 := Aside0.mk hE0
  clear hE0 HB
  obtain ⟨s0, hs0⟩ : ∃ s0, s0 = newS first := ⟨_, rfl⟩
  rw [← hs0] at hf HE0
  clear hs0
  go_wp2
  go_loopw [7, 8] (fun vn vi wr => ∃ (k : Int) (s : LS) (ws : List Nat), vi = .int .i64 k ∧ 0 ≤ k ∧ k ≤ (n : Int) ∧ k ≤ 40 ∧ vn = .int .i64 s.next ∧ Aside0 (One w g s ws wr)) (fun _ vi _ => ((n : Int) - intOf vi).toNat)
  case atStart => exact ⟨0, s0, ws0, rfl, by omega, by omega, by omega, rfl, HE0⟩
  case round =>
    obtain ⟨k, s, ws, rfl, hk0, hk1, hk2, rfl, HE⟩ := hrel
    clear hf
    by_cases hx : k < (n : Int)
    · have dx : decide (k < (n : Int)) = true := decide_eq_true hx
      by_cases hy : k < 40
      · have dy : decide (k < 40) = true := decide_eq_true hy
        obtain ⟨ad, t, l, rfl, ht, hl, hby, hcell⟩ := (HR.out.below HE.out.below).at k hk0 (by have := HN.out; omega)
        have hby0 := HR.out.row k.toNat t l ht hl
        obtain ⟨A2, n2, c2⟩ := t
        have hnl : n2 = l.length := hby.len
        subst hnl
        change wr.cell? (ad.add k.toNat) = some (.slice A2 l.length c2) at hcell
        have hcap : l.length ≤ c2 := hby0.cap
        have hsml := hby0.small
        have hkept := hby0.kept HE.out.below HE.out.own
        change ∀ W', Keeps wr W' ws → Kd.C (Kd.int .u8) W' A2 l.length l at hkept
        obtain ⟨m, hm⟩ : ∃ m, m = l.length := ⟨_, rfl⟩
        rw [← hm] at hcell hcap hsml
        have HM := Aside0.mk hm; have HBY := Aside0.mk hby0; have HK := Aside0.mk hkept; have HTK := Aside0.mk ht; have HLK := Aside0.mk hl
        clear hm hby0 hkept hby ht hl
        by_cases hz : m ≤ 2000
        · have dz : decide ((m : Int) ≤ 2000) = true := decide_eq_true (by omega)
          have dz' : decide (m ≤ 2000) = true := decide_eq_true hz
          go_wp2_with fail
          ((with_reducible refine (HE.out.send HT.out A2 c2 m l HM.out.symm HK.out hcap HBY.out.byte hz).mono ?_); rintro e_ W3 ⟨v, T2, B, ws2, rfl, hTl, hB, hD, hE, hk⟩)
          obtain ⟨gb, cc, rfl, hgb, hgl, hcc, hat⟩ := sl_at hD.1 (by rw [hTl]; unfold manyF; omega)
          have hc3 : W3.cell? (ad.add k.toNat) = some (.slice A2 m c2) := by
            obtain ⟨ad', t', l', e1, e2, e3, _, e4⟩ := (HR.out.below hE.below).at k hk0 (by have := HN.out; omega)
            injection e1 with e1
            subst e1
            rw [HTK.out] at e2
            injection e2 with e2
            rw [HLK.out] at e3
            injection e3 with e3
            subst e2; subst e3
            rw [HM.out]
            exact e4
          rw [← HM.out] at hTl
          have hmi := manyF_int m
          have hml := manyF_le hz
          have hmc := many_covers m
          obtain ⟨M, hMM⟩ : ∃ M, M = manyF m := ⟨_, rfl⟩
          rw [← hMM] at hTl hmi hml hmc
          have hlen : ∀ j : Nat, j < M → ∃ a cx, W3.cell? ⟨gb, j, none⟩ = some (.slice a (15 + min 200 (m - 200 * j)) cx) := by
            intro j hj
            have hj2 : j < T2.length := by rw [hTl]; exact hj
            have h1 := hat j T2[j] (List.getElem?_eq_getElem hj2)
            have h2 := (RS.C (hD.2.1 j T2[j] (List.getElem?_eq_getElem hj2))).1
            rw [dg_len, ← HM.out] at h2
            refine ⟨T2[j].1, T2[j].2.2, ?_⟩
            rw [h1, ← h2]
            rfl
          rw [hTl]
          have hnr := HE.out.link.ok.1
          have hns := and_65535 (s.next + 1)
          rw [show (s.next + 1) % 65536 = (sendS s).next from rfl] at hns
          have HLEN := Aside0.mk hlen; have HE3 := Aside0.mk hE; have HMI := Aside0.mk hmi; have HMC := Aside0.mk hmc
          clear hTl hB hD hE hk hgb hgl hcc hat hcell hmi hmc hMM hlen
          go_wp2
          go_loop [13, 14] (fun vl vj => ∃ j : Nat, j ≤ M ∧ vj = .int .i64 (j : Int) ∧ vl = .int .i64 ((min (200 * j) m : Nat) : Int)) (fun _ vj => (M - (intOf vj).toNat))
          case atStart => exact ⟨0, by omega, rfl, by simp⟩
          case round =>
            obtain ⟨j, hj, rfl, rfl⟩ := hrel
            by_cases hjM : j < M
            · obtain ⟨a, cx, hcj⟩ := HLEN.out j hjM
              have dj : decide (j < M) = true := decide_eq_true hjM
              have hst := long_step m j
              have HST := Aside0.mk hst
              have hr1 : 0 ≤ ((min (200 * j) m : Nat) : Int) ∧ ((min (200 * j) m : Nat) : Int) ≤ 2000 := by omega
              have hr2 : 0 ≤ ((15 + min 200 (m - 200 * j) : Nat) : Int) ∧ ((15 + min 200 (m - 200 * j) : Nat) : Int) ≤ 215 := by omega
              generalize min (200 * j) m = p at hr1 HST
              generalize 15 + min 200 (m - 200 * j) = q at hr2 HST hcj
              clear hst
              go_wp2
              go_round
              case rel => exact ⟨j + 1, by omega, by go_num, by rw [← HST.out]⟩
              case measure => simp [intOf]; omega
            · have hje : j = M := by omega
              subst hje
              have dj : decide (j < j) = false := by simp
              rw [HMC.out]
              have h1 := HMI.out
              rw [← h1]
              clear h1
              go_wp2
              refine ⟨⟨k + 1, sendS s, ws2, rfl, by omega, by omega, by omega, rfl, HE3⟩, by simp only [intOf]; omega⟩
        · have dz : decide ((m : Int) ≤ 2000) = false := decide_eq_false (by omega)
          have dz' : decide (m ≤ 2000) = false := decide_eq_false hz
          go_wp2_with fail
          ((with_reducible refine (Send_long _ _ _ _ _ (by omega)).mono ?_); rintro e_ W3 ⟨rfl, rfl⟩)
          go_wp2
          exact ⟨⟨k + 1, s, ws, rfl, by omega, by omega, by omega, rfl, HE⟩, by simp only [intOf]; omega⟩
      · have dy : decide (k < 40) = false := decide_eq_false hy
        go_wp2
        go_ret
        exact ⟨rfl, HE.out.below⟩
    · have dx : decide (k < (n : Int)) = false := decide_eq_false hx
      go_wp2
      go_ret
      exact ⟨rfl, HE.out.below⟩
end Go.Proofs.YtbdocgddidcfeaaDoor
