/- number; LinkOnce. -/
import Derived.Test.YtbdocgddidcfeaaDoorLinkW
namespace Go.Proofs.YtbdocgddidcfeaaDoor
open Go.RowKit Go.Proofs.YtbdocgddidcfeaaDoorW.PrintWords Go.Proofs.YtbdocgddidcfeaaDoorW.PrintLast Go.Proofs.YtbdocgddidcfeaaDoorW.PrintMore
set_option linter.unusedVariables false
set_option linter.unusedSimpArgs false

/-- An own row of byte rows that came in. -/
structure SentRow (w W : World) (v : Value) (S : List (List Int)) : Prop where
  ex : ∃ TS, Kd.R KSl 30 W w.heap.size (fun _ => True) v TS ∧ TS.length = S.length ∧ ∀ (i : Nat) t s, TS[i]? = some t → S[i]? = some s → ByIn w t s
theorem C_tri_at {W : World} {A : Option Addr} {T : List Tri} (h : Kd.C KSl W A T.length T) (i : Nat) (hi : i < T.length) : ∃ ad, A = some ad ∧ W.cell? (ad.add i) = some (triV T[i]) := by
  obtain ⟨ad, hA, hc⟩ := h.2.2 (by omega)
  obtain ⟨cs, _, hK, hcell⟩ := hc i T[i] (List.getElem?_eq_getElem hi)
  refine ⟨ad, hA, ?_⟩
  have h2 := hcell 0 (triV T[i]) (by rw [show cs = [triV T[i]] from hK]; rfl)
  rw [show i * KSl.sz + 0 = i from by show i * 1 + 0 = _; omega] at h2
  exact h2

set_option maxHeartbeats 4000000 in
set_option maxRecDepth 100000 in
theorem number_calls (w0 w : World) (v : Value) (S : List (List Int)) (hS : SentRow w0 w v S) (hb : Below w0.heap.size w0 w) (hl : S.length ≤ 400) (base : Nat) (vm : Value) (b : List Int) (hm : RS base w vm b) (told m : Nat) (F : Int) (hF : 0 ≤ F ∧ F < 65536) (htm : told ≤ m) (hmb : S[m]? = some b) :
    Calls Tryd.prog 23 #[v, vm, .int .i64 told, .int .i64 (numO F m), .int .i64 F] w fun e w' => e = .returned (.int .i64 m) ∧ ∃ n, w' = w.drewN n := by
  obtain ⟨TS, hR, hlen, hel⟩ := hS.ex
  obtain ⟨A, c, rfl, hlc, hC⟩ := Kd.R_reads hR
  have hmS : m < S.length := (List.getElem?_eq_some_iff.1 hmb).1
  obtain ⟨Am, cm, hvm, _⟩ := bytes_string hm
  subst hvm
  have hcm : ∀ n, (convert 30 9 (.slice Am b.length cm)).run Tryd.prog (w.drewN n) = .ok (.string (strOfNums b)) (w.drewN n) := fun n => by
    obtain ⟨A', c', e, h⟩ := bytes_string (hm.below (drawn_below ⟨n, rfl⟩))
    injection e with e1 e2 e3
    subst e1; subst e3
    exact h
  obtain ⟨ad, rfl, hct⟩ := C_tri_at hC m (by omega)
  have hby := hel m TS[m] b (List.getElem?_eq_getElem (by omega)) hmb
  have hcs : ∀ n, (convert 30 9 (triV TS[m])).run Tryd.prog (w.drewN n) = .ok (.string (strOfNums b)) (w.drewN n) := fun n => by
    have h := Kd.C_string (c := (TS[m]).2.2) Tryd.underlying30 Tryd.underlying5 Tryd.underlying9 (Kd.C_below hby.C (below_step hb (drawn_below ⟨n, rfl⟩)))
    unfold triV
    rw [hby.len]
    exact h
  generalize triV TS[m] = tv at hct hcs
  obtain ⟨N, hN⟩ : ∃ N, N = TS.length := ⟨_, rfl⟩
  rw [← hN] at hlc hlen ⊢
  generalize strOfNums b = sb at hcm hcs
  obtain ⟨lb, hlb⟩ : ∃ lb, lb = b.length := ⟨_, rfl⟩
  rw [← hlb] at hcm ⊢
  have HN := Aside0.mk hN; have HLEN := Aside0.mk hlen
  have hmN : m < N := by omega
  have hN4 : N ≤ 400 := by omega
  have hcm0 := hcm 0
  clear hS hR hel hC hm hmb hby hlb hN hlen hmS hl hb
  go_enter Tryd.func23, Tryd.ntmps23
  go_wp2
  go_loopw [11] (fun vi wr => ∃ (i q : Nat), vi = .int .i64 i ∧ i ≤ m ∧ wr = w.drewN q) (fun vi _ => (m - (intOf vi).toNat))
  case atStart => exact ⟨told, 0, rfl, htm, rfl⟩
  case round =>
    obtain ⟨i, q, rfl, hi, rfl⟩ := hrel
    have hiN : i < N := by omega
    have dN : decide (i < N) = true := decide_eq_true hiN
    have hand := and_65535 (F + i)
    rw [show (F + (i : Int)) % 65536 = numO F i from rfl] at hand
    by_cases him : i = m
    · subst him
      go_wp2
      go_quiet (fail)
      go_wp2
      go_ret
      exact ⟨rfl, _, World.drewN_drewN _ _ _⟩
    · have hne : (numO F i == numO F m) = false := by
        refine beq_eq_false_iff_ne.2 (fun e => him ?_)
        exact numO_inj (by omega) (by omega) e
      generalize numO F i = x at hne hand
      generalize numO F m = y at hne ⊢
      go_wp2
      go_quiet (fail)
      go_wp2
      exact ⟨⟨i + 1, _, by go_num, by omega, rfl⟩, by simp [intOf]; omega⟩

theorem sl_flat {base : Nat} {ok ok' : Nat → Prop} {W : World} {v : Value} {T : List Tri} (h : Kd.R KSl 30 W base ok v T) (hok : ∀ k, v.ownBlock = some k → ok k → ok' k) : Kd.R KSl 30 W base ok' v T := by
  obtain ⟨h0, inner, hown, hr⟩ := h
  exact ⟨fun k hk => hok k hk (h0 k hk), inner, hown, hr.imp_ (fun _ _ hm => hm)⟩
theorem sl_grown {W W' : World} {base : Nat} {v : Value} {T : List Tri} {u : Option Nat} (h : Kd.R KSl 30 W base (fun _ => True) v T) (hu : ∀ b, v.ownBlock = some b → u ≠ some b) (hg : W.grownBy W' u) : Kd.R KSl 30 W' base (fun _ => True) v T := by
  have h1 := sl_flat (ok' := fun k => v.ownBlock = some k) h (fun k hk _ => hk)
  refine sl_flat (Kd.R_move (Kd.R_bound h1) (fun k hk => hg.block k hk.2.2.1 (fun e => hu k hk.1 e.symm))) (fun _ _ _ => trivial)
theorem sl_own {W : World} {base : Nat} {v : Value} {T : List Tri} (h : Kd.R KSl 30 W base (fun _ => True) v T) : ∀ b, v.ownBlock = some b → base ≤ b ∧ b < W.heap.size ∧ ∃ cs, W.heap[b]? = some (Obj.cells cs 30 (0, 0)) := by
  intro b hb
  obtain ⟨_, h1, h2, q, hq, cs, hc⟩ := (Kd.R_bound h).1 b hb
  have hq' : q = 30 := by
    rcases List.mem_cons.1 hq with e | e
    · exact e
    · cases e
  subst hq'
  exact ⟨h1, h2, cs, hc⟩
theorem Ends.grownT {w : World} {g1 : Nat} {s1 : LS} {ws1 : List Nat} {g2 : Nat} {s2 : LS} {ws2 : List Nat} {W W' : World} {v : Option Nat} {t : TypeId} (E : Ends w g1 s1 ws1 g2 s2 ws2 W) (ht : t ≠ 64 ∧ t ≠ 58 ∧ t ≠ 5) (hv : ∀ b, v = some b → w.heap.size ≤ b ∧ ∃ cs, W.heap[b]? = some (Obj.cells cs t (0, 0))) (hg : W.grownBy W' v) : Ends w g1 s1 ws1 g2 s2 ws2 W' :=
  ⟨E.one.grown (t := t) ht (fun b e => (hv b e).2) hg, E.two.grown (t := t) ht (fun b e => (hv b e).2) hg, E.apart, E.own1, E.own2, grown_below E.below hg (fun b e => (hv b e).1)⟩
theorem rs_grownT {W W' : World} {base : Nat} {x : Value} {l : List Int} {v : Option Nat} {t : TypeId} (h : RS base W x l) (ht : t ≠ 5) (hv : ∀ b, v = some b → ∃ cs, W.heap[b]? = some (Obj.cells cs t (0, 0))) (hg : W.grownBy W' v) : RS base W' x l :=
  rf_move h (fun b cs hb => hg.block b (Array.getElem?_eq_some_iff.1 hb).1 (fun e => by
    obtain ⟨cs', hc⟩ := hv b e.symm
    rw [hb] at hc
    injection hc with hc
    injection hc with _ hc
    exact ht hc.symm))

/-- An own row of own byte rows: the datagrams. -/
structure AllRow (w W : World) (v : Value) (D : List (List Int)) : Prop where
  ex : ∃ TA, Kd.R KSl 30 W w.heap.size (fun _ => True) v TA ∧ TA.length = D.length ∧ ∀ (i : Nat) t d, TA[i]? = some t → D[i]? = some d → RS w.heap.size W (triV t) d
def Sep (v u : Value) : Prop := ∀ b, v.ownBlock = some b → u.ownBlock ≠ some b
theorem AllRow.keeps {w W W' : World} {v : Value} {D : List (List Int)} {g : Nat} {s : LS} {ws : List Nat} (h : AllRow w W v D) (hl : LinkM W g s ws) (hk : Keeps W W' ws) : AllRow w W' v D := by
  obtain ⟨TA, h1, h2, h3⟩ := h.ex
  exact ⟨TA, sl_keeps h1 hl hk, h2, fun i t d ht hd => (h3 i t d ht hd).keeps hl hk⟩
theorem SentRow.keeps {w W W' : World} {v : Value} {S : List (List Int)} {g : Nat} {s : LS} {ws : List Nat} (h : SentRow w W v S) (hl : LinkM W g s ws) (hk : Keeps W W' ws) : SentRow w W' v S := by
  obtain ⟨TS, h1, h2, h3⟩ := h.ex
  exact ⟨TS, sl_keeps h1 hl hk, h2, h3⟩
theorem AllRow.below {w W W' : World} {v : Value} {D : List (List Int)} (h : AllRow w W v D) (hb : Below W.heap.size W W') : AllRow w W' v D := by
  obtain ⟨TA, h1, h2, h3⟩ := h.ex
  exact ⟨TA, Kd.R_below h1 hb, h2, fun i t d ht hd => (h3 i t d ht hd).below hb⟩
theorem SentRow.below {w W W' : World} {v : Value} {S : List (List Int)} (h : SentRow w W v S) (hb : Below W.heap.size W W') : SentRow w W' v S := by
  obtain ⟨TS, h1, h2, h3⟩ := h.ex
  exact ⟨TS, Kd.R_below h1 hb, h2, h3⟩
theorem AllRow.own {w W : World} {v : Value} {D : List (List Int)} (h : AllRow w W v D) : ∀ b, v.ownBlock = some b → w.heap.size ≤ b ∧ b < W.heap.size ∧ ∃ cs, W.heap[b]? = some (Obj.cells cs 30 (0, 0)) := by
  obtain ⟨TA, h1, _⟩ := h.ex
  exact sl_own h1
theorem SentRow.own {w W : World} {v : Value} {S : List (List Int)} (h : SentRow w W v S) : ∀ b, v.ownBlock = some b → w.heap.size ≤ b ∧ b < W.heap.size ∧ ∃ cs, W.heap[b]? = some (Obj.cells cs 30 (0, 0)) := by
  obtain ⟨TS, h1, _⟩ := h.ex
  exact sl_own h1
theorem AllRow.grown {w W W' : World} {v u : Value} {D : List (List Int)} (h : AllRow w W v D) (hs : Sep v u) (hu : ∀ b, u.ownBlock = some b → ∃ cs, W.heap[b]? = some (Obj.cells cs 30 (0, 0))) (hg : W.grownBy W' u.ownBlock) : AllRow w W' v D := by
  obtain ⟨TA, h1, h2, h3⟩ := h.ex
  exact ⟨TA, sl_grown h1 hs hg, h2, fun i t d ht hd => rs_grownT (h3 i t d ht hd) (by decide) hu hg⟩
theorem SentRow.grown {w W W' : World} {v u : Value} {S : List (List Int)} (h : SentRow w W v S) (hs : Sep v u) (hg : W.grownBy W' u.ownBlock) : SentRow w W' v S := by
  obtain ⟨TS, h1, h2, h3⟩ := h.ex
  exact ⟨TS, sl_grown h1 hs hg, h2, h3⟩
theorem SentRow.snoc {w W : World} {v : Value} {TS : List Tri} {S : List (List Int)} {t : Tri} {b : List Int} (h : Kd.R KSl 30 W w.heap.size (fun _ => True) v (TS ++ [t])) (hl : TS.length = S.length) (he : ∀ (i : Nat) t s, TS[i]? = some t → S[i]? = some s → ByIn w t s) (ht : ByIn w t b) : SentRow w W v (S ++ [b]) := by
  refine ⟨TS ++ [t], h, by simp [hl], fun i x s hx hs => ?_⟩
  by_cases hi : i < TS.length
  · rw [List.getElem?_append_left hi] at hx
    rw [List.getElem?_append_left (by omega)] at hs
    exact he i x s hx hs
  · rw [List.getElem?_append_right (by omega)] at hx hs
    rw [hl] at hx
    have h0 : i - S.length = 0 := by
      have := (List.getElem?_eq_some_iff.1 hx).1
      simpa using this
    rw [h0] at hx hs
    simp at hx hs
    subst hx; subst hs
    exact ht
/-- The state of the round's head. -/
def OnceR (w W : World) (F : Int) (ga gb : Nat) (v10 v11 : Value) (S : List (List Int)) (told : Nat) : Prop :=
  ∃ sa wsa sb wsb D, Ends w ga sa wsa gb sb wsb W ∧ AllRow w W v10 D ∧ SentRow w W v11 S ∧ Sep v10 v11 ∧ SendO F S told sa ∧ RecvO F S told sb ∧ told ≤ S.length ∧ D.length ≤ 10 * S.length ∧ ∀ d ∈ D, DgO F S d

theorem and_4095 (z : Int) : bits .and .i64 z 4095 = z % 4096 := by
  show IntKind.i64.wrap (((BitVec.ofInt 64 z) &&& (BitVec.ofInt 64 4095)).toNat : Int) = z % 4096
  rw [BitVec.toNat_and, show (BitVec.ofInt 64 4095).toNat = 2 ^ 12 - 1 by decide, Nat.and_two_pow_sub_one_eq_mod, IntKind.wrap_i64, BitVec.toNat_ofInt]
  have h : (((z % (2 ^ 64 : Nat)).toNat % 2 ^ 12 : Nat) : Int) = z % 4096 := by
    have : (0 : Int) ≤ z % (2 ^ 64 : Nat) := Int.emod_nonneg _ (by decide)
    rw [Int.natCast_emod, Int.toNat_of_nonneg this]
    show z % 18446744073709551616 % 4096 = z % 4096
    omega
  rw [h]
  omega
theorem cell_below {w W : World} {p : Addr} {v : Value} (hb : Below w.heap.size w W) (h : w.cell? p = some v) : W.cell? p = some v := (hb.cell (World.block_lt_of_cell? w _ h)).trans h
theorem Ends.send2 {w : World} {g1 : Nat} {s1 : LS} {ws1 : List Nat} {g2 : Nat} {s2 : LS} {ws2 : List Nat} {W : World} (E : Ends w g1 s1 ws1 g2 s2 ws2 W) (hT : Tab w) (A : Option Addr) (c n : Nat) (b : List Int) (hn : b.length = n) (hC : ∀ W', Keeps W W' ws1 → Kd.C (Kd.int .u8) W' A b.length b) (hc : n ≤ c) (hb : ∀ x ∈ b, 0 ≤ x ∧ x < 256) (hL : n ≤ 2000) :
    Calls Tryd.prog 12 #[.pointer (some ⟨g1, 0, none⟩), .slice A n c] W
      fun e w' => ∃ v T B ws1', e = .returned (.tuple #[v, .int .i64 s1.next, .int .i64 0]) ∧ T.length = manyF b.length ∧ W.heap.size ≤ B ∧ DgRows B w' v (dgF s1 s1.next b) T ∧ Ends w g1 (sendS s1) ws1' g2 s2 ws2 w' ∧ Keeps W w' ws1 := by
  subst hn
  refine (Send_calls g1 s1 ws1 A c b W E.one hC hc hb hL (E.tab hT) (E.one.out _ E.own1 hT.pos)).mono ?_
  rintro e w' ⟨v, T, ws', B, rfl, h1, h2, h3, h4, h5, h6, h7⟩
  exact ⟨v, T, B, ws', rfl, h1, h2, h4, E.step h5 h6 h7, h7⟩
/-- Rows that were made: the slice of slices, and each. -/
structure MadeRow (base : Nat) (W : World) (v : Value) (T : List Tri) (Dg : Nat → List Int) : Prop where
  row : Kd.R KSl 30 W base (fun _ => True) v T
  each : ∀ (i : Nat) x, T[i]? = some x → RS base W (triV x) (Dg i)
theorem once_sent {w W w1 : World} {ga gb : Nat} {sa sb : LS} {wsa wsb : List Nat} {va vs v1 v : Value} {D S : List (List Int)} {TS T2 : List Tri} {t : Tri} {l : List Int} {B : Nat} {Dg : Nat → List Int}
    (hE : Ends w ga sa wsa gb sb wsb W) (hA : AllRow w W va D) (hS : Kd.R KSl 30 W w.heap.size (fun _ => True) vs TS) (hl : TS.length = S.length) (he : ∀ (i : Nat) t s, TS[i]? = some t → S[i]? = some s → ByIn w t s) (ht : ByIn w t l) (hsep : Sep va vs)
    (hD : MadeRow B W v T2 Dg) (hB : ∀ b, vs.ownBlock = some b → b < B)
    (ho : Kd.R KSl 30 w1 w.heap.size (fun _ => True) v1 (TS ++ [t])) (hg : W.grownBy w1 vs.ownBlock) (hat : v1.ownBlock = vs.ownBlock ∨ ∃ b, v1.ownBlock = some b ∧ W.heap.size ≤ b) :
    Ends w ga sa wsa gb sb wsb w1 ∧ AllRow w w1 va D ∧ SentRow w w1 v1 (S ++ [l]) ∧ Sep va v1 ∧ MadeRow B w1 v T2 Dg := by
  have hv := sl_own hS
  have hv2 : ∀ b, vs.ownBlock = some b → ∃ cs, W.heap[b]? = some (Obj.cells cs 30 (0, 0)) := fun b e => (hv b e).2.2
  refine ⟨hE.grownT (t := 30) (by decide) (fun b e => ⟨(hv b e).1, (hv b e).2.2⟩) hg, hA.grown hsep hv2 hg, SentRow.snoc ho hl he ht, fun b hb => ?_, ⟨sl_grown hD.row (fun b hb e => ?_) hg, fun i x hx => rs_grownT (hD.each i x hx) (by decide) hv2 hg⟩⟩
  · rcases hat with e | ⟨b', e, hb'⟩
    · rw [e]; exact hsep b hb
    · rw [e]
      intro e2
      injection e2 with e2
      have := (hA.own b hb).2.1
      omega
  · have h1 := hB b e
    have h2 := (sl_own hD.row b hb).1
    omega
theorem once_all {w W w1 : World} {ga gb : Nat} {sa sb : LS} {wsa wsb : List Nat} {va vs v1 : Value} {D S : List (List Int)} {TA T2 : List Tri} {B : Nat} {Dg : Nat → List Int} {v : Value}
    (hE : Ends w ga sa wsa gb sb wsb W) (hA : Kd.R KSl 30 W w.heap.size (fun _ => True) va TA) (hl : TA.length = D.length) (he : ∀ (i : Nat) t d, TA[i]? = some t → D[i]? = some d → RS w.heap.size W (triV t) d) (hS : SentRow w W vs S) (hsep : Sep va vs)
    (hD : MadeRow B W v T2 Dg) (hB : w.heap.size ≤ B)
    (ho : Kd.R KSl 30 w1 w.heap.size (fun _ => True) v1 (TA ++ T2)) (hg : W.grownBy w1 va.ownBlock) (hat : v1.ownBlock = va.ownBlock ∨ ∃ b, v1.ownBlock = some b ∧ W.heap.size ≤ b) :
    Ends w ga sa wsa gb sb wsb w1 ∧ AllRow w w1 v1 (D ++ (List.range T2.length).map Dg) ∧ SentRow w w1 vs S ∧ Sep v1 vs := by
  have hv := sl_own hA
  have hv2 : ∀ b, va.ownBlock = some b → ∃ cs, W.heap[b]? = some (Obj.cells cs 30 (0, 0)) := fun b e => (hv b e).2.2
  refine ⟨hE.grownT (t := 30) (by decide) (fun b e => ⟨(hv b e).1, (hv b e).2.2⟩) hg, ⟨TA ++ T2, ho, by simp [hl], fun i t d ht hd => ?_⟩, hS.grown (fun b hb e => hsep b e hb) hg, fun b hb => ?_⟩
  · by_cases hi : i < TA.length
    · rw [List.getElem?_append_left hi] at ht
      rw [List.getElem?_append_left (by omega)] at hd
      exact rs_grownT (he i t d ht hd) (by decide) hv2 hg
    · rw [List.getElem?_append_right (by omega)] at ht hd
      rw [hl] at ht
      have hj := (List.getElem?_eq_some_iff.1 ht).1
      rw [List.getElem?_map, List.getElem?_range hj] at hd
      simp only [Option.map_some, Option.some.injEq] at hd
      subst hd
      exact (rs_grownT (hD.each _ t ht) (by decide) hv2 hg).lower hB
  · rcases hat with e | ⟨b', e, hb'⟩
    · rw [e] at hb; exact hsep b hb
    · rw [e] at hb
      injection hb with hb
      subst hb
      intro e2
      have := (hS.own b' e2).2.1
      omega
theorem once_start {w W : World} {F : Int} {ga gb : Nat} {wa wb : List Nat} (hF : 0 ≤ F ∧ F < 65536) (E : Ends w ga (newS F) wa gb (newS 0) wb W) : OnceR w W F ga gb (.slice none 0 0) (.slice none 0 0) [] 0 := by
  refine ⟨newS F, wa, newS 0, wb, [], E, ⟨[], Kd.R_nil _ _ _ _ _, rfl, by simp⟩, ⟨[], Kd.R_nil _ _ _ _ _, rfl, by simp⟩, fun b e => ?_, ⟨?_, by simp [newS], by simp [newS]⟩, ⟨fun e => ?_, fun _ => rfl, fun e => ?_⟩, by simp, by simp, by simp⟩
  · cases e
  · unfold numO; simp [newS]
  · cases e
  · cases e

set_option maxHeartbeats 8000000 in
set_option maxRecDepth 100000 in
theorem LinkOnce_calls (first : Int) (A1 : Option Addr) (c1 : Nat) (T1 : List Tri) (L1 : List (List Int)) (A2 : Option Addr) (c2 : Nat) (net : List Int) (w : World) (hT : Tab w) (hR : RowsIn w A1 c1 T1 L1)
    (h2 : Kd.C (Kd.int .i64) w A2 net.length net) (h2c : net.length ≤ c2) (h2l : net.length ≤ 9223372036854775807) :
    Calls Tryd.prog 7 #[.int .i64 first, .slice A1 T1.length c1, .slice A2 net.length c2] w fun e w' => e = .returned (.bool true) ∧ Below w.heap.size w w' := by
  have HT := Aside0.mk hT; have HR := Aside0.mk hR; have H2 := Aside0.mk h2
  have hsm := hR.small
  obtain ⟨m1, hm1⟩ : ∃ m, m = T1.length := ⟨_, rfl⟩
  obtain ⟨m2, hm2⟩ : ∃ m, m = net.length := ⟨_, rfl⟩
  rw [← hm1] at hsm ⊢
  rw [← hm2] at h2c h2l ⊢
  have HM1 := Aside0.mk hm1; have HM2 := Aside0.mk hm2
  have hf := and_65535 first
  obtain ⟨F, hF⟩ : ∃ F, F = first % 65536 := ⟨_, rfl⟩
  rw [← hF] at hf
  have hF0 : 0 ≤ F ∧ F < 65536 := by omega
  clear hT hR h2 hm1 hm2 hF
  go_enter Tryd.func7, Tryd.ntmps7
  go_wp2_with fail
  ((with_reducible refine (awake_calls w HT.out).mono ?_); rintro e_ W1 ⟨rfl, hb1⟩)
  have HB := Aside0.mk hb1
  clear hb1
  go_wp2_with fail
  ((with_reducible refine (New_calls F W1).mono ?_); rintro e_ W2 ⟨ga, wa, rfl, hl1, ho1, hb1⟩)
  have HL1 := Aside0.mk hl1; have HO1 := Aside0.mk ho1; have HB1 := Aside0.mk hb1
  clear hl1 ho1 hb1
  go_wp2_with fail
  ((with_reducible refine (New_calls 0 W2).mono ?_); rintro e_ W3 ⟨gb, wb, rfl, hl2, ho2, hb2⟩)
  have E0 : Aside0 (Ends w ga (newS F) wa gb (newS 0) wb W3) := ⟨⟨HL1.out.below hb2, hl2, fun k hk hm => by have := HL1.out.lt k hk; have := ho2 k hm; omega, fun k hk => by have := HO1.out k hk; have := below_size HB.out; omega, fun k hk => by have := ho2 k hk; have := below_size HB1.out; have := below_size HB.out; omega, below_step (below_step HB.out HB1.out) hb2⟩⟩
  clear hl2 ho2 hb2 HL1 HO1 HB1 HB hf
  have h0 : Aside0 (OnceR w W3 F ga gb (.slice none 0 0) (.slice none 0 0) [] 0) := ⟨once_start hF0 E0.out⟩
  clear E0
  go_wp2
  go_loopw [10, 11, 12, 13, 14] (fun va vs vt vk vi wr => ∃ (i k told : Nat) (S : List (List Int)), vi = .int .i64 i ∧ vk = .int .i64 k ∧ vt = .int .i64 told ∧ i ≤ m2 ∧ i ≤ 400 ∧ k ≤ m1 ∧ S.length ≤ i ∧ Aside0 (OnceR w wr F ga gb va vs S told)) (fun _ _ _ _ vi _ => (m2 - (intOf vi).toNat))
  case atStart => exact ⟨0, 0, 0, [], rfl, rfl, rfl, by omega, by omega, by omega, by simp, h0⟩
  case round =>
    clear h0
    obtain ⟨i, k, told, S, rfl, rfl, rfl, hi, hi4, hk, hSi, HO⟩ := hrel
    by_cases hx : i < m2
    · have dx : decide (i < m2) = true := decide_eq_true hx
      by_cases hy : i < 400
      · have dy : decide (i < 400) = true := decide_eq_true hy
        have dy' : decide ((i : Int) < 400) = true := decide_eq_true (by omega)
        obtain ⟨sa, wsa, sb, wsb, D, hE, hA, hS, hsep, hso, hro, htl, hDl, hdg⟩ := HO.out
        obtain ⟨ad, e2, hcx⟩ := Kd.at_int (Kd.C_below H2.out hE.below) (i : Int) (by omega) (by have := HM2.out; omega)
        subst e2
        rw [Int.toNat_natCast] at hcx
        generalize rd net (i : Int) = x at hcx
        have HE := Aside0.mk hE; have HA := Aside0.mk hA; have HS := Aside0.mk hS; have HSEP := Aside0.mk hsep; have HSO := Aside0.mk hso; have HRO := Aside0.mk hro; have HDG := Aside0.mk hdg
        clear hE hA hS hsep hso hro hdg
        by_cases hc1 : (bits .and .i64 x 3 == 0) = true ∧ k < m1
        · obtain ⟨e3, hk1⟩ := hc1
          have dk : decide (k < m1) = true := decide_eq_true hk1
          obtain ⟨ad1, t, l, rfl, ht, hl, hby, hcell⟩ := (HR.out.below HE.out.below).at (k : Int) (by omega) (by have := HM1.out; omega)
          rw [Int.toNat_natCast] at ht hl hcell
          have hby0 := HR.out.row k t l ht hl
          obtain ⟨A3, n3, c3⟩ := t
          have hnl : n3 = l.length := hby.len
          subst hnl
          change wr.cell? (ad1.add k) = some (.slice A3 l.length c3) at hcell
          have hcap : l.length ≤ c3 := hby0.cap
          have hkept := hby0.kept2 HE.out
          change ∀ W', Keeps wr W' wsa → Kd.C (Kd.int .u8) W' A3 l.length l at hkept
          obtain ⟨m, hm⟩ : ∃ m, m = l.length := ⟨_, rfl⟩
          rw [← hm] at hcell hcap
          have HC0 : Aside0 (w.cell? (ad1.add k) = some (.slice A3 m c3)) := ⟨by
            obtain ⟨ad', t', l', e1, e2, e3, _, e4⟩ := HR.out.at (k : Int) (by omega) (by have := HM1.out; omega)
            rw [Int.toNat_natCast] at e2 e3 e4
            injection e1 with e1
            subst e1
            rw [ht] at e2
            injection e2 with e2
            rw [hl] at e3
            injection e3 with e3
            subst e2; subst e3
            rw [hm]
            exact e4⟩
          have HM := Aside0.mk hm; have HBY := Aside0.mk hby0; have HK := Aside0.mk hkept; have HTK := Aside0.mk ht; have HLK := Aside0.mk hl
          clear hm hby0 hkept hby ht hl
          by_cases hz : m ≤ 2000
          · have hsd := HE.out.send2 HT.out A3 c3 m l HM.out.symm HK.out hcap HBY.out.byte hz
            go_wp2_with fail
            ((with_reducible refine hsd.mono ?_); rintro e_ W4 ⟨v, T2, B, wsa2, rfl, hTl, hB, hD4, hE4, hk4⟩)
            have hc4 : W4.cell? (ad1.add k) = some (.slice A3 m c3) := cell_below hE4.below HC0.out
            obtain ⟨TS, hs1, hs2, hs3⟩ := (HS.out.keeps HE.out.one hk4).ex
            obtain ⟨A4, c4, hv4, hlc4, _⟩ := Kd.R_reads hD4.1
            subst hv4
            have HD4 : Aside0 (MadeRow B W4 (.slice A4 T2.length c4) T2 (dgF sa sa.next l)) := ⟨⟨hD4.1, hD4.2.1⟩⟩
            have HE4 := Aside0.mk hE4; have HA4 := Aside0.mk (HA.out.keeps HE.out.one hk4); have HS1 := Aside0.mk hs1; have HS2 := Aside0.mk hs2; have HS3 := Aside0.mk hs3
            have HB4 : Aside0 (∀ b, u11.ownBlock = some b → b < B) := ⟨fun b e => by have := (HS.out.own b e).2.1; omega⟩
            have HBB : Aside0 (w.heap.size ≤ B) := ⟨by have := below_size HE.out.below; omega⟩
            have HTL := Aside0.mk hTl
            have hT10 : T2.length ≤ 10 := by rw [hTl]; exact (manyF_le (by rw [← HM.out]; exact hz)).2
            have hTSl : TS.length ≤ 400 := by omega
            have HOKA := Aside0.mk HE.out.one.ok
            generalize hTn : T2.length = tn at HD4 hT10 ⊢
            have HTN := Aside0.mk hTn
            clear hsd hE4 hk4 hD4 hB hTl hs1 hs2 hs3 hcell HE HA HS HO hTn hlc4
            go_wp2_with (first | ((with_reducible refine gate_builtin (b := .append) (xs := #[.tmp 84, .tmp 89]) rfl ?_); at_builtin; refine Kd.R_append_rows KSl (w0 := w) w.heap.size rfl (.tmp 84) (.tmp 89) 24 30 (.slice none 0 0) 24 rfl Tryd.underlying24 infoSl rfl (by decide) (by omega) _ TS [(A3, m, c3)] _ _ _ (fun _ => True) (fun _ => False) rfl rfl ?aO ?aR (fun _ _ h => h) (fun _ h => h.elim) ?aF ?aB ?aS ?aL ?_; (case aR => exact (C_tri W4 (A3, m, c3) _)); (case aB => exact below_alloc HE4.out.below _); (case aF => exact (fun _ _ => trivial)); (case aO => exact Kd.R_alloc HS1.out _); (case aS => exact (below_size (below_alloc HE4.out.below _))); (case aL => (show (TS.length + 1) * 24 ≤ 140737488355328; omega)); intro v1 w1 ho hb hg hat; obtain ⟨hE5, hA5, hS5, hsep5, hD5⟩ := (once_sent (t := (A3, m, c3)) (l := l) (HE4.out.more (below_alloc (Below.refl _ _) _)) (HA4.out.below (below_alloc (Below.refl _ _) _)) (Kd.R_alloc HS1.out _) HS2.out HS3.out (by rw [HM.out]; exact HBY.out) HSEP.out ⟨Kd.R_alloc HD4.out.row _, fun i x hx => (HD4.out.each i x hx).below (below_alloc (Below.refl _ _) _)⟩ HB4.out ho hg hat); obtain ⟨TA, ha1, ha2, ha3⟩ := hA5.ex; have HE5 := Aside0.mk hE5; have HS5 := Aside0.mk hS5; have HSEP5 := Aside0.mk hsep5; have HD5 := Aside0.mk hD5; have HA1 := Aside0.mk ha1; have HA2 := Aside0.mk ha2; have HA3 := Aside0.mk ha3; have hTAl : TA.length ≤ 4000 := (by omega); clear HE4 HA4 HS1 HD4 HSEP ho hb hg hat hE5 hA5 hS5 hsep5 hD5 ha1 ha2 ha3) | ((with_reducible refine gate_builtin (b := .append) (xs := #[.tmp 91, .tmp 92]) rfl ?_); at_builtin; refine Kd.R_append_rows KSl (w0 := w) w.heap.size rfl (.tmp 91) (.tmp 92) 24 30 (.slice none 0 0) 24 rfl Tryd.underlying24 infoSl rfl (by decide) (by omega) _ TA T2 _ _ _ (fun _ => True) (fun _ => False) rfl rfl ?aO ?aR (fun _ _ h => h) (fun _ h => h.elim) ?aF ?aB ?aS ?aL ?_; (case aR => (have h := (Kd.R_reads' HD5.out.row).2.2; rw [HTN.out] at h; exact h)); (case aB => exact HE5.out.below); (case aF => exact (fun _ _ => trivial)); (case aO => exact HA1.out); (case aS => exact (below_size HE5.out.below)); (case aL => (show (TA.length + tn) * 24 ≤ 140737488355328; omega)); intro v2 w2 ho hb hg hat; have hst := (once_all HE5.out HA1.out HA2.out HA3.out HS5.out HSEP5.out HD5.out HBB.out ho hg hat); have HST := Aside0.mk hst; clear HE5 HS5 HSEP5 HD5 HA1 HA2 HA3 ho hb hg hat hst))
            refine ⟨⟨i + 1, k + 1, told, S ++ [l], by go_num, by go_num, rfl, by omega, by omega, by omega, by simp; omega, ⟨?_⟩⟩, by simp [intOf]; omega⟩
            obtain ⟨hE6, hA6, hS6, hsep6⟩ := HST.out
            have hT2 := HTL.out
            have hlz : l.length ≤ 2000 := by rw [← HM.out]; exact hz
            have hml := manyF_le hlz
            refine ⟨_, _, _, _, _, hE6, hA6, hS6, hsep6, send_once HSO.out l, HRO.out.more l, by simp; omega, by simp; omega, fun d hd => ?_⟩
            rcases List.mem_append.1 hd with hd | hd
            · exact (HDG.out d hd).more l
            · obtain ⟨p, hp, rfl⟩ := List.mem_map.1 hd
              refine ⟨S.length, sa, p, l, by simp, HOKA.out, hlz, HBY.out.byte, by rw [← hT2]; exact List.mem_range.1 hp, ?_⟩
              rw [HSO.out.1]
          · go_wp2_with fail
            ((with_reducible refine (Send_long _ _ _ _ _ (by omega)).mono ?_); rintro e_ W4 ⟨rfl, rfl⟩)
            go_wp2
            exact ⟨⟨i + 1, k + 1, told, S, by go_num, by go_num, rfl, by omega, by omega, by omega, by omega, HO⟩, by simp [intOf]; omega⟩
        · have hsel : (bits .and .i64 x 3 == 0) = false ∨ ((bits .and .i64 x 3 == 0) = true ∧ decide (k < m1) = false) := by
            by_cases h : (bits .and .i64 x 3 == 0) = true
            · exact .inr ⟨h, decide_eq_false (fun h2 => hc1 ⟨h, h2⟩)⟩
            · exact .inl (by simpa using h)
          go_upto_region 15 with (fail)
          go_cut [62] (fun v62 wx => wr = wx ∧ v62 = .bool false)
          case first =>
            rcases hsel with h | ⟨h, h2⟩
            · go_wp2
              go_meet
              case rel => exact ⟨rfl, rfl⟩
            · go_wp2
              go_meet
              case rel => exact ⟨rfl, rfl⟩
          case rest =>
            obtain ⟨rfl, rfl⟩ := hcut
            clear hsel hc1
            by_cases hc2 : (bits .and .i64 x 7 == 2) = true
            · have hsd := HE.out.swap.send2 HT.out none 0 0 [] rfl (fun W' _ => Kd.C_nil _ _) (Nat.le_refl _) (by simp) (by omega)
              go_wp2_with fail
              ((with_reducible refine hsd.mono ?_); rintro e_ W4 ⟨v, T2, B, wsb2, rfl, hTl, hB, hD4, hE4, hk4⟩)
              have hT1 : T2.length = 1 := hTl
              obtain ⟨t2, ht2⟩ := List.length_eq_one_iff.1 hT1
              subst ht2
              obtain ⟨A4, n4, c4⟩ := t2
              obtain ⟨g4, cc4, rfl, hg4, hgl4, hcc4, hat4⟩ := sl_at hD4.1 (by simp)
              have hc0 := hat4 0 _ rfl
              replace hc0 : W4.cell? ⟨g4, 0, none⟩ = some (Value.slice A4 n4 c4) := hc0
              obtain ⟨hn4, hnc4, hC4⟩ := RS.C (hD4.2.1 0 _ rfl)
              change n4 = _ at hn4
              change _ ≤ c4 at hnc4
              change Kd.C (Kd.int .u8) _ A4 _ _ at hC4
              have hlen1 : ([(A4, n4, c4)] : List Tri).length = 1 := rfl
              rw [hlen1]
              have hdr : ∀ y ∈ dgF sb sb.next [] 0, 0 ≤ y ∧ y < 256 := dg_range HE.out.two.ok HE.out.two.ok.1 (by simp) (by simp) (by decide)
              have hds := dg_small sb sb.next [] 0
              have hrv := hE4.swap.recv HT.out A4 c4 n4 _ hn4.symm hC4 (by omega) hdr (by omega)
              have HS4 := Aside0.mk (HS.out.keeps HE.out.two hk4); have HA4 := Aside0.mk (HA.out.keeps HE.out.two hk4); have HE4 := Aside0.mk hE4.swap
              clear hsd hTl hB hD4 hE4 hk4 hT1 hg4 hgl4 hcc4 hat4 hn4 hnc4 hC4 hlen1 hdr hds HS HA HE HO
              go_wp2_with fail
              ((with_reducible refine hrv.mono ?_); rintro e_ W5 ⟨vx, wsa2, rfl, _, hE5, hk5⟩)
              have HS5 := Aside0.mk (HS4.out.keeps HE4.out.one hk5); have HA5 := Aside0.mk (HA4.out.keeps HE4.out.one hk5); have HE5 := Aside0.mk hE5
              clear hrv hE5 hk5 hc0 HS4 HA4 HE4
              have hso5 := hear_once (by omega) htl HSO.out HRO.out sb.next
              have HSO5 := Aside0.mk hso5
              clear hso5
              go_wp2_with fail
              ((with_reducible refine HE5.out.acked.mono ?_); rintro e_ W6 ⟨va, rfl, ha, hE6, hb6⟩)
              obtain ⟨Aa, ca, hva, hla, hCa⟩ := Kd.R_reads ha
              subst hva
              have HS6 := Aside0.mk (HS5.out.below hb6); have HA6 := Aside0.mk (HA5.out.below hb6); have HE6 := Aside0.mk hE6
              have HCA := Aside0.mk hCa
              have HAK := Aside0.mk (acked_once HSO5.out)
              clear ha hE6 hb6 hCa HS5 HA5 HE5
              have hla := Last_calls gb (sendS sb) wsb2 W6 HE6.out.two
              rw [show (sendS sb).last = sb.last from rfl, show (sendS sb).any = sb.any from rfl] at hla
              go_wp2_with fail
              ((with_reducible refine hla.mono ?_); rintro e_ W7 ⟨rfl, q7, rfl⟩)
              have hnl64 := acked_len HE6.out.one.ok
              obtain ⟨L, hL⟩ : ∃ L, L = ackedF (recvF sa (dgF sb sb.next [] 0)).1 := ⟨_, rfl⟩
              clear hla
              rw [← hL] at HCA HAK hnl64 ⊢
              obtain ⟨nl, hnl⟩ : ∃ nl, nl = L.length := ⟨_, rfl⟩
              rw [← hnl] at HCA hnl64 ⊢
              have HNL := Aside0.mk hnl
              clear hL hnl
              go_wp2
              go_loop [25] (fun vj => ∃ j : Nat, vj = .int .i64 j ∧ j ≤ nl) (fun vj => (nl - (intOf vj).toNat))
              case atStart => exact ⟨0, rfl, by omega⟩
              case round =>
                obtain ⟨j, rfl, hj⟩ := hrel
                by_cases hjn : j < nl
                · have dj : decide (j < nl) = true := decide_eq_true hjn
                  obtain ⟨ada, eA, hca⟩ := Kd.at_int HCA.out (j : Int) (by omega) (by omega)
                  subst eA
                  rw [Int.toNat_natCast] at hca
                  have hjL : j < L.length := by have := HNL.out; omega
                  obtain ⟨mm, hm1, hm2⟩ := HAK.out (rd L (j : Int)) (by rw [rd_get' hjL]; exact List.getElem_mem hjL)
                  rw [hm2] at hca
                  have hany : sb.any = true := by
                    cases h : sb.any with
                    | true => rfl
                    | false => have := HRO.out.2.1 h; omega
                  have hlst := (HRO.out.1 hany).2
                  rw [hany, hlst]
                  clear hm2 hany hlst
                  by_cases hme : mm = told - 1
                  · subst hme
                    generalize numO F (told - 1) = y at hca ⊢
                    go_wp2
                    go_round
                    case rel => exact ⟨j + 1, by go_num, by omega⟩
                    case measure => simp [intOf]; omega
                  · have hne : (numO F mm == numO F (told - 1)) = false := by
                      refine beq_eq_false_iff_ne.2 (fun e => hme ?_)
                      exact numO_inj (by omega) (by omega) e
                    have hnw := numO_newer (F := F) (a := told - 1) (b := mm) (by omega) (by omega)
                    rw [decide_eq_true (by omega)] at hnw
                    have HNW := Aside0.mk hnw
                    clear hnw
                    generalize numO F (told - 1) = y at hca hne HNW ⊢
                    generalize numO F mm = z at hca hne HNW
                    have hne' : ¬ z = y := by simpa using hne
                    go_wp2_with fail
                    ((with_reducible refine (Newer_calls _ _ _).mono ?_); rintro e_ W8 ⟨rfl, rfl⟩)
                    rw [HNW.out]
                    go_wp2
                    go_round
                    case rel => exact ⟨j + 1, by go_num, by omega⟩
                    case measure => simp [intOf]; omega
                · have dj : decide (j < nl) = false := decide_eq_false hjn
                  go_wp2
                  refine ⟨⟨i + 1, k, told, S, by go_num, rfl, rfl, by omega, by omega, by omega, by omega, ⟨?_⟩⟩, by simp [intOf]; omega⟩
                  exact ⟨_, _, _, _, D, HE6.out.more (drawn_below ⟨q7, rfl⟩), HA6.out.below (drawn_below ⟨q7, rfl⟩), HS6.out.below (drawn_below ⟨q7, rfl⟩), HSEP.out, HSO5.out, HRO.out.send, htl, by omega, HDG.out⟩
            · have hc2' : (bits .and .i64 x 7 == 2) = false := by simpa using hc2
              obtain ⟨TA, ha1, ha2, ha3⟩ := HA.out.ex
              obtain ⟨A5, c5, hv5, hl5, hC5⟩ := Kd.R_reads ha1
              subst hv5
              obtain ⟨n5, hn5⟩ : ∃ n, n = TA.length := ⟨_, rfl⟩
              rw [← hn5] at hl5 hC5 HA HO HSEP ⊢
              have HC5 := Aside0.mk hC5; have HN5 := Aside0.mk hn5
              have hA2 := Aside0.mk ha2; have hA3 := Aside0.mk ha3
              have hn54 : n5 ≤ 4000 := by omega
              clear ha1 ha2 ha3 hC5 hn5
              by_cases hn0 : 0 < n5
              · have d5 : decide (0 < n5) = true := decide_eq_true hn0
                have d5' : decide (0 < (n5 : Int)) = true := decide_eq_true (by omega)
                have hand := and_4095 (x / 8)
                have hand' := and_4095 (x / 2 ^ 3)
                obtain ⟨y, hy⟩ : ∃ y, y = x / 8 % 4096 := ⟨_, rfl⟩
                rw [← hy] at hand
                rw [show x / 2 ^ 3 = x / 8 by rfl, ← hy] at hand'
                have hy0 : 0 ≤ y ∧ y < 4096 := by omega
                clear hy
                obtain ⟨ix, hix⟩ : ∃ ix : Nat, y % (n5 : Int) = (ix : Int) := ⟨(y % (n5 : Int)).toNat, (Int.toNat_of_nonneg (Int.emod_nonneg _ (by omega))).symm⟩
                have hixl : ix < n5 := by have := Int.emod_lt_of_pos y (show 0 < (n5 : Int) by omega); omega
                have hixT : ix < TA.length := by have := HN5.out; omega
                have hixD : ix < D.length := by have := hA2.out; omega
                obtain ⟨ad5, e5, hct⟩ := C_tri_at (show Kd.C KSl wr A5 TA.length TA by have h := HC5.out; rw [HN5.out] at h; exact h) ix hixT
                subst e5
                obtain ⟨hn6, hnc6, hC6⟩ := RS.C (hA3.out ix TA[ix] D[ix] (List.getElem?_eq_getElem hixT) (List.getElem?_eq_getElem hixD))
                have hdg := HDG.out D[ix] (List.getElem_mem hixD)
                have hdr := hdg.range
                obtain ⟨t, ht⟩ : ∃ t, t = TA[ix] := ⟨_, rfl⟩
                rw [← ht] at hct hn6 hnc6 hC6
                obtain ⟨A6, n6, c6⟩ := t
                change n6 = _ at hn6
                change _ ≤ c6 at hnc6
                change Kd.C (Kd.int .u8) _ A6 _ _ at hC6
                replace hct : wr.cell? (ad5.add ix) = some (Value.slice A6 n6 c6) := hct
                generalize D[ix] = d at hn6 hnc6 hC6 hdg hdr
                obtain ⟨m, s0, p, b, g1, g2, g3, g4, g5, rfl⟩ := hdg
                have hrv := HE.out.swap.recv HT.out A6 c6 n6 _ hn6.symm hC6 (by omega) hdr.1 (by omega)
                have hro := recv_once (s0 := s0) (by omega) htl HRO.out g1 g3 g5
                generalize dgF s0 (numO F m) b p = d at hrv hro
                obtain ⟨tb, htb⟩ : ∃ tb, tb = (recvF sb d).2.2.1 := ⟨_, rfl⟩
                rw [← htb] at hrv
                have HROB := Aside0.mk hro; have HTB := Aside0.mk htb; have HG1 := Aside0.mk g1
                clear hro htb ht hn6 hnc6 hC6 hdr g1 g2 g3 g4 g5
                go_wp2_with fail
                ((with_reducible refine hrv.mono ?_); rintro e_ W5 ⟨vm, wsb5, rfl, hm5, hE5, hk5⟩)
                have HM5 := Aside0.mk hm5; have HE5 := Aside0.mk hE5.swap
                have HA5 := Aside0.mk (HA.out.keeps HE.out.two hk5); have HS5 := Aside0.mk (HS.out.keeps HE.out.two hk5)
                clear hrv hm5 hE5 hk5 hct
                cases tb with
                | false =>
                  have hro := HROB.out
                  rw [← HTB.out] at hro
                  rcases hro with ⟨_, hro⟩ | ⟨h, _⟩
                  · have HRO5 := Aside0.mk hro
                    clear hro
                    go_wp2
                    refine ⟨⟨i + 1, k, told, S, by go_num, rfl, rfl, by omega, by omega, by omega, by omega, ⟨?_⟩⟩, by simp [intOf]; omega⟩
                    exact ⟨_, _, _, _, D, HE5.out, HA5.out, HS5.out, HSEP.out, HSO.out, HRO5.out, htl, by omega, HDG.out⟩
                  · cases h
                | true =>
                  have hro := HROB.out
                  rw [← HTB.out] at hro
                  rcases hro with ⟨h, _⟩ | ⟨_, htm, hob, hlb, hro⟩
                  · cases h
                  · have HRO5 := Aside0.mk hro
                    rw [hob] at HM5
                    have hla := Last_calls gb (recvF sb d).1 wsb5 W5 HE5.out.two
                    rw [hlb] at hla
                    clear hro hob hlb
                    go_wp2_with fail
                    ((with_reducible refine hla.mono ?_); rintro e_ W6 ⟨rfl, q6, rfl⟩)
                    clear hla
                    have hmS : m < S.length := (List.getElem?_eq_some_iff.1 HG1.out).1
                    have hnum := number_calls w (W5.drewN q6) u11 S (HS5.out.below (drawn_below ⟨q6, rfl⟩)) (below_step HE5.out.below (drawn_below ⟨q6, rfl⟩)) (by omega) _ vm b (HM5.out.below (drawn_below ⟨q6, rfl⟩)) told m F hF0 htm HG1.out
                    go_wp2_with fail
                    ((with_reducible refine hnum.mono ?_); rintro e_ W7 ⟨rfl, q7, rfl⟩)
                    clear hnum
                    have hbl : Aside0 (Below W5.heap.size W5 (W5.drewN (q6 + q7))) := ⟨drawn_below ⟨q6 + q7, rfl⟩⟩
                    go_wp2
                    refine ⟨⟨i + 1, k, m + 1, S, by go_num, rfl, by go_num, by omega, by omega, by omega, by omega, ⟨?_⟩⟩, by simp [intOf]; omega⟩
                    exact ⟨_, _, _, _, D, HE5.out.more hbl.out, HA5.out.below hbl.out, HS5.out.below hbl.out, HSEP.out, HSO.out.told (by omega), HRO5.out, by omega, by omega, HDG.out⟩
              · have d5 : decide (0 < n5) = false := decide_eq_false hn0
                have d5' : decide (0 < (n5 : Int)) = false := decide_eq_false (by omega)
                go_wp2
                exact ⟨⟨i + 1, k, told, S, by go_num, rfl, rfl, by omega, by omega, by omega, by omega, HO⟩, by simp [intOf]; omega⟩
      · have dy : decide (i < 400) = false := decide_eq_false hy
        have dy' : decide ((i : Int) < 400) = false := decide_eq_false (by omega)
        obtain ⟨sa, wsa, sb, wsb, D, hE, _⟩ := HO.out
        have HE := Aside0.mk hE.below
        clear hE
        go_wp2
        go_ret
        exact ⟨rfl, HE.out⟩
    · have dx : decide (i < m2) = false := decide_eq_false hx
      obtain ⟨sa, wsa, sb, wsb, D, hE, _⟩ := HO.out
      have HE := Aside0.mk hE.below
      clear hE
      go_wp2
      go_ret
      exact ⟨rfl, HE.out⟩
end Go.Proofs.YtbdocgddidcfeaaDoor
