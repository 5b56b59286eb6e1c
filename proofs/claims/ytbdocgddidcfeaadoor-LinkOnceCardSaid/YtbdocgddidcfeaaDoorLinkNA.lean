/- What Send wants: laws without a walk. -/
import Derived.Test.YtbdocgddidcfeaaDoorLinkN
namespace Go.Proofs.YtbdocgddidcfeaaDoor
open Go.RowKit Go.Proofs.YtbdocgddidcfeaaDoorW.PrintWords Go.Proofs.YtbdocgddidcfeaaDoorW.PrintLast Go.Proofs.YtbdocgddidcfeaaDoorW.PrintMore
set_option linter.unusedVariables false
set_option linter.unusedSimpArgs false

theorem sent_keeps {W W' : World} {gs : Option Nat} {sv : Value} {l : List Int} (h : SentAt W sv l gs) (hgr : W.grownBy W' gs) :
    (∀ ma ak, IM .u16 RT W ma ak → IM .u16 RT W' ma ak) ∧ (∀ mp p mb, PartsAt W mp p mb → PartsAt W' mp p mb) := by
  refine ⟨fun ma ak hm => ?_, fun mp p mb hp => hp.same (fun b e => ?_) (fun b cs hb => ?_)⟩
  · obtain ⟨es, clock, h1, h2⟩ := hm
    exact ⟨es, clock, sent_far h hgr h1 (fun cs e => by cases e), h2⟩
  · rcases hp with ⟨_, _, e2⟩ | ⟨b', e1, _, es, clock, h1, _⟩
    · rw [e] at e2; cases e2
    · rw [e] at e1; cases e1
      rw [h1]
      exact sent_far h hgr h1 (fun cs e => by cases e)
  · rw [hb]
    exact sent_far h hgr hb (fun cs e => by injection e with _ e; cases e)
theorem Keeps.of_grown' {w w' : World} {ws : List Nat} {g : Option Nat} (h : w.grownBy w' g) (hg : ∀ b, g = some b → b ∈ ws) : Keeps w w' ws :=
  ⟨h.os, h.tape, h.output, h.size, fun k hk hn => h.block k hk (fun e => hn (hg k e.symm))⟩
/-- A map is written: the link's struct, its row and its other map stand. -/
theorem map_keeps {W W' : World} {ma : Nat} {ak : List (Int × Unit)} (hm : IM .u16 RT W ma ak) (hgr : W.grownBy W' (some ma)) :
    (∀ (g : Nat) (L : Array Value), W.heap[g]? = some (Obj.cells L 64 (0, 0)) → W'.heap[g]? = some (Obj.cells L 64 (0, 0))) ∧ (∀ sv l gs, SentAt W sv l gs → SentAt W' sv l gs) ∧ (∀ mp p mb, mb ≠ some ma → PartsAt W mp p mb → PartsAt W' mp p mb) := by
  refine ⟨fun g L hg => (map_far hm hgr hg).trans hg, fun sv l gs h => h.same (fun b e => ?_), fun mp p mb hne h => h.same (fun b e => ?_) (fun b cs hb => map_far hm hgr hb)⟩
  · rcases h with ⟨_, _, e2⟩ | ⟨b', off, cap, cs, e1, _, h3, _⟩
    · rw [e] at e2; cases e2
    · rw [e] at e1; cases e1
      exact map_far hm hgr h3
  · rcases h with ⟨_, _, e2⟩ | ⟨b', e1, _, h3⟩
    · rw [e] at e2; cases e2
    · rw [e] at e1; cases e1
      exact hgr.block b h3.lt (fun e2 => hne (by rw [e, e2]))
theorem sendS_okay {s : LS} (h : Okay s) : Okay (sendS s) := by
  obtain ⟨h1, h2, h3, h4, h5, h6, h7, h8⟩ := h
  refine ⟨⟨by show 0 ≤ (s.next + 1) % 65536; omega, by show (s.next + 1) % 65536 < 65536; omega⟩, h2, h3, h4, h5, ?_, ?_, h8⟩
  · intro x hx
    have hm : x ∈ s.sent ++ [s.next] := by
      unfold sendS at hx
      simp only [] at hx
      split at hx
      · exact List.mem_of_mem_drop hx
      · exact hx
    rcases List.mem_append.1 hm with hm | hm
    · exact h6 x hm
    · rw [List.mem_singleton.1 hm]; exact h1
  · unfold sendS
    simp only []
    split
    · rw [List.length_drop]; simp only [List.length_append, List.length_cons, List.length_nil]; omega
    · omega
/-- What stands behind the first half of Send. -/
def Sent1 (w : World) (g : Nat) (s : LS) (ws : List Nat) (wc : World) : Prop := ∃ ws', LinkM wc g (sendS s) ws' ∧ (∀ k ∈ ws', k ∈ ws ∨ w.heap.size ≤ k) ∧ Keeps w wc ws
theorem sentAt_block {W : World} {sv : Value} {l : List Int} {gs : Option Nat} (h : SentAt W sv l gs) : ∀ b, gs = some b → b < W.heap.size := by
  intro b e
  rcases h with ⟨_, _, e2⟩ | ⟨b', off, cap, cs, e1, _, h3, _⟩
  · rw [e] at e2; cases e2
  · rw [e] at e1; cases e1
    exact (Array.getElem?_eq_some_iff.1 h3).1

abbrev Tri := Option Addr × Nat × Nat
def triV (t : Tri) : Value := .slice t.1 t.2.1 t.2.2
abbrev KSl : Kd Tri := Kd.scalar triV (fun _ => rfl)
/-- An own row of own rows of bytes, each behind the last, none the outer one. -/
def DgRows (base : Nat) (W : World) (v : Value) (D : Nat → List Int) (T : List Tri) : Prop :=
  Kd.R KSl 30 W base (fun _ => True) v T ∧ (∀ (i : Nat) x, T[i]? = some x → RS base W (triV x) (D i)) ∧
  (∀ (i j : Nat) x y, i < j → T[i]? = some x → T[j]? = some y → ∀ a b, (triV x).ownBlock = some a → (triV y).ownBlock = some b → a < b) ∧
  (∀ (i : Nat) x, T[i]? = some x → ∀ a, (triV x).ownBlock = some a → v.ownBlock ≠ some a)
theorem DgRows.nil (base : Nat) (W : World) (D : Nat → List Int) : DgRows base W (.slice none 0 0) D [] := ⟨Kd.R_nil _ _ _ _ _, by simp, by simp, by simp⟩
theorem DgRows.below {base : Nat} {W W1 : World} {v : Value} {D : Nat → List Int} {T : List Tri} (h : DgRows base W v D T) (hb : Below W.heap.size W W1) : DgRows base W1 v D T :=
  ⟨Kd.R_below h.1 hb, fun i x hx => (h.2.1 i x hx).below hb, h.2.2⟩
theorem tri_own {base : Nat} {W : World} {x : Tri} {l : List Int} (h : RS base W (triV x) l) : ∀ a, (triV x).ownBlock = some a → base ≤ a ∧ a < W.heap.size := fun a ha => h.own a ha
/-- One more row. -/
theorem DgRows.push {base : Nat} {W W1 : World} {v v1 : Value} {D : Nat → List Int} {T : List Tri} {x : Tri} {S : Nat} (h : DgRows base W v D T) (hS : ∀ t ∈ T, ∀ a, (triV t).ownBlock = some a → a < S) (hx : RS S W (triV x) (D T.length)) (hbS : base ≤ S)
    (h1 : Kd.R KSl 30 W1 base (fun _ => True) v1 (T ++ [x])) (hg : W.grownBy W1 v.ownBlock) (hv : v1.ownBlock = v.ownBlock ∨ ∃ b, v1.ownBlock = some b ∧ W.heap.size ≤ b) (hvS : ∀ a, v.ownBlock = some a → a < S) :
    DgRows base W1 v1 D (T ++ [x]) := by
  have hxv : ∀ a, (triV x).ownBlock = some a → v.ownBlock ≠ some a := fun a ha e => by have := (hx.own a ha).1; have := hvS a e; omega
  have mv : ∀ (i : Nat) y, (T ++ [x])[i]? = some y → (RS base W (triV y) (D i) ∧ ∀ a, (triV y).ownBlock = some a → v.ownBlock ≠ some a) := by
    intro i y hy
    by_cases hi : i < T.length
    · rw [List.getElem?_append_left hi] at hy
      exact ⟨h.2.1 i y hy, h.2.2.2 i y hy⟩
    · rw [List.getElem?_append_right (by omega)] at hy
      have hi0 : i - T.length = 0 := by
        have := (List.getElem?_eq_some_iff.1 hy).1
        simpa using this
      rw [hi0] at hy
      have hie : i = T.length := by omega
      simp only [List.getElem?_cons_zero, Option.some.injEq] at hy
      subst hy; subst hie
      exact ⟨hx.lower hbS, hxv⟩
  refine ⟨h1, fun i y hy => ?_, fun i j y z hij hy hz a b ha hb => ?_, fun i y hy a ha => ?_⟩
  · exact (mv i y hy).1.move (fun b hb hlt => hg.block b hlt (fun e => (mv i y hy).2 b hb e.symm))
  · by_cases hj : j < T.length
    · rw [List.getElem?_append_left hj] at hz
      rw [List.getElem?_append_left (by omega)] at hy
      exact h.2.2.1 i j y z hij hy hz a b ha hb
    · rw [List.getElem?_append_right (by omega)] at hz
      have hj0 : j - T.length = 0 := by
        have := (List.getElem?_eq_some_iff.1 hz).1
        simpa using this
      rw [hj0] at hz
      simp only [List.getElem?_cons_zero, Option.some.injEq] at hz
      subst hz
      rw [List.getElem?_append_left (by omega)] at hy
      have h3 := hS y (List.mem_of_getElem? hy) a ha
      have h4 := (hx.own b hb).1
      omega
  · rcases hv with e | ⟨b, e, hb⟩
    · rw [e]; exact (mv i y hy).2 a ha
    · rw [e]
      have := ((mv i y hy).1.own a ha).2
      intro e2
      injection e2 with e2
      omega
theorem C_tri (w : World) (x : Tri) (ty : TypeId) : Kd.C KSl (w.alloc (.cells #[triV x] ty)) (some ⟨w.heap.size, 0, none⟩) 1 [x] := by
  refine ⟨rfl, by decide, fun _ => ⟨_, rfl, fun j p hj => ⟨[triV p], rfl, rfl, fun i u hu => ?_⟩⟩⟩
  have hj0 : j = 0 := by
    have := (List.getElem?_eq_some_iff.1 hj).1
    simpa using this
  subst hj0
  simp only [List.getElem?_cons_zero, Option.some.injEq] at hj
  subst hj
  cases i with
  | zero =>
    simp only [List.getElem?_cons_zero, Option.some.injEq] at hu
    subst hu
    rw [add_plain]
    unfold World.cell?
    rw [(MapKept.heap_alloc w _).1]
    rfl
  | succ i => simp at hu
theorem infoSl : (Tryd.prog.info? 30).map (fun i => (i.zero, i.size, i.bytes)) = some (some (.slice none 0 0), 1, 24) := by kernel_rfl
theorem sent_slide2 {w : World} {ad : Addr} {N c : Nat} {x : Int} {l : List Int} {gs : Option Nat} (h : SentAt w (.slice (some ad) (N + 1) c) (x :: l) gs) (hc : c ≠ 1) : SentAt w (.slice (some ⟨ad.block, ad.off + 1, none⟩) N (c - 1)) l gs := by
  rcases h with ⟨e, _, _⟩ | ⟨b, off, cap, cs, e1, e2, h3, h4, h5, h6, h7⟩
  · cases e
  · injection e2 with e2 e4 e5
    injection e2 with e2
    subst e2; subst e5
    have hN : N = l.length := by simpa using e4
    rw [List.length_cons] at h4
    refine .inr ⟨b, off + 1, c - 1, cs, e1, by rw [hN], h3, by omega, by omega, by omega, fun j y hj => ?_⟩
    have := h7 (j + 1) y (by simpa using hj)
    rw [show off + 1 + j = off + (j + 1) by omega]
    exact this
/-- A store into an own row. -/
theorem RF.put {base : Nat} {w : World} {gb c N : Nat} {xs sp : List Int} (h : RF base w (.slice (some ⟨gb, 0, none⟩) N c) xs sp) (i : Nat) (x : Int) (hi : i < N) :
    RF base (w.setCell ⟨gb, i, none⟩ (.int .u8 x)) (.slice (some ⟨gb, 0, none⟩) N c) (xs.set i x) sp := by
  rcases h with ⟨e, _, _⟩ | ⟨g, e, h2, h3, h4, h5⟩
  · cases e
  · injection e with e1 e2 e3
    injection e1 with e1
    injection e1 with e1
    subst e1; subst e3; subst e2
    refine .inr ⟨gb, by simp, h2, ?_, by simpa using h4, h5⟩
    rw [blk_put h3 i (.int .u8 x) rfl]
    congr 2
    apply Array.ext'
    simp [List.map_set, List.set_append, hi]
theorem Tab.keeps {w w' : World} {ws : List Nat} (h : Tab w) (hk : Keeps w w' ws) (h0 : ∀ k ∈ ws, k ≠ 0) : Tab w' := by
  intro i hi
  have h1 := h i hi
  have hlt : 0 < w.heap.size := World.block_lt_of_cell? w _ h1
  rw [← h1]
  exact World.cell?_of_block (a := ⟨0, i, none⟩) (hk.2.2.2.2 0 hlt (fun hm => h0 0 hm rfl))
theorem DgRows.lower {base base' : Nat} {W : World} {v : Value} {D : Nat → List Int} {T : List Tri} (h : DgRows base W v D T) (hb : base' ≤ base) : DgRows base' W v D T :=
  ⟨Kd.R_lower h.1 hb, fun i x hx => (h.2.1 i x hx).lower hb, h.2.2⟩
/-- What Send tells of its end. -/
def SndPost (w : World) (g : Nat) (ws : List Nat) (s : LS) (b : List Int) (e : Ending) (w' : World) : Prop :=
  ∃ v T ws' B, e = .returned (.tuple #[v, .int .i64 s.next, .int .i64 0]) ∧ T.length = manyF b.length ∧ w.heap.size ≤ B ∧ (∀ k ∈ ws', k < B) ∧ DgRows B w' v (dgF s s.next b) T ∧ LinkM w' g (sendS s) ws' ∧ (∀ k ∈ ws', k ∈ ws ∨ w.heap.size ≤ k) ∧ Keeps w w' ws
theorem made211 (W : World) (B : Nat) (hB : B ≤ W.heap.size) : RF B (W.alloc (.cells (madeCells #[.int .u8 0] 211) 5)) (.slice (some ⟨W.heap.size, 0, none⟩) 11 211) [0, 0, 0, 0, 0, 0, 0, 0, 0, 0, 0] (List.replicate 200 0) := by
  have he : ([0, 0, 0, 0, 0, 0, 0, 0, 0, 0, 0] : List Int) = List.replicate 11 0 := rfl
  rw [he]
  refine .inr ⟨W.heap.size, by rw [List.length_replicate, List.length_replicate], hB, ?_, by rw [List.length_replicate, List.length_replicate]; decide, zeros_range _⟩
  rw [(MapKept.heap_alloc W _).1, made_one, List.replicate_append_replicate, List.map_replicate]
theorem RF.cell {base : Nat} {w : World} {gb c n : Nat} {xs sp : List Int} (h : RF base w (.slice (some ⟨gb, 0, none⟩) n c) xs sp) (i : Nat) (hi : i < xs.length) : w.cell? ⟨gb, i, none⟩ = some (.int .u8 (xs.getD i 0)) ∧ w.frozen? ⟨gb, i, none⟩ = false := by
  rcases h with ⟨e, _, _⟩ | ⟨g, e, h2, h3, h4, h5⟩
  · cases e
  · injection e with e1 e2 e3
    injection e1 with e1
    injection e1 with e1
    subst e1
    refine ⟨?_, blk_frozen h3 i⟩
    rw [blk_cell h3 i]
    rw [List.getElem?_toArray, List.getElem?_map, List.getElem?_append_left hi, List.getElem?_eq_getElem hi, List.getD_eq_getElem?_getD, List.getElem?_eq_getElem hi]
    rfl
/-- The head behind k rounds. -/
def hdK (s : LS) (k : Int) : List Int := [1, s.last / 256, s.last % 256, if 0 < k then s.bits / 16777216 else 0, if 1 < k then s.bits / 65536 % 256 else 0, if 2 < k then s.bits / 256 % 256 else 0, if 3 < k then s.bits % 256 else 0, 0, 0, 0, 0]
theorem hdK_end (s : LS) (h : s.any = true) : hdK s 4 = headF s ++ [0, 0, 0, 0] := by
  unfold hdK headF
  rw [h]
  simp
theorem hdK_0 (s : LS) : (hdK s 0).set 3 (s.bits / 16777216) = hdK s 1 := by simp [hdK]
theorem hdK_1 (s : LS) : (hdK s 1).set 4 (s.bits / 65536 % 256) = hdK s 2 := by simp [hdK]
theorem hdK_2 (s : LS) : (hdK s 2).set 5 (s.bits / 256 % 256) = hdK s 3 := by simp [hdK]
theorem hdK_3 (s : LS) : (hdK s 3).set 6 (s.bits % 256) = hdK s 4 := by simp [hdK]
theorem hd_zero (s : LS) : (headF s ++ [0, 0, 0, 0]).getD 7 0 = 0 ∧ (headF s ++ [0, 0, 0, 0]).getD 8 0 = 0 ∧ (headF s ++ [0, 0, 0, 0]).getD 9 0 = 0 ∧ (headF s ++ [0, 0, 0, 0]).getD 10 0 = 0 ∧ (headF s ++ [0, 0, 0, 0]).length = 11 := by
  unfold headF
  cases s.any <;> simp
theorem hd_four (s : LS) (a b c d : Int) : ((((headF s ++ [0, 0, 0, 0]).set 7 a).set 8 b).set 9 c).set 10 d = headF s ++ [a, b, c, d] := by
  unfold headF
  cases s.any <;> simp
theorem part_eq (b : List Int) (i : Int) (h0 : 0 ≤ i) : (b.take (min (b.length : Int) ((i + 1) * 200)).toNat).drop (i * 200).toNat = partF b i.toNat := by
  unfold partF
  rw [List.drop_take, show (i * 200).toNat = 200 * i.toNat by omega]
  by_cases h : (i + 1) * 200 ≤ (b.length : Int)
  · rw [show (min (b.length : Int) ((i + 1) * 200)).toNat - 200 * i.toNat = 200 by omega]
  · rw [List.take_of_length_le (by rw [List.length_drop]; omega), List.take_of_length_le (by rw [List.length_drop]; omega)]
theorem part_range {L : Nat} {i M : Int} (hM : M = max 1 (((L : Int) + 200 - 1) / 200)) (h0 : 0 ≤ i) (h1 : i < M) : i * 200 ≤ min (L : Int) ((i + 1) * 200) := by omega
theorem part_len (b : List Int) (i : Nat) : (partF b i).length ≤ 200 := by
  unfold partF
  rw [List.length_take]
  omega
theorem head_len (s : LS) : (headF s).length = 7 := by
  unfold headF
  split <;> rfl
theorem raw_len (s : LS) (n : Int) (b : List Int) (i : Nat) : (rawF s n b i).length = 11 + (partF b i).length := by
  unfold rawF
  simp [head_len]
  omega
theorem tri_lt {base : Nat} {W : World} {v : Value} {T : List Tri} (h : Kd.R KSl 30 W base (fun _ => True) v T) : ∀ a, v.ownBlock = some a → a < W.heap.size := fun a ha => ((Kd.R_bound h).1 a ha).2.2.1
theorem manyF_int (L : Nat) : (manyF L : Int) = max 1 (((L : Int) + 200 - 1) / 200) := by
  unfold manyF
  omega
theorem manyF_le {L : Nat} (h : L ≤ 2000) : 1 ≤ manyF L ∧ manyF L ≤ 10 := by
  unfold manyF
  omega
end Go.Proofs.YtbdocgddidcfeaaDoor
