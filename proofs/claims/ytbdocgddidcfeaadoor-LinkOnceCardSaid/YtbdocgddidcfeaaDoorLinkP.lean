/- Two ends side by side; awake. -/
import Derived.Test.YtbdocgddidcfeaaDoorLinkO
import Derived.Test.YtbdocgddidcfeaaDoorLinkM
namespace Go.Proofs.YtbdocgddidcfeaaDoor
open Go.RowKit Go.Proofs.YtbdocgddidcfeaaDoorW.PrintWords Go.Proofs.YtbdocgddidcfeaaDoorW.PrintLast Go.Proofs.YtbdocgddidcfeaaDoorW.PrintMore
set_option linter.unusedVariables false
set_option linter.unusedSimpArgs false

theorem C_preM (w : World) (xs : List Int) (rest : List Value) (ty : TypeId) (fr : Nat × Nat) (hl : xs.length ≤ 9223372036854775807) (w1 : World) (hw : w1 = w.alloc (Obj.cells (xs.map (Value.int .u8) ++ rest).toArray ty fr)) :
    Kd.C (Kd.int .u8) w1 (some ⟨w.heap.size, 0, none⟩) xs.length xs := by
  subst hw
  refine C_of_cells hl (fun j x hx => ?_)
  have hj : j < xs.length := (List.getElem?_eq_some_iff.1 hx).1
  have h1 : (xs.map (Value.int .u8) ++ rest)[j]? = some (.int .u8 x) := by rw [List.getElem?_append_left (by simpa using hj), List.getElem?_map, hx]; rfl
  rw [World.cell?_alloc_mark]
  simpa using h1
/-- []byte of bytes: the same row, marked. -/
theorem conv_mark (w : World) (C : Array Value) (n : Nat) : (convert 30 30 (.slice (some ⟨w.heap.size, 0, none⟩) n n)).run Tryd.prog (w.alloc (Obj.cells C 5)) =
    .ok (.slice (some ⟨w.heap.size, 0, none⟩) n n) (w.alloc (Obj.cells C 5 (C.size, C.size + 1))) := by
  have hsh : (w.alloc (.cells C 5)).shape? w.heap.size = some (5, C.size) := by
    have : (w.alloc (.cells C 5)).heap[w.heap.size]? = some (.cells C 5) := by
      show (w.heap.push (.cells C 5))[w.heap.size]? = _
      simp
    unfold World.shape?
    rw [this]
  have hfr : (w.alloc (.cells C 5)).freeze ⟨w.heap.size, C.size, none⟩ 1 = w.alloc (.cells C 5 (C.size, C.size + 1)) := by
    have hm : ∀ (a : Array Obj) (x : Obj) (f : Obj → Obj), (a.push x).modify a.size f = a.push (f x) := by
      intro a x f
      apply Array.ext
      · simp
      · intro i h1 h2
        simp only [Array.getElem_modify, Array.getElem_push]
        by_cases h : a.size = i
        · subst h
          simp
        · have hi : i < a.size := by simp at h1; omega
          simp [h, hi]
    unfold World.freeze
    rw [if_neg (by decide)]
    show ({ w.alloc (.cells C 5) with heap := (w.heap.push (.cells C 5)).modify w.heap.size _ } : World) = _
    rw [hm]
    rfl
  simp [convert, run_underlying Tryd.underlying30, run_underlying Tryd.underlying5, markStringish, hsh]
  exact hfr
theorem LinkM.noSl {W : World} {g : Nat} {s : LS} {ws : List Nat} (h : LinkM W g s ws) : ∀ k ∈ ws, ∀ cs : Array Value, W.heap[k]? ≠ some (Obj.cells cs 30 (0, 0)) := by
  obtain ⟨sv, ma, mp, gs, mb, h1, h2, h3, h4, h5, h6, h7, h8⟩ := h
  intro b hm cs hc
  rw [h7] at hm
  simp only [wset, List.mem_append, List.mem_cons, List.not_mem_nil, or_false, Option.mem_toList] at hm
  rcases hm with ((rfl | rfl) | hm) | hm
  · rw [h1] at hc; injection hc with hc; injection hc with _ hc; cases hc
  · obtain ⟨es, clock, e, _⟩ := h3; rw [e] at hc; cases hc
  · rcases h2 with ⟨_, _, e⟩ | ⟨b', _, _, _, e, _, e3, _⟩
    · rw [e] at hm; cases hm
    · rw [e] at hm; cases hm; rw [e3] at hc; injection hc with hc; injection hc with _ hc; cases hc
  · rcases h4 with ⟨_, _, e⟩ | ⟨b', e, _, es, clock, e3, _⟩
    · rw [e] at hm; cases hm
    · rw [e] at hm; cases hm; rw [e3] at hc; cases hc
theorem LinkM.keeps {W W' : World} {g g' : Nat} {s s' : LS} {ws ws' : List Nat} (h : LinkM W g s ws) (hl : LinkM W g' s' ws') (hd : ∀ k ∈ ws, k ∉ ws') (hk : Keeps W W' ws') : LinkM W' g s ws :=
  h.frame (fun b hb => hk.2.2.2.2 b (h.lt b hb) (hd b hb)) (fun b cs hb => (hk.u8 hl hb).trans hb.symm)
theorem RS.keeps {W W' : World} {base g : Nat} {s : LS} {ws : List Nat} {v : Value} {l : List Int} (h : RS base W v l) (hl : LinkM W g s ws) (hk : Keeps W W' ws) : RS base W' v l := by
  obtain ⟨sp, h⟩ := h
  refine ⟨sp, ?_⟩
  rcases h with h | ⟨gb, h1, h2, h3, h4⟩
  · exact .inl h
  · exact .inr ⟨gb, h1, h2, hk.u8 hl h3, h4⟩
theorem sl_keeps {W W' : World} {base g : Nat} {s : LS} {ws : List Nat} {v : Value} {T : List Tri} (h : Kd.R KSl 30 W base (fun _ => True) v T) (hl : LinkM W g s ws) (hk : Keeps W W' ws) : Kd.R KSl 30 W' base (fun _ => True) v T := by
  refine Kd.R_mono (Kd.R_move (Kd.R_bound h) (fun k hkk => ?_)) (fun _ _ => trivial)
  obtain ⟨_, _, hlt, q, hq, cs, hc⟩ := hkk
  refine hk.2.2.2.2 k hlt (fun hm => ?_)
  have hq' : q = 30 := by
    rcases List.mem_cons.1 hq with e | e
    · exact e
    · cases e
  subst hq'
  exact hl.noSl k hm cs hc
theorem DgRows.keeps {W W' : World} {base g : Nat} {s : LS} {ws : List Nat} {v : Value} {D : Nat → List Int} {T : List Tri} (h : DgRows base W v D T) (hl : LinkM W g s ws) (hk : Keeps W W' ws) : DgRows base W' v D T :=
  ⟨sl_keeps h.1 hl hk, fun i x hx => (h.2.1 i x hx).keeps hl hk, h.2.2⟩
theorem LinkM.out {W : World} {g : Nat} {s : LS} {ws : List Nat} (h : LinkM W g s ws) (B : Nat) (hB : ∀ k ∈ ws, B ≤ k) (h0 : 0 < B) : ∀ k ∈ ws, k ≠ 0 := fun k hk e => by have := hB k hk; omega
theorem Tab.pos {w : World} (h : Tab w) : 0 < w.heap.size := World.block_lt_of_cell? w _ (h 0 (by decide))

/-- Two ends that stand side by side. -/
structure Ends (w : World) (g1 : Nat) (s1 : LS) (ws1 : List Nat) (g2 : Nat) (s2 : LS) (ws2 : List Nat) (W : World) : Prop where
  one : LinkM W g1 s1 ws1
  two : LinkM W g2 s2 ws2
  apart : ∀ k ∈ ws1, k ∉ ws2
  own1 : ∀ k ∈ ws1, w.heap.size ≤ k
  own2 : ∀ k ∈ ws2, w.heap.size ≤ k
  below : Below w.heap.size w W
theorem Ends.swap {w : World} {g1 : Nat} {s1 : LS} {ws1 : List Nat} {g2 : Nat} {s2 : LS} {ws2 : List Nat} {W : World} (h : Ends w g1 s1 ws1 g2 s2 ws2 W) : Ends w g2 s2 ws2 g1 s1 ws1 W :=
  ⟨h.two, h.one, fun k hk hm => h.apart k hm hk, h.own2, h.own1, h.below⟩
theorem Ends.more {w : World} {g1 : Nat} {s1 : LS} {ws1 : List Nat} {g2 : Nat} {s2 : LS} {ws2 : List Nat} {W W' : World} (h : Ends w g1 s1 ws1 g2 s2 ws2 W) (hb : Below W.heap.size W W') : Ends w g1 s1 ws1 g2 s2 ws2 W' :=
  ⟨h.one.below hb, h.two.below hb, h.apart, h.own1, h.own2, below_step h.below hb⟩
theorem Ends.step {w : World} {g1 : Nat} {s1 s1' : LS} {ws1 ws1' : List Nat} {g2 : Nat} {s2 : LS} {ws2 : List Nat} {W W' : World} (h : Ends w g1 s1 ws1 g2 s2 ws2 W) (hl : LinkM W' g1 s1' ws1') (hn : ∀ k ∈ ws1', k ∈ ws1 ∨ W.heap.size ≤ k) (hk : Keeps W W' ws1) : Ends w g1 s1' ws1' g2 s2 ws2 W' := by
  have hs := below_size h.below
  refine ⟨hl, h.two.keeps h.one (fun k hk hm => h.apart k hm hk) hk, fun k hk hm => ?_, fun k hk => ?_, h.own2, ?_⟩
  · rcases hn k hk with e | e
    · exact h.apart k e hm
    · have := h.two.lt k hm; omega
  · rcases hn k hk with e | e
    · exact h.own1 k e
    · omega
  · exact ((Keeps.of_below h.below ws1).trans hk (fun k hk => .inl hk)).below (Nat.le_refl _) h.own1
theorem C_block {W : World} {b : Nat} {cs : Array Value} {ty : TypeId} {fr : Nat × Nat} (hb : W.heap[b]? = some (Obj.cells cs ty fr)) (xs : List Int) (hx : ∀ (j : Nat) x, xs[j]? = some x → cs[j]? = some (.int .u8 x)) (hl : xs.length ≤ 9223372036854775807) : Kd.C (Kd.int .u8) W (some ⟨b, 0, none⟩) xs.length xs := by
  refine ⟨rfl, hl, fun _ => ⟨_, rfl, fun j p hj => ⟨[.int .u8 p], rfl, rfl, fun i u hu => ?_⟩⟩⟩
  cases i with
  | zero =>
    simp only [List.getElem?_cons_zero, Option.some.injEq] at hu
    subst hu
    show W.cell? ((⟨b, 0, none⟩ : Addr).add (j * 1 + 0)) = _
    rw [Nat.mul_one, Nat.add_zero, add_plain]
    unfold World.cell?
    rw [hb]
    exact hx j p hj
  | succ i => simp at hu
theorem sl_at {W : World} {base : Nat} {ok : Nat → Prop} {v : Value} {T : List Tri} (h : Kd.R KSl 30 W base ok v T) (hT : 0 < T.length) : ∃ gb c, v = .slice (some ⟨gb, 0, none⟩) T.length c ∧ base ≤ gb ∧ gb < W.heap.size ∧ T.length ≤ c ∧ ∀ (i : Nat) x, T[i]? = some x → W.cell? ⟨gb, i, none⟩ = some (triV x) := by
  obtain ⟨A, c, rfl, hlc, hC⟩ := Kd.R_reads h
  obtain ⟨inner, ho⟩ := Kd.R_own h
  have hbd := Kd.R_bound h
  rcases ho.2 with ⟨e, _⟩ | ⟨g, cap, cur, e, hg, hh, _⟩
  · injection e with e1 e2 e3; omega
  · injection e with e1 e2 e3
    subst e1
    refine ⟨g, c, rfl, hg, (Array.getElem?_eq_some_iff.1 hh).1, hlc, fun i x hx => ?_⟩
    obtain ⟨ad, hA, hp⟩ := hC.2.2 hT
    cases hA
    obtain ⟨cs, _, hK, hc⟩ := hp i x hx
    have := hc 0 (triV x) (by rw [show cs = [triV x] from hK]; rfl)
    rw [show i * KSl.sz + 0 = i from by show i * 1 + 0 = i; omega, add_plain] at this
    exact this

theorem Ends.tab {w : World} {g1 : Nat} {s1 : LS} {ws1 : List Nat} {g2 : Nat} {s2 : LS} {ws2 : List Nat} {W : World} (h : Ends w g1 s1 ws1 g2 s2 ws2 W) (hT : Tab w) : Tab W := hT.below h.below
theorem Ends.send {w : World} {g1 : Nat} {s1 : LS} {ws1 : List Nat} {g2 : Nat} {s2 : LS} {ws2 : List Nat} {W : World} (E : Ends w g1 s1 ws1 g2 s2 ws2 W) (hT : Tab w) (A : Option Addr) (c n : Nat) (b : List Int) (hn : b.length = n) (hC : ∀ W', Keeps W W' ws1 → Kd.C (Kd.int .u8) W' A b.length b) (hc : n ≤ c) (hb : ∀ x ∈ b, 0 ≤ x ∧ x < 256) (hL : n ≤ 2000) :
    Calls Tryd.prog 12 #[.pointer (some ⟨g1, 0, none⟩), .slice A n c] W
      fun e w' => ∃ v T B ws1', e = .returned (.tuple #[v, .int .i64 s1.next, .int .i64 0]) ∧ T.length = manyF b.length ∧ w.heap.size ≤ B ∧ DgRows B w' v (dgF s1 s1.next b) T ∧ Ends w g1 (sendS s1) ws1' g2 s2 ws2 w' ∧ Keeps W w' ws1 := by
  subst hn
  refine (Send_calls g1 s1 ws1 A c b W E.one hC hc hb hL (E.tab hT) (E.one.out _ E.own1 hT.pos)).mono ?_
  rintro e w' ⟨v, T, ws', B, rfl, h1, h2, h3, h4, h5, h6, h7⟩
  exact ⟨v, T, B, ws', rfl, h1, Nat.le_trans (below_size E.below) h2, h4, E.step h5 h6 h7, h7⟩
theorem Ends.recv {w : World} {g1 : Nat} {s1 : LS} {ws1 : List Nat} {g2 : Nat} {s2 : LS} {ws2 : List Nat} {W : World} (E : Ends w g1 s1 ws1 g2 s2 ws2 W) (hT : Tab w) (A : Option Addr) (c n : Nat) (d : List Int) (hn : d.length = n) (hC : Kd.C (Kd.int .u8) W A d.length d) (hc : n ≤ c) (hd : ∀ x ∈ d, 0 ≤ x ∧ x < 256) (hl : n ≤ 140737488351232) :
    Calls Tryd.prog 13 #[.pointer (some ⟨g1, 0, none⟩), .slice A n c] W
      fun e w' => ∃ v ws1', e = .returned (.tuple #[v, .bool (recvF s1 d).2.2.1, .int .i64 (recvF s1 d).2.2.2]) ∧ RS W.heap.size w' v (recvF s1 d).2.1 ∧ Ends w g1 (recvF s1 d).1 ws1' g2 s2 ws2 w' ∧ Keeps W w' ws1 := by
  subst hn
  refine (Receive_calls A c d g1 s1 ws1 W E.one hC hc hd hl (E.tab hT)).mono ?_
  rintro e w' ⟨v, ws', rfl, h1, h2, h3, h4⟩
  exact ⟨v, ws', rfl, h1, E.step h2 h3 h4, h4⟩
theorem Ends.acked {w : World} {g1 : Nat} {s1 : LS} {ws1 : List Nat} {g2 : Nat} {s2 : LS} {ws2 : List Nat} {W : World} (E : Ends w g1 s1 ws1 g2 s2 ws2 W) :
    Calls Tryd.prog 14 #[.pointer (some ⟨g1, 0, none⟩)] W
      fun e w' => ∃ v, e = .returned v ∧ Kd.R (Kd.int .i64) 3 w' W.heap.size (fun _ => True) v (ackedF s1) ∧ Ends w g1 s1 ws1 g2 s2 ws2 w' ∧ Below W.heap.size W w' := by
  refine (Acked_calls g1 s1 ws1 W E.one).mono ?_
  rintro e w' ⟨v, rfl, h1, h2⟩
  exact ⟨v, rfl, h1, E.more h2, h2⟩
/-- Two bytes, laid by a conversion, are read in each world that keeps them. -/
theorem two_read {w : World} {g1 : Nat} {s1 : LS} {ws1 : List Nat} {g2 : Nat} {s2 : LS} {ws2 : List Nat} {W : World} (E : Ends w g1 s1 ws1 g2 s2 ws2 W) (x y : Int) :
    ∀ W', Keeps (W.alloc (Obj.cells #[.int .u8 x, .int .u8 y] 5 (2, 3))) W' ws1 → Kd.C (Kd.int .u8) W' (some ⟨W.heap.size, 0, none⟩) [x, y].length [x, y] := by
  intro W' hk
  have h0 := (MapKept.heap_alloc W (Obj.cells #[.int .u8 x, .int .u8 y] 5 (2, 3))).1
  have h1 := (hk.2.2.2.2 W.heap.size (Array.getElem?_eq_some_iff.1 h0).1 (fun hm => by have := E.one.lt _ hm; omega)).trans h0
  exact C_block h1 [x, y] (fun j z hj => by
    cases j with
    | zero => simp only [List.getElem?_cons_zero, Option.some.injEq] at hj; subst hj; rfl
    | succ j => cases j with
      | zero => simp only [List.getElem?_cons_succ, List.getElem?_cons_zero, Option.some.injEq] at hj; subst hj; rfl
      | succ j => simp at hj) (by simp)
theorem RS.C {base : Nat} {W : World} {t : Tri} {l : List Int} (h : RS base W (triV t) l) : t.2.1 = l.length ∧ l.length ≤ t.2.2 ∧ Kd.C (Kd.int .u8) W t.1 l.length l := by
  obtain ⟨A, n, c⟩ := t
  obtain ⟨h1, h2, h3⟩ := Kd.R_reads' h.R
  exact ⟨h1, by rw [← h1]; exact h2, h3⟩

theorem sl_cell {W : World} {base gb c : Nat} {ok : Nat → Prop} {n : Nat} {T : List Tri} (h : Kd.R KSl 30 W base ok (.slice (some ⟨gb, 0, none⟩) n c) T) (i : Nat) (x : Tri) (hx : T[i]? = some x) : W.cell? ⟨gb, i, none⟩ = some (triV x) := by
  obtain ⟨gb', c', e, _, _, _, h⟩ := sl_at h (by have := (List.getElem?_eq_some_iff.1 hx).1; omega)
  injection e with e1 e2 e3
  injection e1 with e1
  injection e1 with e1
  subst e1
  exact h i x hx
theorem la1_range : ∀ x ∈ la1, 0 ≤ x ∧ x < 256 := by decide +kernel
theorem la4_range : (∀ x ∈ la4, 0 ≤ x ∧ x < 256) ∧ la4.length = 17 := by decide +kernel
theorem bytes_string {W : World} {base : Nat} {v : Value} {l : List Int} (h : RS base W v l) : ∃ A c, v = .slice A l.length c ∧ (convert 30 9 (.slice A l.length c)).run Tryd.prog W = .ok (.string (strOfNums l)) W := by
  obtain ⟨A, c, rfl⟩ := Kd.R_slice h.R
  exact ⟨A, c, rfl, Kd.C_string Tryd.underlying30 Tryd.underlying5 Tryd.underlying9 (Kd.R_reads' h.R).2.2⟩

set_option maxHeartbeats 8000000 in
set_option maxRecDepth 100000 in
theorem awake_calls (w : World) (hT : Tab w) : Calls Tryd.prog 9 #[] w fun e w' => e = .returned (.bool true) ∧ Below w.heap.size w w' := by
  have HT := Aside0.mk hT
  clear hT
  go_enter Tryd.func9, Tryd.ntmps9
  go_wp2_with fail
  ((with_reducible refine (New_calls 65535 w).mono ?_); rintro e_ W1 ⟨g1, ws1, rfl, hl1, ho1, hb1⟩)
  have HL1 := Aside0.mk hl1; have HO1 := Aside0.mk ho1; have HB1 := Aside0.mk hb1
  clear hl1 ho1 hb1
  go_wp2_with fail
  ((with_reducible refine (New_calls 5 W1).mono ?_); rintro e_ W2 ⟨g2, ws2, rfl, hl2, ho2, hb2⟩)
  have E0 : Aside0 (Ends w g1 (newS 65535) ws1 g2 (newS 5) ws2 W2) := ⟨⟨HL1.out.below hb2, hl2, fun k hk hm => by have := HL1.out.lt k hk; have := ho2 k hm; omega, HO1.out, fun k hk => by have := ho2 k hk; have := below_size HB1.out; omega, below_step HB1.out hb2⟩⟩
  clear hl2 ho2 hb2 HL1 HO1 HB1
  have k1 := conv_mark W2 #[.int .u8 104, .int .u8 105] 2
  go_wp2_with fail
  have hE := E0.out.more (below_alloc (Below.refl _ _) (Obj.cells #[.int .u8 104, .int .u8 105] 5 (2, 3)))
  ((with_reducible refine (hE.send HT.out (some ⟨W2.heap.size, 0, none⟩) 2 2 [104, 105] rfl (two_read E0.out 104 105) (by omega) (by decide) (by omega)).mono ?_); rintro e_ W4 ⟨v1, T1, B1, ws1a, rfl, hTl, hB1, hD1, hE1, hk1⟩)
  change Ends w g1 (sendS (newS 65535)) ws1a g2 (newS 5) ws2 W4 at hE1
  have hTl1 : T1.length = 1 := hTl
  obtain ⟨t1, ht1⟩ := List.length_eq_one_iff.1 hTl1
  subst ht1
  obtain ⟨A1, n1, c1⟩ := t1
  obtain ⟨gb1, cc1, rfl, hgb1, hgl1, hcc1, hat1⟩ := sl_at hD1.1 (by simp)
  have hc0 := hat1 0 _ rfl
  have hrs1 := hD1.2.1 0 _ rfl
  obtain ⟨hn1, hnc1, hC1⟩ := RS.C hrs1
  have hla1 : la1.length = 17 := awake_ev.1
  change n1 = la1.length at hn1
  change la1.length ≤ c1 at hnc1
  rw [hla1] at hn1 hnc1
  subst hn1
  change W4.cell? ⟨gb1, 0, none⟩ = some (.slice A1 17 c1) at hc0
  have HD1 := Aside0.mk hD1; have HE1 := Aside0.mk hE1; have HC1 := Aside0.mk hC1
  clear hE hTl hB1 hD1 hE1 hk1 hTl1 hgb1 hgl1 hcc1 hat1 hrs1 hC1 hla1 k1
  rw [show (newS 65535).next = 65535 from rfl]
  go_wp2_with fail
  have ev := awake_ev
  have hr1 := HE1.out.swap.recv HT.out A1 c1 17 la1 ev.1 HC1.out (by omega) la1_range (by omega)
  rw [show (recvF (newS 5) la1).2.2.1 = true by rw [ev.2.1], show (recvF (newS 5) la1).2.2.2 = 0 by rw [ev.2.1], show (recvF (newS 5) la1).2.1 = [104, 105] by rw [ev.2.1]] at hr1
  ((with_reducible refine hr1.mono ?_); rintro e_ W5 ⟨vm, ws2a, rfl, hm, hE2, hk2⟩)
  change Ends w g2 la2 ws2a g1 (sendS (newS 65535)) ws1a W5 at hE2
  have hD2 := HD1.out.keeps HE1.out.two hk2
  have hc0' := sl_cell hD2.1 0 _ rfl
  change W5.cell? ⟨gb1, 0, none⟩ = some (.slice A1 17 c1) at hc0'
  have hC2 := (RS.C (hD2.2.1 0 _ rfl)).2.2
  have HD2 := Aside0.mk hD2; have HE2 := Aside0.mk hE2; have HM := Aside0.mk hm; have HC2 := Aside0.mk hC2
  clear hr1 hm hE2 hk2 hD2 hC2 ev hc0 HD1 HE1 HC1
  go_wp2_with fail
  have ev := awake_ev
  have hr1 := HE2.out.recv HT.out A1 c1 17 la1 ev.1 HC2.out (by omega) la1_range (by omega)
  rw [show (recvF la2 la1).2.2.1 = false by rw [ev.2.2.1], show (recvF la2 la1).2.2.2 = 71 by rw [ev.2.2.1]] at hr1
  ((with_reducible refine hr1.mono ?_); rintro e_ W6 ⟨vx, ws2b, rfl, _, hE3, hk3⟩)
  change Ends w g2 la3 ws2b g1 (sendS (newS 65535)) ws1a W6 at hE3
  have hD3 := HD2.out.keeps HE2.out.one hk3
  have hm3 := HM.out.keeps HE2.out.one hk3
  have HD3 := Aside0.mk hD3; have HE3 := Aside0.mk hE3; have HM3 := Aside0.mk hm3
  clear hr1 hm3 hE3 hk3 hD3 ev hc0' HD2 HE2 HC2 HM
  have k1 := conv_mark W6 #[.int .u8 121, .int .u8 111] 2
  go_wp2_with fail
  have hE := HE3.out.more (below_alloc (Below.refl _ _) (Obj.cells #[.int .u8 121, .int .u8 111] 5 (2, 3)))
  have hDx := HD3.out.below (below_alloc (Below.refl _ _) (Obj.cells #[.int .u8 121, .int .u8 111] 5 (2, 3)))
  have hmx := HM3.out.below (below_alloc (Below.refl _ _) (Obj.cells #[.int .u8 121, .int .u8 111] 5 (2, 3)))
  ((with_reducible refine (hE.send HT.out (some ⟨W6.heap.size, 0, none⟩) 2 2 [121, 111] rfl (two_read HE3.out 121 111) (by omega) (by decide) (by omega)).mono ?_); rintro e_ W7 ⟨v2, T2, B2, ws2c, rfl, hTl, hB2, hE4D, hE4, hk4⟩)
  have hD4 := hDx.keeps hE.one hk4
  have hm4 := hmx.keeps hE.one hk4
  have hnx : la3.next = 5 := awake_ev.2.2.2.2.2.1
  rw [hnx] at hE4D ⊢
  change DgRows B2 W7 v2 (dgF la3 5 [121, 111]) T2 at hE4D
  have hTl2 : T2.length = 1 := hTl
  obtain ⟨t2, ht2⟩ := List.length_eq_one_iff.1 hTl2
  subst ht2
  obtain ⟨A2, n2, c2⟩ := t2
  obtain ⟨gb2, cc2, rfl, hgb2, hgl2, hcc2, hat2⟩ := sl_at hE4D.1 (by simp)
  have hc2 := hat2 0 _ rfl
  obtain ⟨hn2, hnc2, hC4⟩ := RS.C (hE4D.2.1 0 _ rfl)
  change n2 = la4.length at hn2
  change la4.length ≤ c2 at hnc2
  rw [la4_range.2] at hn2 hnc2
  subst hn2
  change W7.cell? ⟨gb2, 0, none⟩ = some (.slice A2 17 c2) at hc2
  have HD4 := Aside0.mk hD4; have HE4 := Aside0.mk hE4; have HM4 := Aside0.mk hm4; have HC4 := Aside0.mk hC4
  clear hE hDx hmx hTl hB2 hE4D hE4 hk4 hD4 hm4 hnx hTl2 hgb2 hgl2 hcc2 hat2 hC4 k1 HD3 HE3 HM3
  go_wp2_with fail
  have ev := awake_ev
  have hr1 := HE4.out.swap.recv HT.out A2 c2 17 la4 la4_range.2 HC4.out (by omega) la4_range.1 (by omega)
  rw [show (recvF (sendS (newS 65535)) la4).2.2.1 = true by rw [ev.2.2.2.1], show (recvF (sendS (newS 65535)) la4).2.2.2 = 0 by rw [ev.2.2.2.1], show (recvF (sendS (newS 65535)) la4).2.1 = [121, 111] by rw [ev.2.2.2.1]] at hr1
  ((with_reducible refine hr1.mono ?_); rintro e_ W8 ⟨vp, ws1b, rfl, hp, hE5, hk5⟩)
  change Ends w g1 la5 ws1b g2 (sendS la3) ws2c W8 at hE5
  have hD5 := HD4.out.keeps HE4.out.two hk5
  have hm5 := HM4.out.keeps HE4.out.two hk5
  have HD5 := Aside0.mk hD5; have HE5 := Aside0.mk hE5; have HM5 := Aside0.mk hm5; have HP5 := Aside0.mk hp
  clear hr1 hm5 hE5 hk5 hD5 hp ev hc2 HD4 HE4 HC4 HM4
  go_wp2_with fail
  ((with_reducible refine HE5.out.acked.mono ?_); rintro e_ W9 ⟨va, rfl, ha, hE6, hb6⟩)
  have ev := awake_ev
  rw [ev.2.2.2.2.1] at ha
  obtain ⟨Aa, ca, hva⟩ := Kd.R_slice ha
  subst hva
  obtain ⟨ada, hA, hca⟩ := Kd.at_int (Kd.R_reads' ha).2.2 0 (by omega) (by decide)
  subst hA
  have hD6 := HD5.out.below hb6
  have hc6 := sl_cell hD6.1 0 _ rfl
  change W9.cell? ⟨gb1, 0, none⟩ = some (.slice A1 17 c1) at hc6
  obtain ⟨Am, cm, hvm, hcm⟩ := bytes_string (HM5.out.below hb6)
  obtain ⟨Ap, cp, hvp, hcp⟩ := bytes_string (HP5.out.below hb6)
  subst hvm; subst hvp
  change (convert _ _ (.slice Am 2 cm)).run Tryd.prog W9 = .ok (.string ⟨#[104, 105]⟩) W9 at hcm
  change (convert _ _ (.slice Ap 2 cp)).run Tryd.prog W9 = .ok (.string ⟨#[121, 111]⟩) W9 at hcp
  change W9.cell? (ada.add 0) = some (.int .i64 65535) at hca
  have had0 : ada.add 0 = ada := by
    obtain ⟨b_, o_, p_⟩ := ada
    unfold Addr.add
    cases p_ <;> simp
  rw [had0] at hca
  have HE6 := Aside0.mk hE6
  clear ha hE6 hD6 hb6 ev HD5 HE5 HM5 HP5
  go_wp2_with fail
  have n1 := awake_ev.2.2.2.2.2.2
  have c1_ := Newer_calls 0 65535 W9
  rw [n1.1] at c1_
  ((with_reducible refine c1_.mono ?_); rintro e_ W10 ⟨rfl, rfl⟩)
  clear n1 c1_
  go_wp2_with fail
  have n1 := awake_ev.2.2.2.2.2.2
  have c1_ := Newer_calls 0 32768 W10
  rw [n1.2] at c1_
  ((with_reducible refine c1_.mono ?_); rintro e_ W11 ⟨rfl, rfl⟩)
  clear n1 c1_
  go_wp2
  go_ret
  exact ⟨rfl, HE6.out.below⟩
end Go.Proofs.YtbdocgddidcfeaaDoor
