/- Merged: LinkA LinkB LinkC LinkD LinkE LinkF LinkG -/
import Derived.Test.YtbdocgddidcfeaaDoorPt3
import Derived.Test.YtbdocgddidcfeaaDoorMap
import Derived.Great.Walk
import Derived.ScopeJumps
import Derived.WalkMore
/- What a link's end knows, and what it does: in plain Lean. -/
namespace Go.Proofs.YtbdocgddidcfeaaDoor
open Go.RowKit Go.Proofs.YtbdocgddidcfeaaDoorW.PrintWords Go.Proofs.YtbdocgddidcfeaaDoorW.PrintLast Go.Proofs.YtbdocgddidcfeaaDoorW.PrintMore
set_option linter.unusedVariables false
set_option linter.unusedSimpArgs false

/-- One end. -/
structure LS where
  next : Int
  sent : List Int
  acked : List (Int × Unit)
  any : Bool
  last : Int
  bits : Int
  waits : Bool
  n : Int
  many : Int
  parts : List (Int × List Int)
def newS (first : Int) : LS := ⟨first % 65536, [], [], false, 0, 0, false, 0, 0, []⟩
def newerF (a b : Int) : Bool := decide ((a - b - 1) % 65536 < 32767)
def headF (s : LS) : List Int := if s.any then [1, s.last / 256, s.last % 256, s.bits / 16777216, s.bits / 65536 % 256, s.bits / 256 % 256, s.bits % 256] else [0, 0, 0, 0, 0, 0, 0]
def manyF (L : Nat) : Nat := max 1 ((L + 199) / 200)
def partF (b : List Int) (i : Nat) : List Int := (b.drop (200 * i)).take 200
def rawF (s : LS) (n : Int) (b : List Int) (i : Nat) : List Int := headF s ++ [n / 256, n % 256, (i : Int), (manyF b.length : Int)] ++ partF b i
def dgF (s : LS) (n : Int) (b : List Int) (i : Nat) : List Int := frameF (rawF s n b i)
def sendS (s : LS) : LS :=
  { s with next := (s.next + 1) % 65536, sent := if 64 < (s.sent ++ [s.next]).length then (s.sent ++ [s.next]).drop 1 else s.sent ++ [s.next], acked := if 64 < (s.sent ++ [s.next]).length then pdel ((s.sent ++ [s.next]).headD 0) s.acked else s.acked }
def formedF (b : List Int) : Bool :=
  if b.length < 11 ∨ 1 < rd b 0 then false else
  if rd b 0 = 0 ∧ ¬ (∀ x ∈ (b.drop 1).take 6, x = 0) then false else
  if rd b 10 < 1 ∨ 10 < rd b 10 ∨ rd b 10 ≤ rd b 9 ∨ 200 < (b.length : Int) - 11 then false else
  if rd b 9 < rd b 10 - 1 then decide ((b.length : Int) - 11 = 200) else decide (rd b 10 = 1 ∨ 0 < (b.length : Int) - 11)
def padd (x : Int) (p : List (Int × Unit)) : List (Int × Unit) := if (pget x p).isSome then p else p ++ [(x, ())]
def hit (n bits x : Int) : Bool := decide ((n - x) % 65536 = 0) || (decide ((n - x) % 65536 ≤ 32) && decide (bits / (2 : Int) ^ (((n - x) % 65536).toNat - 1) % 2 = 1))
def hearL (n bits : Int) (l : List Int) (p : List (Int × Unit)) : List (Int × Unit) := l.foldl (fun acc x => if hit n bits x then padd x acc else acc) p
def hearF (s : LS) (b : List Int) : List (Int × Unit) :=
  if rd b 0 = 0 then s.acked else hearL (rd b 1 * 256 + rd b 2) (rd b 3 * 16777216 + rd b 4 * 65536 + rd b 5 * 256 + rd b 6) s.sent s.acked
def tellBits (b k : Int) : Int := bits .or .u32 (b * 2 ^ (min k.toNat 32) % 4294967296) (2 ^ (min (k - 1).toNat 32) % 4294967296)
def tellF (s : LS) (n : Int) : LS := { s with bits := if s.any then tellBits s.bits ((n - s.last) % 65536) else s.bits, any := true, last := n, waits := false }
def outF (s : LS) : List Int := (List.range s.many.toNat).flatMap (fun i : Nat => (pget (i : Int) s.parts).getD [])
def recvF (s : LS) (d : List Int) : LS × List Int × Bool × Int :=
  if (opF d).2 = false ∨ formedF (opF d).1 = false then (s, [], false, 70) else
  let b := (opF d).1
  let s1 := { s with acked := hearF s b }
  let n := rd b 7 * 256 + rd b 8
  if s.any = true ∧ newerF n s.last = false then (s1, [], false, 71) else
  if s.waits = true ∧ n ≠ s.n ∧ newerF n s.n = false then (s1, [], false, 71) else
  let s2 := if s.waits = true ∧ n = s.n then s1 else { s1 with waits := true, n := n, many := rd b 10, parts := [] }
  if s2.many ≠ rd b 10 then (s2, [], false, 70) else
  if (pget (rd b 9) s2.parts).isSome then (s2, [], false, 71) else
  let s3 := { s2 with parts := s2.parts ++ [(rd b 9, b.drop 11)] }
  if (s3.parts.length : Int) < s3.many then (s3, [], false, 0) else
  (tellF s3 n, outF s3, true, 0)
def ackedF (s : LS) : List Int := s.sent.filter (fun x => (pget x s.acked).isSome)

def la1 : List Int := dgF (newS 65535) 65535 [104, 105] 0
def la2 : LS := (recvF (newS 5) la1).1
def la3 : LS := (recvF la2 la1).1
def la4 : List Int := dgF la3 5 [121, 111] 0
def la5 : LS := (recvF (sendS (newS 65535)) la4).1
theorem awake_ev : la1.length = 17 ∧ (recvF (newS 5) la1).2 = ([104, 105], true, 0) ∧ (recvF la2 la1).2 = ([], false, 71) ∧ (recvF (sendS (newS 65535)) la4).2 = ([121, 111], true, 0) ∧ ackedF la5 = [65535] ∧ la3.next = 5 ∧ newerF 0 65535 = true ∧ newerF 0 32768 = false := by
  refine ⟨?_, ?_, ?_, ?_, ?_, ?_, ?_, ?_⟩ <;> kernel_rfl
end Go.Proofs.YtbdocgddidcfeaaDoor

/- A link in memory; newer, New, Last. -/
namespace Go.Proofs.YtbdocgddidcfeaaDoor
open Go.RowKit Go.Proofs.YtbdocgddidcfeaaDoorW.PrintWords Go.Proofs.YtbdocgddidcfeaaDoorW.PrintLast Go.Proofs.YtbdocgddidcfeaaDoorW.PrintMore
set_option linter.unusedVariables false
set_option linter.unusedSimpArgs false

set_option maxHeartbeats 1000000 in
theorem newer_calls (a b : Int) (w : World) : Calls Tryd.prog 24 #[.int .u16 a, .int .u16 b] w fun e w' => e = .returned (.bool (newerF a b)) ∧ w' = w := by
  go_enter Tryd.func24, Tryd.ntmps24
  go_wp2
  go_ret
  refine ⟨ret_bool ?_, rfl⟩
  unfold newerF
  rw [IntKind.wrap_u16, IntKind.wrap_u16]
  refine decide_eq_decide.2 ?_
  omega
theorem newerF_mod (a b : Int) : newerF (a % 65536) (b % 65536) = newerF a b := by
  unfold newerF
  refine decide_eq_decide.2 ?_
  omega
set_option maxHeartbeats 1000000 in
theorem Newer_calls (a b : Int) (w : World) : Calls Tryd.prog 10 #[.int .i64 a, .int .i64 b] w fun e w' => e = .returned (.bool (newerF a b)) ∧ w' = w := by
  go_enter Tryd.func10, Tryd.ntmps10
  go_wp2_with fail
  ((with_reducible refine (newer_calls _ _ _).mono ?_); rintro e_ W1 ⟨rfl, rfl⟩)
  rw [IntKind.wrap_u16, IntKind.wrap_u16, newerF_mod]
  go_wp2
  go_ret
  exact ⟨rfl, rfl⟩

def RT (v : Value) (_ : Unit) : Prop := v = .bool true
/-- A part that waits: a piece of a row of bytes. -/
def PartR (W : World) (v : Value) (bytes : List Int) : Prop :=
  (bytes = [] ∧ ∃ A c, v = .slice A 0 c) ∨
  ∃ b off c cs, v = .slice (some ⟨b, off, none⟩) bytes.length c ∧ W.heap[b]? = some (.cells cs 5 (0, 0)) ∧ ∀ (j : Nat) x, bytes[j]? = some x → cs[off + j]? = some (.int .u8 x)
def SentAt (W : World) (sv : Value) (l : List Int) (gs : Option Nat) : Prop :=
  (sv = .slice none 0 0 ∧ l = [] ∧ gs = none) ∨
  ∃ b off cap cs, gs = some b ∧ sv = .slice (some ⟨b, off, none⟩) l.length cap ∧ W.heap[b]? = some (.cells cs 58 (0, 0)) ∧ l.length ≤ cap ∧ cap ≤ maxLen ∧ off + cap ≤ cs.size ∧ ∀ (j : Nat) x, l[j]? = some x → cs[off + j]? = some (.int .u16 x)
def PartsAt (W : World) (mp : Value) (p : List (Int × List Int)) (mb : Option Nat) : Prop :=
  (mp = .map none ∧ p = [] ∧ mb = none) ∨ ∃ b, mb = some b ∧ mp = .map (some b) ∧ IM .i64 (PartR W) W b p
def lcells (s : LS) (sv : Value) (ma : Nat) (mp : Value) : Array Value := #[.int .u16 s.next, sv, .map (some ma), .bool s.any, .int .u16 s.last, .int .u32 s.bits, .bool s.waits, .int .u16 s.n, .int .i64 s.many, mp]
/-- The numbers are in their kinds. -/
def Okay (s : LS) : Prop :=
  (0 ≤ s.next ∧ s.next < 65536) ∧ (0 ≤ s.last ∧ s.last < 65536) ∧ (0 ≤ s.bits ∧ s.bits < 4294967296) ∧ (0 ≤ s.n ∧ s.n < 65536) ∧ (0 ≤ s.many ∧ s.many ≤ 10) ∧
  (∀ x ∈ s.sent, 0 ≤ x ∧ x < 65536) ∧ s.sent.length ≤ 64 ∧ (∀ q ∈ s.parts, q.2.length ≤ 200 ∧ ∀ y ∈ q.2, 0 ≤ y ∧ y < 256)
/-- The blocks that a link writes. -/
def wset (g ma : Nat) (gs mb : Option Nat) : List Nat := [g, ma] ++ gs.toList ++ mb.toList
def LinkM (W : World) (g : Nat) (s : LS) (ws : List Nat) : Prop :=
  ∃ sv ma mp gs mb, W.heap[g]? = some (.cells (lcells s sv ma mp) 64 (0, 0)) ∧ SentAt W sv s.sent gs ∧ IM .u16 RT W ma s.acked ∧ PartsAt W mp s.parts mb ∧ (s.waits = true → mb ≠ none) ∧ mb ≠ some ma ∧ ws = wset g ma gs mb ∧ Okay s
theorem newS_okay (n : Int) : Okay (newS n) := by
  unfold Okay newS
  simp
  omega

set_option maxHeartbeats 4000000 in
set_option maxRecDepth 100000 in
theorem New_calls (first : Int) (w : World) : Calls Tryd.prog 11 #[.int .i64 first] w fun e w' => ∃ g ws, e = .returned (.pointer (some ⟨g, 0, none⟩)) ∧ LinkM w' g (newS first) ws ∧ (∀ k ∈ ws, w.heap.size ≤ k) ∧ Below w.heap.size w w' := by
  have hmm : ∀ W : World, (Instr.makeMap 59 none).run Tryd.prog W = .ok (.map (some W.heap.size)) (W.alloc (.map #[] 0)) := by
    intro W
    simp [Instr.makeMap, Result.andThen]
  go_enter Tryd.func11, Tryd.ntmps11
  go_wp2
  go_ret
  rw [IntKind.wrap_u16]
  have hs : (w.alloc (Obj.map #[] 0)).heap.size = w.heap.size + 1 := by show (w.heap.push _).size = _; simp
  have hb1 : Below w.heap.size w (w.alloc (Obj.map #[] 0)) := below_alloc (Below.refl _ _) _
  refine ⟨w.heap.size + 1, wset (w.heap.size + 1) w.heap.size none none, rfl, ⟨.slice none 0 0, w.heap.size, .map none, none, none, ?_, .inl ⟨rfl, rfl, rfl⟩, ?_, .inl ⟨rfl, rfl, rfl⟩, by simp [newS], by simp, rfl, newS_okay first⟩, by simp [wset], below_alloc hb1 _⟩
  · have h := (MapKept.heap_alloc (w.alloc (Obj.map #[] 0)) (Obj.cells (lcells (newS first) (.slice none 0 0) w.heap.size (.map none)) 64)).1
    rw [hs] at h
    exact h
  · refine IM.same (IM.made w) ?_
    exact (MapKept.heap_alloc (w.alloc (Obj.map #[] 0)) _).2 _ (by rw [hs]; omega)

/-- A link's cells, one by one. -/
theorem lcell {W : World} {g : Nat} {s : LS} {sv mp : Value} {ma : Nat} (h : W.heap[g]? = some (.cells (lcells s sv ma mp) 64 (0, 0))) :
    W.cell? ⟨g, 0, none⟩ = some (.int .u16 s.next) ∧ W.cell? ⟨g, 1, none⟩ = some sv ∧ W.cell? ⟨g, 2, none⟩ = some (.map (some ma)) ∧ W.cell? ⟨g, 3, none⟩ = some (.bool s.any) ∧ W.cell? ⟨g, 4, none⟩ = some (.int .u16 s.last) ∧
    W.cell? ⟨g, 5, none⟩ = some (.int .u32 s.bits) ∧ W.cell? ⟨g, 6, none⟩ = some (.bool s.waits) ∧ W.cell? ⟨g, 7, none⟩ = some (.int .u16 s.n) ∧ W.cell? ⟨g, 8, none⟩ = some (.int .i64 s.many) ∧ W.cell? ⟨g, 9, none⟩ = some mp :=
  ⟨blk_cell h 0, blk_cell h 1, blk_cell h 2, blk_cell h 3, blk_cell h 4, blk_cell h 5, blk_cell h 6, blk_cell h 7, blk_cell h 8, blk_cell h 9⟩
theorem drawn_below {w w' : World} (h : ∃ n, w' = w.drewN n) : Below w.heap.size w w' := by
  obtain ⟨n, rfl⟩ := h
  exact pw_below_drewN (Below.refl _ _) n

set_option maxHeartbeats 4000000 in
set_option maxRecDepth 100000 in
theorem Last_calls (g : Nat) (s : LS) (ws : List Nat) (w : World) (h : LinkM w g s ws) : Calls Tryd.prog 19 #[.pointer (some ⟨g, 0, none⟩)] w
    fun e w' => e = .returned (.tuple #[.int .i64 s.last, .bool s.any]) ∧ ∃ n, w' = w.drewN n := by
  obtain ⟨sv, ma, mp, gs, mb, hg, hsent, hack, hparts, hw, hne, hws, hok⟩ := h
  obtain ⟨k0, k1, k2, k3, k4, k5, k6, k7, k8, k9⟩ := lcell hg
  have hl := hok.2.1
  clear hsent hack hparts hw hne hws hok hg
  go_enter Tryd.func19, Tryd.ntmps19
  go_wp2
  go_quiet (fail)
  go_wp2
  go_ret2
  exact ⟨rfl, _, rfl⟩
end Go.Proofs.YtbdocgddidcfeaaDoor

/- tell, hear, Acked. -/
namespace Go.Proofs.YtbdocgddidcfeaaDoor
open Go.RowKit Go.Proofs.YtbdocgddidcfeaaDoorW.PrintWords Go.Proofs.YtbdocgddidcfeaaDoorW.PrintLast Go.Proofs.YtbdocgddidcfeaaDoorW.PrintMore
set_option linter.unusedVariables false
set_option linter.unusedSimpArgs false

theorem SentAt.same {W W' : World} {sv : Value} {l : List Int} {gs : Option Nat} (h : SentAt W sv l gs) (hs : ∀ b, gs = some b → W'.heap[b]? = W.heap[b]?) : SentAt W' sv l gs := by
  rcases h with h | ⟨b, off, cap, cs, h1, h2, h3, h4⟩
  · exact .inl h
  · exact .inr ⟨b, off, cap, cs, h1, h2, (hs b h1).trans h3, h4⟩
theorem PartR.same {W W' : World} (hu : ∀ (b : Nat) (cs : Array Value), W.heap[b]? = some (Obj.cells cs 5 (0, 0)) → W'.heap[b]? = W.heap[b]?) (v : Value) (l : List Int) (h : PartR W v l) : PartR W' v l := by
  rcases h with h | ⟨b, off, c, cs, h1, h2, h3⟩
  · exact .inl h
  · exact .inr ⟨b, off, c, cs, h1, (hu b cs h2).trans h2, h3⟩
theorem PartsAt.same {W W' : World} {mp : Value} {p : List (Int × List Int)} {mb : Option Nat} (h : PartsAt W mp p mb) (hs : ∀ b, mb = some b → W'.heap[b]? = W.heap[b]?)
    (hu : ∀ (b : Nat) (cs : Array Value), W.heap[b]? = some (Obj.cells cs 5 (0, 0)) → W'.heap[b]? = W.heap[b]?) : PartsAt W' mp p mb := by
  rcases h with h | ⟨b, h1, h2, h3⟩
  · exact .inl h
  · exact .inr ⟨b, h1, h2, (h3.same (hs b h1)).imp (PartR.same hu)⟩
theorem LinkM.frame {W W' : World} {g : Nat} {s : LS} {ws : List Nat} (h : LinkM W g s ws) (hs : ∀ b ∈ ws, W'.heap[b]? = W.heap[b]?)
    (hu : ∀ (b : Nat) (cs : Array Value), W.heap[b]? = some (Obj.cells cs 5 (0, 0)) → W'.heap[b]? = W.heap[b]?) : LinkM W' g s ws := by
  obtain ⟨sv, ma, mp, gs, mb, h1, h2, h3, h4, h5, h6, h7, h8⟩ := h
  refine ⟨sv, ma, mp, gs, mb, (hs g (by rw [h7]; simp [wset])).trans h1, h2.same (fun b e => hs b (by rw [h7, e]; simp [wset])), h3.same (hs ma (by rw [h7]; simp [wset])), h4.same (fun b e => hs b (by rw [h7, e]; simp [wset])) hu, h5, h6, h7, h8⟩
theorem LinkM.below {W W' : World} {g : Nat} {s : LS} {ws : List Nat} (h : LinkM W g s ws) (hb : Below W.heap.size W W') : LinkM W' g s ws := by
  have h0 := h
  obtain ⟨sv, ma, mp, gs, mb, h1, h2, h3, h4, h5, h6, h7, h8⟩ := h
  refine h0.frame (fun b hm => hb.block b ?_) (fun b cs hc => hb.block b (Array.getElem?_eq_some_iff.1 hc).1)
  rw [h7] at hm
  simp only [wset, List.mem_append, List.mem_cons, List.not_mem_nil, or_false, Option.mem_toList] at hm
  rcases hm with ((rfl | rfl) | hm) | hm
  · exact (Array.getElem?_eq_some_iff.1 h1).1
  · exact h3.lt
  · rcases h2 with ⟨_, _, e⟩ | ⟨b', _, _, _, e, _, e3, _⟩
    · rw [e] at hm; cases hm
    · rw [e] at hm; cases hm; exact (Array.getElem?_eq_some_iff.1 e3).1
  · rcases h4 with ⟨_, _, e⟩ | ⟨b', e, _, e3⟩
    · rw [e] at hm; cases hm
    · rw [e] at hm; cases hm; exact e3.lt
/-- A link's struct is written, its rows and maps stand. -/
theorem struct_keeps {W W' : World} {g : Nat} {L : Array Value} (hg : W.heap[g]? = some (.cells L 64 (0, 0))) (hgr : W.grownBy W' (some g)) :
    (∀ sv l gs, SentAt W sv l gs → SentAt W' sv l gs) ∧ (∀ ma ak, IM .u16 RT W ma ak → IM .u16 RT W' ma ak) ∧ (∀ mp p mb, PartsAt W mp p mb → PartsAt W' mp p mb) := by
  have far : ∀ (b : Nat) (o : Obj), W.heap[b]? = some o → (∀ L : Array Value, o ≠ Obj.cells L 64 (0, 0)) → W'.heap[b]? = W.heap[b]? := fun b o hb hne =>
    hgr.block b (Array.getElem?_eq_some_iff.1 hb).1 (fun e => by
      injection e with e
      subst e
      rw [hg] at hb
      injection hb with hb
      exact hne L hb.symm)
  have hu : ∀ (b : Nat) (cs : Array Value), W.heap[b]? = some (Obj.cells cs 5 (0, 0)) → W'.heap[b]? = W.heap[b]? := fun b cs hb => far b _ hb (fun L e => by injection e with _ e; cases e)
  refine ⟨fun sv l gs h => h.same (fun b e => ?_), fun ma ak h => h.same ?_, fun mp p mb h => h.same (fun b e => ?_) hu⟩
  · rcases h with ⟨_, _, e2⟩ | ⟨b', off, cap, cs, e1, _, h3, _⟩
    · rw [e] at e2; cases e2
    · rw [e] at e1; cases e1
      exact far b _ h3 (fun L e => by injection e with _ e; cases e)
  · obtain ⟨es, clock, h1, _⟩ := h
    exact far ma _ h1 (fun L e => by cases e)
  · rcases h with ⟨_, _, e2⟩ | ⟨b', e1, _, es, clock, h1, _⟩
    · rw [e] at e2; cases e2
    · rw [e] at e1; cases e1
      exact far b _ h1 (fun L e => by cases e)
theorem tellBits_range (b k : Int) : 0 ≤ tellBits b k ∧ tellBits b k < 4294967296 := by
  unfold tellBits
  show 0 ≤ IntKind.u32.wrap ((BitVec.ofInt 32 _ ||| BitVec.ofInt 32 _).toNat : Int) ∧ IntKind.u32.wrap ((BitVec.ofInt 32 _ ||| BitVec.ofInt 32 _).toNat : Int) < 4294967296
  rw [IntKind.wrap_u32]
  omega
theorem tellF_okay {s : LS} {n : Int} (h : Okay s) (hn : 0 ≤ n ∧ n < 65536) : Okay (tellF s n) := by
  obtain ⟨h1, h2, h3, h4⟩ := h
  refine ⟨h1, hn, ?_, h4⟩
  unfold tellF
  show 0 ≤ (if s.any then tellBits s.bits ((n - s.last) % 65536) else s.bits) ∧ (if s.any then tellBits s.bits ((n - s.last) % 65536) else s.bits) < 4294967296
  split
  · exact tellBits_range _ _
  · exact h3

set_option maxHeartbeats 4000000 in
set_option maxRecDepth 100000 in
theorem tell_calls (g : Nat) (s : LS) (ws : List Nat) (n : Int) (w : World) (h : LinkM w g s ws) (hn : 0 ≤ n ∧ n < 65536) (hk : s.any = true → 1 ≤ (n - s.last) % 65536) :
    Calls Tryd.prog 29 #[.pointer (some ⟨g, 0, none⟩), .int .u16 n] w
    fun e w' => e = .returned (.tuple #[]) ∧ LinkM w' g (tellF s n) ws ∧ w.grownBy w' (some g) := by
  obtain ⟨sv, ma, mp, gs, mb, hg, hsent, hack, hparts, hw, hne, hws, hok⟩ := h
  obtain ⟨k0, k1, k2, k3, k4, k5, k6, k7, k8, k9⟩ := lcell hg
  have hfr := fun j => blk_frozen hg j
  have HG := Aside0.mk hg; have HS := Aside0.mk hsent; have HA := Aside0.mk hack; have HP := Aside0.mk hparts; have HW := Aside0.mk hw; have HNE := Aside0.mk hne; have HWS := Aside0.mk hws; have HOK := Aside0.mk hok
  clear hsent hack hparts hw hne hws hok hg
  cases ha : s.any with
  | false =>
    rw [ha] at k3
    go_enter Tryd.func29, Tryd.ntmps29
    go_wp2
    (try simp only [Exit.inBlock, Exit.then])
    refine Go.Great.bodyPost_end0 rfl rfl ⟨rfl, ?_, ?_⟩
    · have hs0 := blk_put (blk_put (blk_put HG.out 3 (.bool true) rfl) 4 (.int .u16 n) rfl) 6 (.bool false) rfl
      obtain ⟨q1, q2, q3⟩ := struct_keeps HG.out (grown_set (j := 6) (v := .bool false) (grown_set (j := 4) (v := .int .u16 n) (grown_set (j := 3) (v := .bool true) (World.grownBy.refl w (some g)))))
      refine ⟨sv, ma, mp, gs, mb, ?_, q1 _ _ _ HS.out, q2 _ _ HA.out, q3 _ _ _ HP.out, by simp [tellF], HNE.out, HWS.out, tellF_okay HOK.out hn⟩
      rw [hs0]
      simp only [tellF, ha]
      rfl
    · exact grown_set (grown_set (grown_set (World.grownBy.refl w (some g))))
  | true =>
    rw [ha] at k3
    have hk1 := hk ha
    have hb : tellBits s.bits ((n - s.last) % 65536) = bits .or .u32 (s.bits * 2 ^ min (IntKind.u16.wrap (n - s.last)).toNat 32 % 4294967296) (2 ^ min (IntKind.u16.wrap (IntKind.u16.wrap (n - s.last) - 1)).toNat 32 % 4294967296) := by
      unfold tellBits
      rw [IntKind.wrap_u16, IntKind.wrap_u16, show ((n - s.last) % 65536 - 1) % 65536 = (n - s.last) % 65536 - 1 by omega]
    have HBB := Aside0.mk hb
    clear hb hk1
    go_enter Tryd.func29, Tryd.ntmps29
    go_wp2
    (try simp only [Exit.inBlock, Exit.then])
    refine Go.Great.bodyPost_end0 rfl rfl ⟨rfl, ?_, ?_⟩
    · rw [← HBB.out]
      have hs0 := blk_put (blk_put (blk_put (blk_put HG.out 5 (.int .u32 (tellBits s.bits ((n - s.last) % 65536))) rfl) 3 (.bool true) rfl) 4 (.int .u16 n) rfl) 6 (.bool false) rfl
      obtain ⟨q1, q2, q3⟩ := struct_keeps HG.out (grown_set (j := 6) (v := .bool false) (grown_set (j := 4) (v := .int .u16 n) (grown_set (j := 3) (v := .bool true) (grown_set (j := 5) (v := .int .u32 (tellBits s.bits ((n - s.last) % 65536))) (World.grownBy.refl w (some g))))))
      refine ⟨sv, ma, mp, gs, mb, ?_, q1 _ _ _ HS.out, q2 _ _ HA.out, q3 _ _ _ HP.out, by simp [tellF], HNE.out, HWS.out, tellF_okay HOK.out hn⟩
      rw [hs0]
      simp only [tellF, ha]
      rfl
    · exact grown_set (grown_set (grown_set (grown_set (World.grownBy.refl w (some g)))))
end Go.Proofs.YtbdocgddidcfeaaDoor

/- hear, Acked. -/
namespace Go.Proofs.YtbdocgddidcfeaaDoor
open Go.RowKit Go.Proofs.YtbdocgddidcfeaaDoorW.PrintWords Go.Proofs.YtbdocgddidcfeaaDoorW.PrintLast Go.Proofs.YtbdocgddidcfeaaDoorW.PrintMore
set_option linter.unusedVariables false
set_option linter.unusedSimpArgs false

/-- The blocks of ws alone may be others. -/
def Keeps (w w' : World) (ws : List Nat) : Prop := w'.os = w.os ∧ w'.tape = w.tape ∧ w'.output = w.output ∧ w.heap.size ≤ w'.heap.size ∧ ∀ k, k < w.heap.size → k ∉ ws → w'.heap[k]? = w.heap[k]?
theorem Keeps.refl (w : World) (ws : List Nat) : Keeps w w ws := ⟨rfl, rfl, rfl, Nat.le_refl _, fun _ _ _ => rfl⟩
theorem Keeps.of_below {w w' : World} (h : Below w.heap.size w w') (ws : List Nat) : Keeps w w' ws := ⟨h.os, h.tape, h.output, h.size, fun k hk _ => h.block k hk⟩
theorem Keeps.of_grown {w w' : World} {ws : List Nat} {g : Nat} (h : w.grownBy w' (some g)) (hg : g ∈ ws) : Keeps w w' ws :=
  ⟨h.os, h.tape, h.output, h.size, fun k hk hn => h.block k hk (fun e => by injection e with e; subst e; exact hn hg)⟩
theorem Keeps.trans {w w1 w2 : World} {ws ws1 : List Nat} (h : Keeps w w1 ws) (h1 : Keeps w1 w2 ws1) (hs : ∀ k ∈ ws1, k ∈ ws ∨ w.heap.size ≤ k) : Keeps w w2 ws := by
  refine ⟨h1.1.trans h.1, h1.2.1.trans h.2.1, h1.2.2.1.trans h.2.2.1, Nat.le_trans h.2.2.2.1 h1.2.2.2.1, fun k hk hn => ?_⟩
  refine (h1.2.2.2.2 k (Nat.lt_of_lt_of_le hk h.2.2.2.1) (fun hm => ?_)).trans (h.2.2.2.2 k hk hn)
  rcases hs k hm with e | e
  · exact hn e
  · omega
theorem Keeps.then {w w1 w2 : World} {ws : List Nat} (h : Keeps w w1 ws) (h1 : Keeps w1 w2 ws) : Keeps w w2 ws := h.trans h1 (fun _ hk => .inl hk)
theorem Keeps.drewN {w w1 : World} {ws : List Nat} (h : Keeps w w1 ws) (n : Nat) : Keeps w (w1.drewN n) ws := h
theorem Keeps.below {w w' : World} {ws : List Nat} {B : Nat} (h : Keeps w w' ws) (hB : B ≤ w.heap.size) (hw : ∀ k ∈ ws, B ≤ k) : Below B w w' :=
  ⟨h.1, h.2.1, h.2.2.1, h.2.2.2.1, fun k hk => h.2.2.2.2 k (Nat.lt_of_lt_of_le hk hB) (fun hm => by have := hw k hm; omega)⟩
theorem SentAt.C {W : World} {sv : Value} {l : List Int} {gs : Option Nat} (h : SentAt W sv l gs) : ∃ A c, sv = .slice A l.length c ∧ l.length ≤ c ∧ Kd.C (Kd.int .u16) W A l.length l := by
  rcases h with ⟨rfl, rfl, rfl⟩ | ⟨b, off, cap, cs, h1, h2, h3, h4, h5, h6, h7⟩
  · exact ⟨none, 0, rfl, Nat.le_refl _, Kd.C_nil _ _⟩
  · refine ⟨_, _, h2, h4, rfl, by simp only [maxLen] at h5; omega, fun _ => ⟨_, rfl, fun j p hj => ⟨[.int .u16 p], rfl, rfl, fun i u hu => ?_⟩⟩⟩
    cases i with
    | zero =>
      simp only [List.getElem?_cons_zero, Option.some.injEq] at hu
      subst hu
      have ha : (⟨b, off, none⟩ : Addr).add (j * 1 + 0) = ⟨b, off + j, none⟩ := by
        rw [Nat.mul_one, Nat.add_zero]; unfold Addr.add; split <;> simp_all
      show W.cell? ((⟨b, off, none⟩ : Addr).add (j * 1 + 0)) = _
      rw [ha, blk_cell h3, h7 j p hj]
    | succ i => simp at hu
theorem LinkM.g_in {W : World} {g : Nat} {s : LS} {ws : List Nat} (h : LinkM W g s ws) : g ∈ ws ∧ g < W.heap.size := by
  obtain ⟨sv, ma, mp, gs, mb, h1, h2, h3, h4, h5, h6, h7, h8⟩ := h
  exact ⟨by rw [h7]; simp [wset], (Array.getElem?_eq_some_iff.1 h1).1⟩
theorem zbool (W : World) : (zeroValue 4).run Tryd.prog W = .ok (.bool false) W := by
  have hz : (Tryd.prog.info? 4).map (·.zero) = some (some (.bool false)) := by kernel_rfl
  obtain ⟨i, hi, hz⟩ := Option.map_eq_some_iff.1 hz
  simp [zeroValue, typeInfo, hi, hz, Result.andThen]
theorem infoI : (Tryd.prog.info? 3).map (fun i => (i.zero, i.size, i.bytes)) = some (some (.int .i64 0), 1, 8) := by kernel_rfl
theorem C_int1 (w : World) (k : IntKind) (x : Int) (ty : TypeId) : Kd.C (Kd.int k) (w.alloc (.cells #[.int k x] ty)) (some ⟨w.heap.size, 0, none⟩) 1 [x] := by
  refine ⟨rfl, by decide, fun _ => ⟨_, rfl, fun j p hj => ⟨[.int k p], rfl, rfl, fun i u hu => ?_⟩⟩⟩
  have hj0 : j = 0 := by
    have := (List.getElem?_eq_some_iff.1 hj).1
    simpa using this
  subst hj0
  simp only [List.getElem?_cons_zero, Option.some.injEq] at hj
  subst hj
  cases i with
  | zero =>
    simp only [List.getElem?_cons_zero, Option.some.injEq] at hu
    subst hu
    rw [add_plain]
    unfold World.cell?
    rw [(MapKept.heap_alloc w _).1]
    rfl
  | succ i => simp at hu

set_option maxHeartbeats 4000000 in
set_option maxRecDepth 100000 in
theorem Acked_calls (g : Nat) (s : LS) (ws : List Nat) (w : World) (h : LinkM w g s ws) : Calls Tryd.prog 14 #[.pointer (some ⟨g, 0, none⟩)] w
    fun e w' => ∃ v, e = .returned v ∧ Kd.R (Kd.int .i64) 3 w' w.heap.size (fun _ => True) v (ackedF s) ∧ Below w.heap.size w w' := by
  obtain ⟨sv, ma, mp, gs, mb, hg, hsent, hack, hparts, hw, hne, hws, hok⟩ := h
  obtain ⟨k0, k1, k2, k3, k4, k5, k6, k7, k8, k9⟩ := lcell hg
  obtain ⟨A, c, rfl, hlc, hC⟩ := hsent.C
  have HG := Aside0.mk hg; have HC := Aside0.mk hC; have HA := Aside0.mk hack; have HOK := Aside0.mk hok
  clear hg hsent hC hack hparts hw hne hws hok k0 k3 k4 k5 k6 k7 k8 k9
  have HGL : Aside0 (g < w.heap.size) := ⟨(Array.getElem?_eq_some_iff.1 HG.out).1⟩
  obtain ⟨n, hn⟩ : ∃ n, n = s.sent.length := ⟨_, rfl⟩
  rw [← hn] at k1
  have hn64 : n ≤ 64 := by rw [hn]; exact HOK.out.2.2.2.2.2.2.1
  have HN := Aside0.mk hn; clear hn
  go_enter Tryd.func14, Tryd.ntmps14
  go_wp2
  go_loopw [3, 11] (fun v vi wr => ∃ i : Int, vi = .int .i64 i ∧ 0 ≤ i ∧ i ≤ (n : Int) ∧ Aside0 (Kd.R (Kd.int .i64) 3 wr w.heap.size (fun _ => True) v ((s.sent.take i.toNat).filter (fun x => (pget x s.acked).isSome))) ∧ Aside0 (Below w.heap.size w wr)) (fun _ vi _ => ((n : Int) - intOf vi).toNat)
  case atStart => exact ⟨0, rfl, by omega, by omega, ⟨Kd.R_nil _ _ _ _ _⟩, ⟨Below.refl _ _⟩⟩
  case round =>
    obtain ⟨i, rfl, hi0, hi1, HO, HB⟩ := hrel
    by_cases hx : i < (n : Int)
    · have dx : decide (i < (n : Int)) = true := decide_eq_true hx
      have hCr := Kd.C_below HC.out HB.out
      rw [← HN.out] at hCr
      obtain ⟨ad, e, hcell⟩ := Kd.at_int hCr i hi0 hx
      cases e
      have hki : i.toNat < s.sent.length := by have := HN.out; omega
      have htk : s.sent.take (i + 1).toNat = s.sent.take i.toNat ++ [rd s.sent i] := by
        rw [show (i + 1).toNat = i.toNat + 1 by omega, List.take_succ_eq_append_getElem hki, ← rd_get' hki, Int.toNat_of_nonneg hi0]
      have hxr : 0 ≤ rd s.sent i ∧ rd s.sent i < 65536 := by
        have := HOK.out.2.2.2.2.2.1 (rd s.sent i) (by rw [← Int.toNat_of_nonneg hi0, rd_get' hki]; exact List.getElem_mem hki)
        exact this
      have hflen : ((s.sent.take i.toNat).filter (fun x => (pget x s.acked).isSome)).length ≤ 64 := Nat.le_trans (List.length_filter_le _ _) (by rw [List.length_take]; have := HOK.out.2.2.2.2.2.2.1; omega)
      have hm := (HB.out.cell (p := ⟨g, 2, none⟩) HGL.out).trans k2
      have hlook := (HA.out.same (HB.out.block ma HA.out.lt)).look (P := Tryd.prog) Tryd.underlying59 Tryd.underlying58 zbool (rd s.sent i)
      generalize rd s.sent i = x at hcell htk hxr hlook
      have HTK := Aside0.mk htk; have HFL := Aside0.mk hflen
      clear htk hflen hCr
      rcases hlook with ⟨hg1, hl⟩ | ⟨_, v, hg1, rfl, hl⟩
      · have hl0 := hl false
        have HG1 := Aside0.mk hg1
        clear hl hg1
        go_wp2
        refine ⟨⟨i + 1, rfl, by omega, by omega, ⟨?_⟩, HB⟩, by simp only [intOf]; omega⟩
        rw [HTK.out, List.filter_append]
        simp only [List.filter_cons, List.filter_nil, HG1.out]
        simpa using HO.out
      · have hl0 := hl false
        have HG1 := Aside0.mk hg1
        clear hl hg1
        obtain ⟨zs, hzs⟩ : ∃ zs, zs = (s.sent.take i.toNat).filter (fun x => (pget x s.acked).isSome) := ⟨_, rfl⟩
        rw [← hzs] at HO HFL
        have HZS := Aside0.mk hzs; clear hzs
        go_wp2_with (first | ((with_reducible refine gate_builtin (b := .append) (xs := #[.tmp 21, .tmp 24]) rfl ?_); at_builtin; refine Kd.R_append_rows (Kd.int .i64) (w0 := w) w.heap.size rfl (.tmp 21) (.tmp 24) 33 3 (.int .i64 0) 8 rfl Tryd.underlying33 infoI rfl (by decide) (by omega) _ zs [x] _ _ _ (fun _ => True) (fun _ => False) rfl rfl ?aO ?aR (fun _ _ h => h) (fun _ h => h.elim) ?aF ?aB ?aS ?aL ?_; (case aR => exact (C_int1 wr .i64 x _)); (case aB => exact below_alloc HB.out _); (case aF => exact (fun _ _ => trivial)); (case aO => exact Kd.R_alloc HO.out _); (case aS => exact (below_size (below_alloc HB.out _))); (case aL => (have := HFL.out; omega)); intro v1 w1 ho hb hg hat; have HO1 := Aside0.mk ho; clear HB HO; have HB := Aside0.mk hb; clear ho hb hg hat))
        refine ⟨⟨i + 1, rfl, by omega, by omega, ⟨?_⟩, HB⟩, by simp only [intOf]; omega⟩
        rw [HTK.out, List.filter_append]
        rw [← HZS.out]
        simp only [List.filter_cons, List.filter_nil, HG1.out]
        exact HO1.out
    · have dx : decide (i < (n : Int)) = false := decide_eq_false hx
      have hie : i.toNat = s.sent.length := by have := HN.out; omega
      have hfl : (s.sent.take i.toNat).filter (fun x => (pget x s.acked).isSome) = ackedF s := by rw [hie, List.take_length]; rfl
      rw [hfl] at HO
      clear hie hfl
      go_wp2
      go_ret
      exact ⟨_, rfl, HO.out, HB.out⟩
end Go.Proofs.YtbdocgddidcfeaaDoor

/- hear. -/
namespace Go.Proofs.YtbdocgddidcfeaaDoor
open Go.RowKit Go.Proofs.YtbdocgddidcfeaaDoorW.PrintWords Go.Proofs.YtbdocgddidcfeaaDoorW.PrintLast Go.Proofs.YtbdocgddidcfeaaDoorW.PrintMore
set_option linter.unusedVariables false
set_option linter.unusedSimpArgs false

theorem or_add16 (a b : Int) (ha : 0 ≤ a ∧ a < 256) (hb : 0 ≤ b ∧ b < 256) : bits .or .u16 (a * 256) b = a * 256 + b := by
  obtain ⟨a, rfl⟩ : ∃ n : Nat, a = (n : Int) := ⟨a.toNat, by omega⟩
  obtain ⟨b, rfl⟩ : ∃ n : Nat, b = (n : Int) := ⟨b.toNat, by omega⟩
  have h := Nat.two_pow_add_eq_or_of_lt (i := 8) (b := b) (by omega) a
  rw [show ((a : Int) * 256) = ((2 ^ 8 * a : Nat) : Int) by omega, u16_or_nat _ _ (by omega) (by omega), ← h]
  omega
theorem or_add32 (k : Nat) (a b : Int) (p : Int) (hp : p = ((2 ^ k : Nat) : Int)) (ha : 0 ≤ a) (hab : a * p < 4294967296) (hb : 0 ≤ b) (hb2 : b < p) (hb3 : b < 4294967296) : bits .or .u32 (a * p) b = a * p + b := by
  subst hp
  obtain ⟨a, rfl⟩ : ∃ n : Nat, a = (n : Int) := ⟨a.toNat, by omega⟩
  obtain ⟨b, rfl⟩ : ∃ n : Nat, b = (n : Int) := ⟨b.toNat, by omega⟩
  have h := Nat.two_pow_add_eq_or_of_lt (i := k) (b := b) (by omega) a
  rw [show ((a : Int) * ((2 ^ k : Nat) : Int)) = ((2 ^ k * a : Nat) : Int) by rw [Int.natCast_mul, Int.mul_comm]] at hab ⊢
  rw [u32_or_nat _ _ (by omega) (by omega), ← h]
  omega
theorem four32 (a b c d : Int) (ha : 0 ≤ a ∧ a < 256) (hb : 0 ≤ b ∧ b < 256) (hc : 0 ≤ c ∧ c < 256) (hd : 0 ≤ d ∧ d < 256) :
    bits .or .u32 (bits .or .u32 (bits .or .u32 (a * 16777216) (b * 65536)) (c * 256)) d = a * 16777216 + b * 65536 + c * 256 + d := by
  rw [or_add32 24 a (b * 65536) 16777216 rfl ha.1 (by omega) (by omega) (by omega) (by omega), show a * 16777216 + b * 65536 = (a * 256 + b) * 65536 by omega,
    or_add32 16 (a * 256 + b) (c * 256) 65536 rfl (by omega) (by omega) (by omega) (by omega) (by omega), show (a * 256 + b) * 65536 + c * 256 = ((a * 256 + b) * 256 + c) * 256 by omega,
    or_add32 8 ((a * 256 + b) * 256 + c) d 256 rfl (by omega) (by omega) (by omega) (by omega) (by omega)]
/-- The map of the acked is written, all else stands. -/
theorem map_far {w wr : World} {ma : Nat} {p : List (Int × Unit)} (h : IM .u16 RT w ma p) (hgr : w.grownBy wr (some ma)) {b : Nat} {cs : Array Value} {t : TypeId} (hb : w.heap[b]? = some (Obj.cells cs t (0, 0))) : wr.heap[b]? = w.heap[b]? :=
  hgr.block b (Array.getElem?_eq_some_iff.1 hb).1 (fun e => by
    injection e with e
    subst e
    obtain ⟨es, clock, h1, _⟩ := h
    rw [h1] at hb
    cases hb)
theorem grown_trans {a b c : World} {row : Option Nat} (h : a.grownBy b row) (h2 : b.grownBy c row) : a.grownBy c row :=
  ⟨h2.os.trans h.os, h2.tape.trans h.tape, h2.output.trans h.output, Nat.le_trans h.size h2.size, fun k hk hn => (h2.block k (Nat.lt_of_lt_of_le hk h.size) hn).trans (h.block k hk hn)⟩
/-- A set with one key more, maybe. -/
theorem IM.add {w : World} {ma : Nat} {p : List (Int × Unit)} (h : IM .u16 RT w ma p) (x : Int) :
    ∃ w', (Instr.mapUpdate 59 (.map (some ma)) (.int .u16 x) (.bool true)).run Tryd.prog w = .ok () w' ∧ w.grownBy w' (some ma) ∧ IM .u16 RT w' ma (padd x p) := by
  unfold padd
  cases hx : pget x p with
  | none =>
    obtain ⟨w', h1, h2, h3⟩ := h.put Tryd.underlying59 Tryd.underlying58 x hx (.bool true) () rfl
    exact ⟨w', h1, h2, by simpa using h3⟩
  | some a =>
    obtain ⟨w', h1, h2, h3⟩ := h.again Tryd.underlying59 Tryd.underlying58 x a hx (.bool true) rfl
    exact ⟨w', h1, h2, by simpa using h3⟩
theorem hearL_succ (N B : Int) (l : List Int) (i : Int) (h0 : 0 ≤ i) (h1 : i < l.length) (p : List (Int × Unit)) :
    hearL N B (l.take (i + 1).toNat) p = if hit N B (rd l i) then padd (rd l i) (hearL N B (l.take i.toNat) p) else hearL N B (l.take i.toNat) p := by
  have hk : i.toNat < l.length := by omega
  unfold hearL
  rw [show (i + 1).toNat = i.toNat + 1 by omega, List.take_succ_eq_append_getElem hk, ← rd_get' hk, Int.toNat_of_nonneg h0, List.foldl_append]
  rfl

set_option maxHeartbeats 4000000 in
set_option maxRecDepth 100000 in
theorem hear_calls (g : Nat) (s : LS) (ws : List Nat) (gp L c : Nat) (b : List Int) (w : World) (h : LinkM w g s ws) (hbl : b.length = L) (hcell : ∀ i : Nat, i < L → w.cell? ⟨gp, i, none⟩ = some (.int .u8 (rd b (i : Int)))) (hL : 11 ≤ L) (hb : ∀ x ∈ b, 0 ≤ x ∧ x < 256) :
    Calls Tryd.prog 28 #[.pointer (some ⟨g, 0, none⟩), .slice (some ⟨gp, 0, none⟩) L c] w
    fun e w' => e = .returned (.tuple #[]) ∧ LinkM w' g { s with acked := hearF s b } ws ∧ Keeps w w' ws := by
  have h0 := h
  obtain ⟨sv, ma, mp, gs, mb, hg, hsent, hack, hparts, hw, hne, hws, hok⟩ := h
  obtain ⟨k0, k1, k2, k3, k4, k5, k6, k7, k8, k9⟩ := lcell hg
  have rdr : ∀ i : Nat, i < 11 → 0 ≤ rd b (i : Int) ∧ rd b (i : Int) < 256 := fun i hi => rd_mem hb (by omega) (by omega)
  have c0 : w.cell? ⟨gp, 0, none⟩ = some (.int .u8 (rd b 0)) := hcell 0 (by omega)
  have c1 : w.cell? ⟨gp, 1, none⟩ = some (.int .u8 (rd b 1)) := hcell 1 (by omega)
  have c2 : w.cell? ⟨gp, 2, none⟩ = some (.int .u8 (rd b 2)) := hcell 2 (by omega)
  have c3 : w.cell? ⟨gp, 3, none⟩ = some (.int .u8 (rd b 3)) := hcell 3 (by omega)
  have c4 : w.cell? ⟨gp, 4, none⟩ = some (.int .u8 (rd b 4)) := hcell 4 (by omega)
  have c5 : w.cell? ⟨gp, 5, none⟩ = some (.int .u8 (rd b 5)) := hcell 5 (by omega)
  have c6 : w.cell? ⟨gp, 6, none⟩ = some (.int .u8 (rd b 6)) := hcell 6 (by omega)
  have r0 := rdr 0 (by omega); have r1 := rdr 1 (by omega); have r2 := rdr 2 (by omega); have r3 := rdr 3 (by omega); have r4 := rdr 4 (by omega); have r5 := rdr 5 (by omega); have r6 := rdr 6 (by omega)
  have HH := Aside0.mk h0; have HG := Aside0.mk hg; have HS := Aside0.mk hsent; have HA := Aside0.mk hack; have HP := Aside0.mk hparts; have HW := Aside0.mk hw; have HNE := Aside0.mk hne; have HWS := Aside0.mk hws; have HOK := Aside0.mk hok
  clear h0 hg hsent hack hparts hw hne hws hok hcell hb rdr
  obtain ⟨A, cc, hsv, hlc, _⟩ := HS.out.C
  subst hsv
  obtain ⟨m, hm⟩ : ∃ m, m = s.sent.length := ⟨_, rfl⟩
  have hm64 : m ≤ 64 := by rw [hm]; exact HOK.out.2.2.2.2.2.2.1
  rw [← hm] at k1 hlc
  have HM := Aside0.mk hm; clear hm
  have hhf : hearF s b = if rd b 0 = 0 then s.acked else hearL (rd b 1 * 256 + rd b 2) (rd b 3 * 16777216 + rd b 4 * 65536 + rd b 5 * 256 + rd b 6) s.sent s.acked := rfl
  have hL' : (11 : Int) ≤ (L : Int) := by omega
  generalize rd b ((0 : Nat) : Int) = x0 at r0
  change 0 ≤ rd b 1 ∧ rd b 1 < 256 at r1
  generalize rd b 1 = x1 at c1 r1 hhf
  change 0 ≤ rd b 2 ∧ rd b 2 < 256 at r2
  generalize rd b 2 = x2 at c2 r2 hhf
  change 0 ≤ rd b 3 ∧ rd b 3 < 256 at r3
  generalize rd b 3 = x3 at c3 r3 hhf
  change 0 ≤ rd b 4 ∧ rd b 4 < 256 at r4
  generalize rd b 4 = x4 at c4 r4 hhf
  change 0 ≤ rd b 5 ∧ rd b 5 < 256 at r5
  generalize rd b 5 = x5 at c5 r5 hhf
  change 0 ≤ rd b 6 ∧ rd b 6 < 256 at r6
  generalize rd b 6 = x6 at c6 r6 hhf
  rw [hhf]
  clear hhf
  generalize rd b 0 = z0 at c0
  by_cases hz : z0 = 0
  · subst hz
    rw [if_pos rfl]
    go_enter Tryd.func28, Tryd.ntmps28
    go_wp2
    (try simp only [Exit.inBlock, Exit.then])
    refine bodyPost_ret (results_none rfl _ _ _) rfl ⟨rfl, HH.out, Keeps.refl _ _⟩
  · rw [if_neg hz]
    have z1 : decide (z0 = 0) = false := decide_eq_false hz
    have z2 : (z0 == 0) = false := beq_eq_false_iff_ne.2 hz
    go_enter Tryd.func28, Tryd.ntmps28
    go_wp2
    go_quiet (fail)
    go_wp2
    go_quiet (fail)
    go_wp2
    rw [or_add16 x1 x2 r1 r2, four32 x3 x4 x5 x6 r3 r4 r5 r6]
    have hN : 0 ≤ x1 * 256 + x2 ∧ x1 * 256 + x2 < 65536 := by omega
    have hB : 0 ≤ x3 * 16777216 + x4 * 65536 + x5 * 256 + x6 ∧ x3 * 16777216 + x4 * 65536 + x5 * 256 + x6 < 4294967296 := by omega
    generalize hNe : x1 * 256 + x2 = N at hN ⊢
    generalize hBe : x3 * 16777216 + x4 * 65536 + x5 * 256 + x6 = B at hB ⊢
    have HNN := Aside0.mk hNe; have HBB := Aside0.mk hBe
    clear hNe hBe
    clear c0 c1 c2 c3 c4 c5 c6 r0 r1 r2 r3 r4 r5 r6
    go_loopw [50] (fun vi wr => ∃ i : Int, vi = .int .i64 i ∧ 0 ≤ i ∧ i ≤ (m : Int) ∧ Aside0 (w.grownBy wr (some ma)) ∧ Aside0 (IM .u16 RT wr ma (hearL N B (s.sent.take i.toNat) s.acked))) (fun vi _ => ((m : Int) - intOf vi).toNat)
    case atStart => exact ⟨0, rfl, by omega, by omega, ⟨grown_drewN (World.grownBy.refl w _) _⟩, ⟨HA.out⟩⟩
    case round =>
      obtain ⟨i, rfl, hi0, hi1, HGR, HIM⟩ := hrel
      have hgw := map_far HA.out HGR.out HG.out
      by_cases hx : i < (m : Int)
      · have dx : decide (i < (m : Int)) = true := decide_eq_true hx
        have hsw : SentAt wr (.slice A m cc) s.sent gs := HM.out ▸ HS.out.same (fun b' e => by
          rcases HS.out with ⟨_, _, e2⟩ | ⟨b2, off, cap, cs, e1, _, h3, _⟩
          · exact absurd (e.symm.trans e2) (by simp)
          · obtain rfl : b' = b2 := Option.some.inj (e.symm.trans e1)
            exact map_far HA.out HGR.out h3)
        obtain ⟨A', c', e, _, hCs⟩ := hsw.C
        rw [← HM.out] at e hCs
        injection e with e1 e2 e3
        subst e1
        obtain ⟨ad, e, hcl⟩ := Kd.at_int hCs i hi0 hx
        cases e
        have kk2 : wr.cell? ⟨g, 2, none⟩ = some (.map (some ma)) := (World.cell?_of_block (a := ⟨g, 2, none⟩) hgw).trans k2
        have hsucc := hearL_succ N B s.sent i hi0 (by have := HM.out; omega) s.acked
        have hki : i.toNat < s.sent.length := by have := HM.out; omega
        have hxr : 0 ≤ rd s.sent i ∧ rd s.sent i < 65536 := by
          have := HOK.out.2.2.2.2.2.1 (rd s.sent i) (by rw [← Int.toNat_of_nonneg hi0, rd_get' hki]; exact List.getElem_mem hki)
          exact this
        generalize rd s.sent i = x at hcl hsucc hxr
        obtain ⟨w2, hup, hgr2, him2⟩ := HIM.out.add x
        have hkx : IntKind.u16.wrap (N - x) = (N - x) % 65536 := by rw [IntKind.wrap_u16]
        have hkr : 0 ≤ (N - x) % 65536 ∧ (N - x) % 65536 < 65536 := by omega
        rw [show hit N B x = (decide (IntKind.u16.wrap (N - x) = 0) || (decide (IntKind.u16.wrap (N - x) ≤ 32) && decide (B / (2 : Int) ^ ((IntKind.u16.wrap (N - x)).toNat - 1) % 2 = 1))) by unfold hit; rw [hkx]] at hsucc
        have HSU := Aside0.mk hsucc; have HG2 := Aside0.mk hgr2; have HI2 := Aside0.mk him2
        rw [← hkx] at hkr
        clear hsucc hgr2 him2 hsw hCs hgw hkx
        by_cases hk0 : IntKind.u16.wrap (N - x) = 0
        · have d0 : decide (IntKind.u16.wrap (N - x) = 0) = true := decide_eq_true hk0
          have d0' : (IntKind.u16.wrap (N - x) == 0) = true := beq_iff_eq.2 hk0
          go_wp2
          exact ⟨⟨i + 1, rfl, by omega, by omega, ⟨grown_trans HGR.out HG2.out⟩, ⟨by rw [HSU.out, if_pos (by simp [hk0])]; exact HI2.out⟩⟩, by simp only [intOf]; omega⟩
        · have d0 : decide (IntKind.u16.wrap (N - x) = 0) = false := decide_eq_false hk0
          have d0' : (IntKind.u16.wrap (N - x) == 0) = false := beq_eq_false_iff_ne.2 hk0
          by_cases hk32 : IntKind.u16.wrap (N - x) ≤ 32
          · have d1 : decide (IntKind.u16.wrap (N - x) ≤ 32) = true := decide_eq_true hk32
            have hshr : 0 ≤ B / (2 : Int) ^ ((IntKind.u16.wrap (N - x)).toNat - 1) ∧ B / (2 : Int) ^ ((IntKind.u16.wrap (N - x)).toNat - 1) < 4294967296 := by
              have hp : (0 : Int) < 2 ^ ((IntKind.u16.wrap (N - x)).toNat - 1) := Int.pow_pos (by decide)
              exact ⟨Int.ediv_nonneg hB.1 (Int.le_of_lt hp), Int.lt_of_le_of_lt (Int.ediv_le_self _ hB.1) hB.2⟩
            have hand := u32_and1 _ hshr.1 hshr.2
            by_cases hbit : B / (2 : Int) ^ ((IntKind.u16.wrap (N - x)).toNat - 1) % 2 = 1
            · have f1 : bits .and .u32 (B / (2 : Int) ^ ((IntKind.u16.wrap (N - x)).toNat - 1)) 1 = 1 := by rw [hand]; exact hbit
              have f2 : decide (bits .and .u32 (B / (2 : Int) ^ ((IntKind.u16.wrap (N - x)).toNat - 1)) 1 = 1) = true := decide_eq_true f1
              have f3 : (bits .and .u32 (B / (2 : Int) ^ ((IntKind.u16.wrap (N - x)).toNat - 1)) 1 == 1) = true := beq_iff_eq.2 f1
              have HBIT := Aside0.mk hbit
              clear hshr hand hbit
              go_wp2
              exact ⟨⟨i + 1, rfl, by omega, by omega, ⟨grown_trans HGR.out HG2.out⟩, ⟨by rw [HSU.out, if_pos (by simp [hk0, hk32, HBIT.out])]; exact HI2.out⟩⟩, by simp only [intOf]; omega⟩
            · have f1 : ¬ bits .and .u32 (B / (2 : Int) ^ ((IntKind.u16.wrap (N - x)).toNat - 1)) 1 = 1 := by rw [hand]; exact hbit
              have f2 : decide (bits .and .u32 (B / (2 : Int) ^ ((IntKind.u16.wrap (N - x)).toNat - 1)) 1 = 1) = false := decide_eq_false f1
              have f3 : (bits .and .u32 (B / (2 : Int) ^ ((IntKind.u16.wrap (N - x)).toNat - 1)) 1 == 1) = false := beq_eq_false_iff_ne.2 f1
              have HBIT := Aside0.mk hbit
              clear hshr hand hbit
              go_wp2
              exact ⟨⟨i + 1, rfl, by omega, by omega, HGR, ⟨by rw [HSU.out, if_neg (by have := HBIT.out; simp [hk0, hk32]; simpa using this)]; exact HIM.out⟩⟩, by simp only [intOf]; omega⟩
          · have d1 : decide (IntKind.u16.wrap (N - x) ≤ 32) = false := decide_eq_false hk32
            go_wp2
            exact ⟨⟨i + 1, rfl, by omega, by omega, HGR, ⟨by rw [HSU.out, if_neg (by simp [hk0, hk32])]; exact HIM.out⟩⟩, by simp only [intOf]; omega⟩
      · have dx : decide (i < (m : Int)) = false := decide_eq_false hx
        have htk : s.sent.take i.toNat = s.sent := List.take_of_length_le (by have := HM.out; omega)
        rw [htk] at HIM
        clear htk
        go_wp2
        (try simp only [Exit.inBlock, Exit.then])
        refine Go.Great.bodyPost_end0 rfl rfl ⟨rfl, ⟨_, ma, mp, gs, mb, hgw.trans HG.out, ?_, by show IM .u16 RT wr ma (hearL (x1 * 256 + x2) (x3 * 16777216 + x4 * 65536 + x5 * 256 + x6) s.sent s.acked); rw [HNN.out, HBB.out]; exact HIM.out, ?_, HW.out, HNE.out, HWS.out, HOK.out⟩, Keeps.of_grown HGR.out (by rw [HWS.out]; simp [wset])⟩
        · show SentAt wr (.slice A s.sent.length cc) s.sent gs
          refine HS.out.same (fun b' e => ?_)
          exact (by
            rcases HS.out with ⟨_, _, e2⟩ | ⟨b2, off, cap, cs, e1, _, h3, _⟩
            · exact absurd (e.symm.trans e2) (by simp)
            · obtain rfl : b' = b2 := Option.some.inj (e.symm.trans e1)
              exact map_far HA.out HGR.out h3)
        · refine HP.out.same (fun b' e => ?_) (fun b' cs hb' => map_far HA.out HGR.out hb')
          rcases HP.out with ⟨_, _, e2⟩ | ⟨b2, e1, _, hi⟩
          · exact absurd (e.symm.trans e2) (by simp)
          · obtain rfl : b' = b2 := Option.some.inj (e.symm.trans e1)
            exact HGR.out.block b' hi.lt (fun e2 => HNE.out (by rw [e]; exact e2))
end Go.Proofs.YtbdocgddidcfeaaDoor

/- formed. Printed by gen_f.py. -/
namespace Go.Proofs.YtbdocgddidcfeaaDoor
open Go.RowKit Go.Proofs.YtbdocgddidcfeaaDoorW.PrintWords Go.Proofs.YtbdocgddidcfeaaDoorW.PrintLast Go.Proofs.YtbdocgddidcfeaaDoorW.PrintMore
set_option linter.unusedVariables false
set_option linter.unusedSimpArgs false

theorem zeros_iff (b : List Int) (hl : 11 ≤ b.length) : (∀ x ∈ (b.drop 1).take 6, x = 0) ↔ ∀ j : Nat, j < 6 → rd b ((1 + j : Nat) : Int) = 0 := by
  constructor
  · intro h j hj
    have hj2 : 1 + j < b.length := by omega
    rw [rd_get' hj2]
    refine h _ ?_
    rw [List.mem_iff_getElem?]
    refine ⟨j, ?_⟩
    rw [List.getElem?_take, if_pos hj, List.getElem?_drop, List.getElem?_eq_getElem hj2]
  · intro h x hx
    obtain ⟨j, hj⟩ := List.mem_iff_getElem?.1 hx
    rw [List.getElem?_take] at hj
    split at hj
    · rename_i hj6
      rw [List.getElem?_drop] at hj
      have hj2 : 1 + j < b.length := by omega
      rw [List.getElem?_eq_getElem hj2] at hj
      injection hj with hj
      rw [← hj, ← rd_get' hj2]
      exact h j hj6
    · cases hj

set_option maxHeartbeats 8000000 in
set_option maxRecDepth 100000 in
theorem formed_calls (A : Option Addr) (L c : Nat) (b : List Int) (w : World) (hC : Kd.C (Kd.int .u8) w A L b) (hLc : L ≤ c) (hA : 0 < L → ∃ gp, A = some ⟨gp, 0, none⟩) (hb : ∀ x ∈ b, 0 ≤ x ∧ x < 256) (hLm : L ≤ 140737488355328) :
    Calls Tryd.prog 27 #[.slice A L c] w fun e w' => e = .returned (.bool (formedF b)) ∧ ∃ n, w' = w.drewN n := by
  have hbl : b.length = L := hC.1
  by_cases hL : L < 11
  · have hf : formedF b = false := by
      unfold formedF
      rw [if_pos (.inl (by omega))]
    rw [hf]
    have e1 : decide ((L : Int) < 11) = true := decide_eq_true (by omega)
    clear hC hb hA hbl hf
    go_enter Tryd.func27, Tryd.ntmps27
    go_wp2
    go_ret
    exact ⟨rfl, 0, rfl⟩
  · obtain ⟨gp, rfl⟩ := hA (by omega)
    have e1 : decide ((L : Int) < 11) = false := decide_eq_false (by omega)
    have hcell : ∀ i : Nat, i < L → w.cell? ⟨gp, i, none⟩ = some (.int .u8 (rd b (i : Int))) := fun i hi => by
      obtain ⟨ad, e, hc⟩ := Kd.at_int hC (i : Int) (by omega) (by omega)
      cases e
      rw [Int.toNat_natCast, add_plain] at hc
      exact hc
    have rdr : ∀ i : Nat, i < 11 → 0 ≤ rd b (i : Int) ∧ rd b (i : Int) < 256 := fun i hi => rd_mem hb (by omega) (by omega)
    have c0 : w.cell? ⟨gp, 0, none⟩ = some (.int .u8 (rd b 0)) := hcell 0 (by omega)
    have c9 : w.cell? ⟨gp, 9, none⟩ = some (.int .u8 (rd b 9)) := hcell 9 (by omega)
    have c10 : w.cell? ⟨gp, 10, none⟩ = some (.int .u8 (rd b 10)) := hcell 10 (by omega)
    have r0 : 0 ≤ rd b 0 ∧ rd b 0 < 256 := rdr 0 (by omega)
    have r9 : 0 ≤ rd b 9 ∧ rd b 9 < 256 := rdr 9 (by omega)
    have r10 : 0 ≤ rd b 10 ∧ rd b 10 < 256 := rdr 10 (by omega)
    have hzi := zeros_iff b (by omega)
    have hf : formedF b = if 1 < rd b 0 then false else if rd b 0 = 0 ∧ ¬ (∀ j : Nat, j < 6 → rd b ((1 + j : Nat) : Int) = 0) then false else
        if rd b 10 < 1 ∨ 10 < rd b 10 ∨ rd b 10 ≤ rd b 9 ∨ 200 < (L : Int) - 11 then false else
        if rd b 9 < rd b 10 - 1 then decide ((L : Int) - 11 = 200) else decide (rd b 10 = 1 ∨ 0 < (L : Int) - 11) := by
      unfold formedF
      rw [hbl]
      simp only [hL, false_or, hzi]
    have HCELL := Aside0.mk hcell
    clear hcell rdr hzi hb hC hA
    generalize hx9 : rd b 9 = x9 at c9 r9 hf
    generalize hx10 : rd b 10 = x10 at c10 r10 hf
    generalize hx0 : rd b 0 = x0 at c0 r0 hf
    clear hx9 hx10 hx0
    obtain ⟨ff, hff⟩ : ∃ ff, ff = formedF b := ⟨_, rfl⟩
    rw [← hff] at hf ⊢
    clear hff
    have HF := Aside0.mk hf
    clear hf
    have hr9 : wrap64 x9 = x9 := by simp only [wrap64]; omega
    have hr10 : wrap64 x10 = x10 := by simp only [wrap64]; omega
    have s11 : ((L : Int) - 11) = ((L - 11 : Nat) : Int) := by omega
    go_enter Tryd.func27, Tryd.ntmps27
    by_cases q0 : 1 < x0
    · have p0 : decide (1 < x0) = true := decide_eq_true q0
      have hv : ff = false := by rw [HF.out, if_pos q0]
      rw [hv]
      go_wp2
      go_ret
      exact ⟨rfl, 0, rfl⟩
    · have p0 : decide (1 < x0) = false := decide_eq_false q0
      go_wp2
      go_quiet (fail)
      by_cases q1 : x0 = 0
      · have p1 : decide (x0 = 0) = true := decide_eq_true q1
        have p1' : (x0 == 0) = true := beq_iff_eq.2 q1
        go_wp2
        go_loop [35] (fun vi => ∃ i : Int, vi = .int .i64 i ∧ 0 ≤ i ∧ i ≤ 6 ∧ Aside0 (∀ j : Nat, (j : Int) < i → rd b ((1 + j : Nat) : Int) = 0)) (fun vi => (6 - intOf vi).toNat)
        case atStart => exact ⟨0, rfl, by omega, by omega, ⟨fun j hj => by omega⟩⟩
        case round =>
          obtain ⟨i, rfl, hi0, hi1, HZ⟩ := hrel
          by_cases hx : i < 6
          · have dx : decide (i < 6) = true := decide_eq_true hx
            have hcl : w.cell? ⟨gp, 1 + i.toNat, none⟩ = some (.int .u8 (rd b ((1 + i.toNat : Nat) : Int))) := HCELL.out _ (by omega)
            obtain ⟨y, hy⟩ : ∃ y, y = rd b ((1 + i.toNat : Nat) : Int) := ⟨_, rfl⟩
            rw [← hy] at hcl
            have HYY := Aside0.mk hy; clear hy
            by_cases hy0 : y = 0
            · have d0 : decide (y = 0) = true := decide_eq_true hy0
              subst hy0
              go_wp2
              refine ⟨⟨i + 1, rfl, by omega, by omega, ⟨fun j hj => ?_⟩⟩, by simp only [intOf]; omega⟩
              by_cases hji : (j : Int) < i
              · exact HZ.out j hji
              · rw [show j = i.toNat by omega]
                exact HYY.out.symm
            · have d0 : decide (y = 0) = false := decide_eq_false hy0
              have d1 : (y == 0) = false := beq_eq_false_iff_ne.2 hy0
              have d2 : (y != 0) = true := bne_iff_ne.2 hy0
              have hv : ff = false := by
                rw [HF.out, if_neg (by omega), if_pos ⟨q1, fun h => hy0 (by rw [HYY.out]; exact h i.toNat (by omega))⟩]
              have HV := Aside0.mk hv; clear hv
              go_wp2
              go_ret
              exact ⟨ret_bool HV.out.symm, _, rfl⟩
          · have dx : decide (i < 6) = false := decide_eq_false hx
            have hv := HF.out
            rw [if_neg (by omega), if_neg (fun h => h.2 (fun j hj => HZ.out j (by omega)))] at hv
            have HV := Aside0.mk hv; clear hv
            go_wp2
            all_goals
              have hv := HV.out
              go_ret
              refine ⟨ret_bool ?_, _, rfl⟩
              rw [hv]
              repeat' split
              all_goals first | rfl | (exfalso; omega) | omega | (rw [Bool.eq_iff_iff]; simp; omega)
      · have p1 : decide (x0 = 0) = false := decide_eq_false q1
        have p1' : (x0 == 0) = false := beq_eq_false_iff_ne.2 q1
        have hv := HF.out
        rw [if_neg (by omega), if_neg (fun h => q1 h.1)] at hv
        have HV := Aside0.mk hv; clear hv
        go_wp2
        all_goals
          have hv := HV.out
          go_ret
          refine ⟨ret_bool ?_, _, rfl⟩
          rw [hv]
          repeat' split
          all_goals first | rfl | (exfalso; omega) | omega | (rw [Bool.eq_iff_iff]; simp; omega)
end Go.Proofs.YtbdocgddidcfeaaDoor

/- What Receive wants. -/
namespace Go.Proofs.YtbdocgddidcfeaaDoor
open Go.RowKit Go.Proofs.YtbdocgddidcfeaaDoorW.PrintWords Go.Proofs.YtbdocgddidcfeaaDoorW.PrintLast Go.Proofs.YtbdocgddidcfeaaDoorW.PrintMore
set_option linter.unusedVariables false
set_option linter.unusedSimpArgs false

/-- A scope with jumps forward to one label: the walk goes on behind it. -/
theorem wp_scope_fwd {P : Program} {c rest : Code} {Q : Exit → Act → World → Prop} {a : Act} {w : World} (l : Nat) (hf : findLabel c l = some rest)
    (first : c.wp P (Exit.jump l (fun a' w' => rest.wp P (Exit.jump l (fun _ _ => False) Q) a' w') Q) a w) : (Code.scope c).wp P Q a w :=
  wp_scope_jumps l _ (fun _ _ => 0) hf first (fun a w h => Code.wp_mono (fun e a w h => by
    cases e with
    | goto l' => exact ⟨h.1, h.2.elim⟩
    | _ => exact h) h)
theorem LinkM.lt {W : World} {g : Nat} {s : LS} {ws : List Nat} (h : LinkM W g s ws) : ∀ k ∈ ws, k < W.heap.size := by
  obtain ⟨sv, ma, mp, gs, mb, h1, h2, h3, h4, h5, h6, h7, h8⟩ := h
  intro b hm
  rw [h7] at hm
  simp only [wset, List.mem_append, List.mem_cons, List.not_mem_nil, or_false, Option.mem_toList] at hm
  rcases hm with ((rfl | rfl) | hm) | hm
  · exact (Array.getElem?_eq_some_iff.1 h1).1
  · exact h3.lt
  · rcases h2 with ⟨_, _, e⟩ | ⟨b', _, _, _, e, _, e3, _⟩
    · rw [e] at hm; cases hm
    · rw [e] at hm; cases hm; exact (Array.getElem?_eq_some_iff.1 e3).1
  · rcases h4 with ⟨_, _, e⟩ | ⟨b', e, _, e3⟩
    · rw [e] at hm; cases hm
    · rw [e] at hm; cases hm; exact e3.lt
/-- No block that a link writes holds bytes. -/
theorem LinkM.noU8 {W : World} {g : Nat} {s : LS} {ws : List Nat} (h : LinkM W g s ws) : ∀ k ∈ ws, ∀ cs : Array Value, W.heap[k]? ≠ some (Obj.cells cs 5 (0, 0)) := by
  obtain ⟨sv, ma, mp, gs, mb, h1, h2, h3, h4, h5, h6, h7, h8⟩ := h
  intro b hm cs hc
  rw [h7] at hm
  simp only [wset, List.mem_append, List.mem_cons, List.not_mem_nil, or_false, Option.mem_toList] at hm
  rcases hm with ((rfl | rfl) | hm) | hm
  · rw [h1] at hc; injection hc with hc; injection hc with _ hc; cases hc
  · obtain ⟨es, clock, e, _⟩ := h3; rw [e] at hc; cases hc
  · rcases h2 with ⟨_, _, e⟩ | ⟨b', _, _, _, e, _, e3, _⟩
    · rw [e] at hm; cases hm
    · rw [e] at hm; cases hm; rw [e3] at hc; injection hc with hc; injection hc with _ hc; cases hc
  · rcases h4 with ⟨_, _, e⟩ | ⟨b', e, _, es, clock, e3, _⟩
    · rw [e] at hm; cases hm
    · rw [e] at hm; cases hm; rw [e3] at hc; cases hc
theorem LinkM.ok {W : World} {g : Nat} {s : LS} {ws : List Nat} (h : LinkM W g s ws) : Okay s := by
  obtain ⟨sv, ma, mp, gs, mb, h1, h2, h3, h4, h5, h6, h7, h8⟩ := h
  exact h8
theorem Keeps.u8 {w w' : World} {g : Nat} {s : LS} {ws : List Nat} (h : Keeps w w' ws) (hl : LinkM w g s ws) {b : Nat} {cs : Array Value} (hb : w.heap[b]? = some (Obj.cells cs 5 (0, 0))) : w'.heap[b]? = some (Obj.cells cs 5 (0, 0)) :=
  (h.2.2.2.2 b (Array.getElem?_eq_some_iff.1 hb).1 (fun hm => hl.noU8 b hm cs hb)).trans hb
theorem PartR.C {W : World} {v : Value} {l : List Int} (h : PartR W v l) (hl : l.length ≤ 9223372036854775807) : ∃ A c, v = .slice A l.length c ∧ Kd.C (Kd.int .u8) W A l.length l := by
  rcases h with ⟨rfl, A, c, rfl⟩ | ⟨b, off, c, cs, rfl, h2, h3⟩
  · exact ⟨A, c, rfl, rfl, by simp, fun h => absurd h (Nat.lt_irrefl 0)⟩
  · refine ⟨_, _, rfl, rfl, hl, fun _ => ⟨_, rfl, fun j p hj => ⟨[.int .u8 p], rfl, rfl, fun i u hu => ?_⟩⟩⟩
    cases i with
    | zero =>
      simp only [List.getElem?_cons_zero, Option.some.injEq] at hu
      subst hu
      have ha : (⟨b, off, none⟩ : Addr).add (j * 1 + 0) = ⟨b, off + j, none⟩ := by
        rw [Nat.mul_one, Nat.add_zero]; unfold Addr.add; split <;> simp_all
      show W.cell? ((⟨b, off, none⟩ : Addr).add (j * 1 + 0)) = _
      rw [ha, blk_cell h2, h3 j p hj]
    | succ i => simp at hu
theorem zslice (W : World) : (zeroValue 30).run Tryd.prog W = .ok (.slice none 0 0) W := by
  have hz : (Tryd.prog.info? 30).map (·.zero) = some (some (.slice none 0 0)) := by kernel_rfl
  obtain ⟨i, hi, hz⟩ := Option.map_eq_some_iff.1 hz
  simp [zeroValue, typeInfo, hi, hz, Result.andThen]
theorem cut11 (gb L c : Nat) (h : 11 ≤ L) (hc : L ≤ c) : ∃ off, (off = 11 ∨ L = 11) ∧ ∀ W, (Instr.slice 30 (.slice (some ⟨gb, 0, none⟩) L c) (some (.int .i64 11)) none none).run Tryd.prog W = .ok (.slice (some ⟨gb, off, none⟩) (L - 11) (c - 11)) W := by
  obtain ⟨i0, hi0, _, hsz0, _⟩ := info_parts infoB
  have ht := Tryd.underlying30
  have hel : Tryd.prog.elem 30 = 5 := by simp [Program.elem, ht]
  have hu : Tryd.prog.underlying 30 = some (.slice (Tryd.prog.elem 30)) := by rw [hel]; exact ht
  by_cases he : c = 11
  · refine ⟨0, .inr (by omega), fun W => ?_⟩
    rw [run_slice_l W 30 (some ⟨gb, 0, none⟩) L c hu .i64 (11 : Int) (by omega) (by omega), hel]
    simp [sizeOf, typeInfo, hi0, hsz0, sliced, Result.andThen, he]
  · refine ⟨11, .inl rfl, fun W => ?_⟩
    rw [run_slice_l W 30 (some ⟨gb, 0, none⟩) L c hu .i64 (11 : Int) (by omega) (by omega), hel]
    simp [sizeOf, typeInfo, hi0, hsz0, sliced, Result.andThen, he, Addr.add]
/-- A row's end, from its eleventh byte on, is a part. -/
theorem part_of {W : World} {gb c off L : Nat} {b sp : List Int} (hb : W.heap[gb]? = some (Obj.cells ((b ++ sp).map (Value.int .u8)).toArray 5 (0, 0))) (hL : b.length = L) (h11 : 11 ≤ L) (ho : off = 11 ∨ L = 11) : PartR W (.slice (some ⟨gb, off, none⟩) (L - 11) c) (b.drop 11) := by
  have hl : (b.drop 11).length = L - 11 := by rw [List.length_drop, hL]
  by_cases h0 : L = 11
  · refine .inl ⟨List.drop_of_length_le (by omega), some ⟨gb, off, none⟩, c, ?_⟩
    rw [show L - 11 = 0 by omega]
  · have ho' : off = 11 := ho.resolve_right h0
    subst ho'
    refine .inr ⟨gb, 11, c, _, by rw [hl], hb, fun j x hx => ?_⟩
    rw [List.getElem?_drop] at hx
    have hj := (List.getElem?_eq_some_iff.1 hx).1
    simp only [List.getElem?_toArray, List.map_append]
    rw [List.getElem?_append_left (by simpa using hj), List.getElem?_map, hx]
    rfl
/-- A store at a new key, in the world behind one draw. -/
theorem IM.put1 {α : Type} {R : Value → α → Prop} {w : World} {b : Nat} {p : List (Int × α)} {t k e : TypeId} (h : IM .i64 R w b p) (ht : Tryd.prog.underlying t = some (.map k e)) (hk : Tryd.prog.underlying k = some (.int .i64)) (x : Int) (hx : pget x p = none) (v : Value) (a : α) (hv : R v a) :
    ∃ w', (Instr.mapUpdate t (.map (some b)) (.int .i64 x) v).run Tryd.prog w.drew = .ok () w'.drew ∧ w.grownBy w' (some b) ∧ IM .i64 R w' b (p ++ [(x, a)]) := by
  obtain ⟨es, clock, h1, h2⟩ := h
  have h1' : w.drew.heap[b]? = some (.map es clock) := h1
  have hck := fun e => MapKept.run_checkKey (P := Tryd.prog) (w := w.drew) hk (show MapKept.IsKey (.int .i64) (.int .i64 x) by simp [MapKept.IsKey]) e 9999
  rcases h2.find x 0 with ⟨g1, g2⟩ | ⟨a, v, j, g1, _⟩
  · refine ⟨{ w with heap := w.heap.setIfInBounds b (.map (es.push { key := .int .i64 x, val := v, born := clock }) (clock + 1)) }, ?_, heap_put_grown h1, _, _, (MapKept.heap_set h1).1, ?_⟩
    · simp [Instr.mapUpdate, run_underlying ht, MapKept.run_getObj_map (P := Tryd.prog) h1', hck, MapKept.run_findKey hk g2, Result.andThen, MapKept.run_setObj_map (P := Tryd.prog) _ h1']
      rfl
    · rw [Array.toList_push]
      exact Fits.push rfl hv h2
  · rw [hx] at g1; cases g1
/-- A look-up in any world in which the map is the same. -/
theorem IM.lookS {α : Type} {q : IntKind} {R : Value → α → Prop} {w : World} {b : Nat} {p : List (Int × α)} {t k e : TypeId} (h : IM q R w b p) (ht : Tryd.prog.underlying t = some (.map k e)) (hk : Tryd.prog.underlying k = some (.int q)) {z : Value} (hz : ∀ w, (zeroValue e).run Tryd.prog w = .ok z w) (x : Int) :
    (pget x p = none ∧ ∀ c W, W.heap[b]? = w.heap[b]? → (Instr.lookup t (.map (some b)) (.int q x) c).run Tryd.prog W = .ok (if c then .tuple #[z, .bool false] else z) W) ∨
    ∃ a v, pget x p = some a ∧ R v a ∧ ∀ c W, W.heap[b]? = w.heap[b]? → (Instr.lookup t (.map (some b)) (.int q x) c).run Tryd.prog W = .ok (if c then .tuple #[v, .bool true] else v) W := by
  obtain ⟨es, clock, h1, h2⟩ := h
  rcases h2.find x 0 with ⟨g1, g2⟩ | ⟨a, v, j, g1, g2, g3, _⟩
  · refine .inl ⟨g1, fun c W hW => ?_⟩
    have h1' := hW.trans h1
    have hck := fun e => MapKept.run_checkKey (P := Tryd.prog) (w := W) hk (show MapKept.IsKey (.int q) (.int q x) by simp [MapKept.IsKey]) e 9999
    simp [Instr.lookup, run_underlying ht, MapKept.run_getObj_map (P := Tryd.prog) h1', hck, MapKept.run_findKey hk g2, Result.andThen, hz]
  · refine .inr ⟨a, v, g1, g2, fun c W hW => ?_⟩
    have h1' := hW.trans h1
    have hck := fun e => MapKept.run_checkKey (P := Tryd.prog) (w := W) hk (show MapKept.IsKey (.int q) (.int q x) by simp [MapKept.IsKey]) e 9999
    simp [Instr.lookup, run_underlying ht, MapKept.run_getObj_map (P := Tryd.prog) h1', hck, MapKept.run_findKey hk g3, Result.andThen]
theorem IM.lenS {α : Type} {q : IntKind} {R : Value → α → Prop} {w : World} {b : Nat} {p : List (Int × α)} {t k e ty : TypeId} (h : IM q R w b p) (ht : Tryd.prog.underlying t = some (.map k e)) (W : World) (hW : W.heap[b]? = w.heap[b]?) : (Builtin.len_ #[t] ty #[.map (some b)]).run Tryd.prog W = .ok (goInt p.length) W :=
  (h.same hW).len ht
/-- A link that waits: its cells of many and parts, and the map. -/
theorem waiting {W : World} {g : Nat} {s : LS} {ws : List Nat} (h : LinkM W g s ws) (hw : s.waits = true) : ∃ mb, W.cell? ⟨g, 8, none⟩ = some (.int .i64 s.many) ∧ W.cell? ⟨g, 9, none⟩ = some (.map (some mb)) ∧ IM .i64 (PartR W) W mb s.parts ∧ g < W.heap.size := by
  obtain ⟨sv, ma, mp, gs, mb, h1, h2, h3, h4, h5, h6, h7, h8⟩ := h
  obtain ⟨_, _, _, _, _, _, _, _, k8, k9⟩ := lcell h1
  rcases h4 with ⟨_, _, e⟩ | ⟨b, e1, rfl, him⟩
  · exact absurd e (h5 hw)
  · exact ⟨b, k8, k9, him, (Array.getElem?_eq_some_iff.1 h1).1⟩
theorem pget_mem {x : Int} {a : List Int} : ∀ {p : List (Int × List Int)}, pget x p = some a → (x, a) ∈ p
  | [], h => by cases h
  | y :: ys, h => by
    unfold pget at h
    by_cases e : x = y.1
    · rw [if_pos e] at h
      injection h with h
      subst e h
      exact List.mem_cons_self ..
    · rw [if_neg e] at h
      exact List.mem_cons_of_mem _ (pget_mem h)
theorem flat_succ (P : List (Int × List Int)) (i : Int) (h0 : 0 ≤ i) : (List.range (i + 1).toNat).flatMap (fun j : Nat => (pget (j : Int) P).getD []) = (List.range i.toNat).flatMap (fun j : Nat => (pget (j : Int) P).getD []) ++ (pget i P).getD [] := by
  rw [show (i + 1).toNat = i.toNat + 1 by omega, List.range_succ, List.flatMap_append]
  simp only [List.flatMap_cons, List.flatMap_nil, List.append_nil, Int.toNat_of_nonneg h0]
theorem flat_len {P : List (Int × List Int)} (h : ∀ j : Nat, ((pget (j : Int) P).getD []).length ≤ 200) : ∀ n : Nat, ((List.range n).flatMap (fun j : Nat => (pget (j : Int) P).getD [])).length ≤ 200 * n
  | 0 => by simp
  | n + 1 => by
    rw [List.range_succ, List.flatMap_append, List.length_append]
    have := flat_len h n
    have h1 := h n
    simp only [List.flatMap_cons, List.flatMap_nil, List.append_nil]
    omega
theorem tell_gap {a b : Int} (h : newerF a b = true) : 1 ≤ (a - b) % 65536 := by
  unfold newerF at h
  have := of_decide_eq_true h
  omega
/-- Waits no more. -/
theorem unwait {W : World} {g : Nat} {s : LS} {ws : List Nat} (h : LinkM W g s ws) : LinkM (W.setCell ⟨g, 6, none⟩ (.bool false)) g { s with waits := false } ws ∧ Keeps W (W.setCell ⟨g, 6, none⟩ (.bool false)) ws := by
  have hin := h.g_in
  obtain ⟨sv, ma, mp, gs, mb, h1, h2, h3, h4, h5, h6, h7, h8⟩ := h
  have hgr := grown_set (j := 6) (v := .bool false) (World.grownBy.refl W (some g))
  obtain ⟨q1, q2, q3⟩ := struct_keeps h1 hgr
  refine ⟨⟨sv, ma, mp, gs, mb, blk_put h1 6 (.bool false) rfl, q1 _ _ _ h2, q2 _ _ h3, q3 _ _ _ h4, by simp, h6, h7, h8⟩, Keeps.of_grown hgr hin.1⟩
/-- Parts of another message. -/
theorem new_parts {W : World} {g : Nat} {s : LS} {ws : List Nat} (h : LinkM W g s ws) (N m : Int) (hN : 0 ≤ N ∧ N < 65536) (hm : 0 ≤ m ∧ m ≤ 10) (X : World)
    (hX : X = (((((W.alloc (.map #[] 0)).setCell ⟨g, 6, none⟩ (.bool true)).setCell ⟨g, 7, none⟩ (.int .u16 N)).setCell ⟨g, 8, none⟩ (.int .i64 m)).setCell ⟨g, 9, none⟩ (.map (some W.heap.size)))) :
    ∃ ws2, LinkM X g { s with waits := true, n := N, many := m, parts := [] } ws2 ∧ (∀ k ∈ ws2, k ∈ ws ∨ W.heap.size ≤ k) ∧ Keeps W X ws := by
  subst hX
  have hin := h.g_in
  have hb := below_alloc (Below.refl W.heap.size W) (.map #[] 0)
  have hlt := h.lt
  have h' := h.below hb
  obtain ⟨sv, ma, mp, gs, mb, h1, h2, h3, h4, h5, h6, h7, h8⟩ := h'
  have hgr := grown_set (j := 9) (v := .map (some W.heap.size)) (grown_set (j := 8) (v := .int .i64 m) (grown_set (j := 7) (v := .int .u16 N) (grown_set (j := 6) (v := .bool true) (World.grownBy.refl (W.alloc (.map #[] 0)) (some g)))))
  obtain ⟨q1, q2, q3⟩ := struct_keeps h1 hgr
  have hma : ma ∈ ws := by rw [h7]; simp [wset]
  have hnew : W.heap.size ≠ g := by have := hin.2; omega
  refine ⟨wset g ma gs (some W.heap.size), ⟨sv, ma, .map (some W.heap.size), gs, some W.heap.size, blk_put (blk_put (blk_put (blk_put h1 6 (.bool true) rfl) 7 (.int .u16 N) rfl) 8 (.int .i64 m) rfl) 9 (.map (some W.heap.size)) rfl, q1 _ _ _ h2, q2 _ _ h3, .inr ⟨_, rfl, rfl, ?_⟩, by simp, fun e => by injection e with e; have := hlt ma hma; omega, rfl, ?_⟩, ?_, ?_⟩
  · refine IM.same (IM.made W) (hgr.block _ (by simp) (fun e => by injection e with e; exact hnew e))
  · obtain ⟨o1, o2, o3, o4, o5, o6, o7, o8⟩ := h8
    exact ⟨o1, o2, o3, hN, hm, o6, o7, by simp⟩
  · intro k hk
    simp only [wset, List.mem_append, List.mem_cons, List.not_mem_nil, or_false, Option.mem_toList] at hk
    rcases hk with ((rfl | rfl) | hk) | hk
    · exact .inl hin.1
    · exact .inl hma
    · exact .inl (by rw [h7]; simp [wset, hk])
    · injection hk with hk; exact .inr (by omega)
  · exact (Keeps.of_below hb ws).then (Keeps.of_grown hgr hin.1)
/-- One part more. -/
theorem more_parts {W W' : World} {g : Nat} {s : LS} {ws : List Nat} {mb : Nat} {p : List (Int × List Int)} (h : LinkM W g s ws) (hk9 : W.cell? ⟨g, 9, none⟩ = some (.map (some mb))) (hgr : W.grownBy W' (some mb)) (him : IM .i64 (PartR W) W' mb p)
    (hp : ∀ q ∈ p, q.2.length ≤ 200 ∧ ∀ y ∈ q.2, 0 ≤ y ∧ y < 256) : LinkM W' g { s with parts := p } ws ∧ Keeps W W' ws := by
  obtain ⟨sv, ma, mp, gs, mb', h1, h2, h3, h4, h5, h6, h7, h8⟩ := h
  have hmp : mp = .map (some mb) := by
    have := blk_cell h1 9
    rw [hk9] at this
    injection this with this
    exact this.symm
  subst hmp
  rcases h4 with ⟨e, _⟩ | ⟨b, e1, e2, h4⟩
  · cases e
  · injection e2 with e2
    injection e2 with e2
    subst e2
    subst e1
    obtain ⟨es, clock, hmo, _⟩ := h4
    have far : ∀ (b : Nat) (cs : Array Value) (t : TypeId), W.heap[b]? = some (Obj.cells cs t (0, 0)) → W'.heap[b]? = W.heap[b]? := fun b cs t hb =>
      hgr.block b (Array.getElem?_eq_some_iff.1 hb).1 (fun e => by injection e with e; subst e; rw [hmo] at hb; cases hb)
    refine ⟨⟨sv, ma, _, gs, some mb, (far g _ _ h1).trans h1, h2.same (fun b e => ?_), h3.same (hgr.block ma h3.lt (fun e => h6 e.symm)), .inr ⟨mb, rfl, rfl, him.imp (PartR.same (fun b cs hb => far b cs _ hb))⟩, h5, h6, h7, ?_⟩, Keeps.of_grown hgr (by rw [h7]; simp [wset])⟩
    · rcases h2 with ⟨_, _, e2⟩ | ⟨b', off, cap, cs, e1, _, h3, _⟩
      · exact absurd (e.symm.trans e2) (by simp)
      · obtain rfl : b = b' := Option.some.inj (e.symm.trans e1)
        exact far b _ _ h3
    · obtain ⟨o1, o2, o3, o4, o5, o6, o7, o8⟩ := h8
      exact ⟨o1, o2, o3, o4, o5, o6, o7, hp⟩
end Go.Proofs.YtbdocgddidcfeaaDoor
