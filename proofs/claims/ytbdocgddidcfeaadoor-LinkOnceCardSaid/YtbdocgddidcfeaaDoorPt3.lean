/- Merged: PtV PtW PtX PtY PtZ -/
import Derived.Test.YtbdocgddidcfeaaDoorPt2
import Derived.Test.YtbdocgddidcfeaaDoorPt1
import Derived.Test.YtbdocgddidcfeaaDoorPtP
/- Owned: own rows are written over, one by one, and back. -/
namespace Go.Proofs.YtbdocgddidcfeaaDoor
open Go.RowKit Go.Proofs.YtbdocgddidcfeaaDoorW.PrintWords Go.Proofs.YtbdocgddidcfeaaDoorW.PrintLast Go.Proofs.YtbdocgddidcfeaaDoorW.PrintMore
set_option linter.unusedVariables false
set_option linter.unusedSimpArgs false

theorem infoSt : (Tryd.prog.info? 9).map (fun i => (i.zero, i.size, i.bytes)) = some (some (.string ByteArray.empty), 1, 16) := by kernel_rfl
def wasT (L : Nat → List Int) (n : Nat) : List ByteArray := (List.range n).map (fun k => strOfNums (L k))
theorem wasT_succ (L : Nat → List Int) (n : Nat) : wasT L (n + 1) = wasT L n ++ [strOfNums (L n)] := by simp [wasT, List.range_succ]
theorem wasT_len (L : Nat → List Int) (n : Nat) : (wasT L n).length = n := by simp [wasT]
theorem grown_set {W w : World} {g j : Nat} {v : Value} (h : W.grownBy w (some g)) : W.grownBy (w.setCell ⟨g, j, none⟩ v) (some g) := by
  have h2 := Below.setCell (B := g) (a := w) (w := w) ⟨rfl, rfl, rfl, Nat.le_refl _, fun _ _ => rfl⟩ (p := ⟨g, j, none⟩) (Nat.le_refl _) v
  refine ⟨h2.os.trans h.os, h2.tape.trans h.tape, h2.output.trans h.output, Nat.le_trans h.size h2.size, fun k hk hne => ?_⟩
  rw [Below.heap_setCell w ⟨g, j, none⟩ v k (fun e => hne (by rw [e]))]
  exact h.block k hk hne
theorem grown_drewN {W w : World} {row : Option Nat} (h : W.grownBy w row) (n : Nat) : W.grownBy (w.drewN n) row := ⟨h.os, h.tape, h.output, h.size, h.block⟩
theorem grown_back {W w : World} {g : Nat} (h : W.grownBy w (some g)) (hg : w.heap[g]? = W.heap[g]?) : Below W.heap.size W w :=
  ⟨h.os, h.tape, h.output, h.size, fun k hk => by
    by_cases e : k = g
    · rw [e]; exact hg
    · exact h.block k hk (fun e2 => e (by injection e2))⟩
theorem xor255 (x : Int) (h0 : 0 ≤ x) (h1 : x < 256) : bits .xor .u8 x 255 = 255 - x := by
  obtain ⟨n, rfl⟩ : ∃ n : Nat, x = (n : Int) := ⟨x.toNat, by omega⟩
  have h : ∀ n : Fin 256, bits .xor .u8 ((n.val : Nat) : Int) 255 = 255 - ((n.val : Nat) : Int) := by decide +kernel
  exact h ⟨n, by omega⟩
theorem C_str1 (w : World) (x : ByteArray) (ty : TypeId) : Kd.C Kd.string (w.alloc (.cells #[.string x] ty)) (some ⟨w.heap.size, 0, none⟩) 1 [x] := by
  refine ⟨rfl, by decide, fun _ => ⟨_, rfl, fun j p hj => ⟨[.string p], rfl, rfl, fun i u hu => ?_⟩⟩⟩
  have hj0 : j = 0 := by
    have := (List.getElem?_eq_some_iff.1 hj).1
    simpa using this
  subst hj0
  simp only [List.getElem?_cons_zero, Option.some.injEq] at hj
  subst hj
  cases i with
  | zero =>
    simp only [List.getElem?_cons_zero, Option.some.injEq] at hu
    subst hu
    rw [add_plain]
    unfold World.cell?
    rw [(MapKept.heap_alloc w _).1]
    rfl
  | succ i => simp at hu
/-- The cells of a row of which the first k are turned. -/
def Fl (M : List Int) (k : Int) (cs : Array Value) : Prop := cs.size = M.length ∧ ∀ j : Nat, j < M.length → cs[j]? = some (.int .u8 (if (j : Int) < k then 255 - rd M (j : Int) else rd M (j : Int)))
theorem Fl.start (M : List Int) : Fl M 0 (M.map (Value.int .u8)).toArray := ⟨by simp, fun j hj => by
  rw [if_neg (by omega)]
  simp [rd_get' hj, hj]⟩
theorem Fl.stop {M : List Int} {cs : Array Value} (h : Fl M 0 cs) : cs = (M.map (Value.int .u8)).toArray := by
  apply Array.ext
  · simp [h.1]
  · intro i h1 h2
    have hi : i < M.length := by rw [← h.1]; exact h1
    have := h.2 i hi
    rw [if_neg (by omega), Array.getElem?_eq_getElem h1, Option.some.injEq] at this
    rw [this]
    simp [rd_get' hi]
theorem Fl.step {M : List Int} {k : Int} {cs : Array Value} (h : Fl M k cs) (h0 : 0 ≤ k) (h1 : k < M.length) :
    Fl M (k + 1) (cs.setIfInBounds k.toNat (.int .u8 (255 - rd M k))) := by
  refine ⟨by simpa using h.1, fun j hj => ?_⟩
  by_cases e : j = k.toNat
  · subst e
    rw [Array.getElem?_setIfInBounds_self_of_lt (by rw [h.1]; exact hj), if_pos (by omega), Int.toNat_of_nonneg h0]
  · rw [Array.getElem?_setIfInBounds_ne (by omega), h.2 j hj]
    by_cases hk : (j : Int) < k
    · rw [if_pos hk, if_pos (by omega)]
    · rw [if_neg hk, if_neg (by omega)]
/-- On the way back the first k are as they were. -/
def Bk (M : List Int) (k : Int) (cs : Array Value) : Prop := cs.size = M.length ∧ ∀ j : Nat, j < M.length → cs[j]? = some (.int .u8 (if (j : Int) < k then rd M (j : Int) else 255 - rd M (j : Int)))
theorem Bk.start {M : List Int} {k : Int} {cs : Array Value} (h : Fl M k cs) (hk : (M.length : Int) ≤ k) : Bk M 0 cs := ⟨h.1, fun j hj => by
  rw [h.2 j hj, if_pos (by omega), if_neg (by omega)]⟩
theorem Bk.stop {M : List Int} {k : Int} {cs : Array Value} (h : Bk M k cs) (hk : (M.length : Int) ≤ k) : cs = (M.map (Value.int .u8)).toArray :=
  Fl.stop ⟨h.1, fun j hj => by rw [h.2 j hj, if_pos (by omega), if_neg (by omega)]⟩
theorem Bk.step {M : List Int} {k : Int} {cs : Array Value} (h : Bk M k cs) (h0 : 0 ≤ k) (h1 : k < M.length) :
    Bk M (k + 1) (cs.setIfInBounds k.toNat (.int .u8 (rd M k))) := by
  refine ⟨by simpa using h.1, fun j hj => ?_⟩
  by_cases e : j = k.toNat
  · subst e
    rw [Array.getElem?_setIfInBounds_self_of_lt (by rw [h.1]; exact hj), if_pos (by omega), Int.toNat_of_nonneg h0]
  · rw [Array.getElem?_setIfInBounds_ne (by omega), h.2 j hj]
    by_cases hk : (j : Int) < k
    · rw [if_pos hk, if_pos (by omega)]
    · rw [if_neg hk, if_neg (by omega)]

theorem cut_cap (A : Option Addr) (m c : Nat) (hc : m ≤ c) (W : World) : (Instr.slice 30 (.slice A m c) none (some (.int .i64 (c : Int))) none).run Tryd.prog W = .ok (.slice A c c) W := by
  obtain ⟨i0, hi0, _, hsz0, _⟩ := info_parts infoB
  have ht := Tryd.underlying30
  have hel : Tryd.prog.elem 30 = 5 := by simp [Program.elem, ht]
  have hu : Tryd.prog.underlying 30 = some (.slice (Tryd.prog.elem 30)) := by rw [hel]; exact ht
  have ha : (A.map fun x => x.add 0) = A := by cases A <;> simp [Addr.add]
  rw [run_slice_h W 30 A m c hu .i64 (c : Int) (by omega) (by omega), hel]
  simp [sizeOf, typeInfo, hi0, hsz0, sliced, Result.andThen, ha]
theorem RF.form {base : Nat} {w : World} {v : Value} {xs sp : List Int} (h : RF base w v xs sp) :
    ∃ A, v = .slice A xs.length (xs ++ sp).length ∧ ((A = none ∧ xs ++ sp = []) ∨ ∃ g, A = some ⟨g, 0, none⟩ ∧ w.heap[g]? = some (.cells ((xs ++ sp).map (Value.int .u8)).toArray 5 (0, 0))) ∧ (∀ x ∈ sp, 0 ≤ x ∧ x < 256) ∧ (xs ++ sp).length ≤ 9223372036854775807 := by
  rcases h with ⟨rfl, rfl, rfl⟩ | ⟨g, rfl, h2, h3, h4, h5⟩
  · exact ⟨none, rfl, .inl ⟨rfl, rfl⟩, by simp, by simp⟩
  · exact ⟨_, by rw [List.length_append], .inr ⟨g, rfl, h3⟩, h5, by rw [List.length_append]; simpa [maxLen] using h4⟩
theorem RF.move {base : Nat} {w w1 : World} {v : Value} {xs sp : List Int} (h : RF base w v xs sp) (hm : ∀ b, v.ownBlock = some b → b < w.heap.size → w1.heap[b]? = w.heap[b]?) : RF base w1 v xs sp := by
  rcases h with h | ⟨g, h1, h2, h3, h4⟩
  · exact .inl h
  · refine .inr ⟨g, h1, h2, ?_, h4⟩
    rw [hm g (by rw [h1]; rfl) (Array.getElem?_eq_some_iff.1 h3).1]
    exact h3
/-- The world while the row M at A is being turned. -/
def St (W1 : World) (A : Option Addr) (M : List Int) (F : Array Value → Prop) (wr : World) : Prop :=
  (A = none ∧ M = [] ∧ Below W1.heap.size W1 wr) ∨ ∃ g cs, A = some ⟨g, 0, none⟩ ∧ W1.grownBy wr (some g) ∧ wr.heap[g]? = some (.cells cs 5 (0, 0)) ∧ F cs
theorem St.far {W1 wr : World} {A : Option Addr} {M : List Int} {F : Array Value → Prop} (h : St W1 A M F wr) {b : Nat} (hb : b < W1.heap.size) (hne : ∀ o, A ≠ some ⟨b, o, none⟩) : wr.heap[b]? = W1.heap[b]? := by
  rcases h with ⟨_, _, h⟩ | ⟨g, cs, rfl, h, _⟩
  · exact h.block b hb
  · exact h.block b hb (fun e => by injection e with e; subst e; exact hne 0 rfl)
theorem St.drewN {W1 wr : World} {A : Option Addr} {M : List Int} {F : Array Value → Prop} (h : St W1 A M F wr) (k : Nat) : St W1 A M F (wr.drewN k) := by
  rcases h with ⟨h1, h2, h⟩ | ⟨g, cs, rfl, h, h3⟩
  · exact .inl ⟨h1, h2, pw_below_drewN h k⟩
  · exact .inr ⟨g, cs, rfl, grown_drewN h k, h3⟩
theorem St.imp {W1 wr : World} {A : Option Addr} {M : List Int} {F G : Array Value → Prop} (h : St W1 A M F wr) (hi : ∀ cs, F cs → G cs) : St W1 A M G wr := by
  rcases h with h | ⟨g, cs, h1, h2, h3, h4⟩
  · exact .inl h
  · exact .inr ⟨g, cs, h1, h2, h3, hi _ h4⟩
theorem St.back {W1 wr : World} {A : Option Addr} {M : List Int} {F : Array Value → Prop} (h : St W1 A M F wr) (hF : ∀ cs, F cs → cs = (M.map (Value.int .u8)).toArray)
    (hA : ∀ g, A = some ⟨g, 0, none⟩ → W1.heap[g]? = some (.cells (M.map (Value.int .u8)).toArray 5 (0, 0))) : Below W1.heap.size W1 wr := by
  rcases h with ⟨_, _, h⟩ | ⟨g, cs, h1, h2, h3, h4⟩
  · exact h
  · exact grown_back h2 (by rw [h3, hA g h1, hF cs h4])
theorem St.start {W1 wr : World} {A : Option Addr} {M : List Int} (hb : Below W1.heap.size W1 wr)
    (hA : (A = none ∧ M = []) ∨ ∃ g, A = some ⟨g, 0, none⟩ ∧ W1.heap[g]? = some (.cells (M.map (Value.int .u8)).toArray 5 (0, 0))) : St W1 A M (Fl M 0) wr := by
  rcases hA with ⟨h1, h2⟩ | ⟨g, h1, h2⟩
  · exact .inl ⟨h1, h2, hb⟩
  · exact .inr ⟨g, _, h1, grown_of_below hb _, by rw [hb.block g (Array.getElem?_eq_some_iff.1 h2).1]; exact h2, Fl.start M⟩
/-- One cell of the row, as it stands. -/
theorem St.at {W1 wr : World} {A : Option Addr} {M : List Int} {F : Array Value → Prop} (h : St W1 A M F wr) {k : Int} (h0 : 0 ≤ k) (h1 : k < M.length) :
    ∃ g cs, A = some ⟨g, 0, none⟩ ∧ W1.grownBy wr (some g) ∧ wr.heap[g]? = some (.cells cs 5 (0, 0)) ∧ F cs := by
  rcases h with ⟨_, rfl, _⟩ | h
  · simp at h1; omega
  · exact h
theorem rdOf_wasT (L : Nat → List Int) (n k : Nat) (hk : k < n) : rdOf ByteArray.empty (wasT L n) (k : Int) = strOfNums (L k) := by
  simp [rdOf, wasT, hk]

set_option maxHeartbeats 4000000 in
set_option maxRecDepth 100000 in
theorem Owned_calls (gl n : Nat) (V : Nat → Value) (L S : Nat → List Int) (w : World) (base : Nat) (h0 : 0 < n) (hn : n ≤ 1000)
    (hcells : ∀ k, k < n → w.cell? ⟨gl, k, none⟩ = some (V k)) (hown : ∀ k, k < n → RF base w (V k) (L k) (S k)) (hrange : ∀ k, k < n → ∀ x ∈ L k, 0 ≤ x ∧ x < 256)
    (hdist : ∀ i j, i < n → j < n → i ≠ j → (V i).ownBlock = none ∨ (V i).ownBlock ≠ (V j).ownBlock) (hgl : ∀ k, k < n → (V k).ownBlock ≠ some gl) :
    Calls Tryd.prog 34 #[.slice (some ⟨gl, 0, none⟩) n n] w fun e w' => e = .returned (.bool true) ∧ Below w.heap.size w w' := by
  have HC := Aside0.mk hcells; have HO := Aside0.mk hown; have HX := Aside0.mk hrange; have HD := Aside0.mk hdist; have HG := Aside0.mk hgl
  clear hcells hown hrange hdist hgl
  have HGL : Aside0 (gl < w.heap.size) := ⟨World.block_lt_of_cell? w _ (HC.out 0 h0)⟩
  go_enter Tryd.func34, Tryd.ntmps34
  go_wp2
  go_loopw [3, 4] (fun v vi wr => ∃ i : Int, vi = .int .i64 i ∧ 0 ≤ i ∧ i ≤ (n : Int) ∧ Aside0 (Kd.R Kd.string 9 wr w.heap.size (fun _ => True) v (wasT L i.toNat)) ∧ Aside0 (Below w.heap.size w wr)) (fun _ vi _ => ((n : Int) - intOf vi).toNat)
  case atStart => exact ⟨0, rfl, by omega, by omega, ⟨Kd.R_nil _ _ _ _ _⟩, ⟨Below.refl _ _⟩⟩
  case round =>
    obtain ⟨i, rfl, hi0, hi1, HS, HB⟩ := hrel
    by_cases hx : i < (n : Int)
    · have dx : decide (i < (n : Int)) = true := decide_eq_true hx
      have hk : i.toNat < n := by omega
      obtain ⟨A, c, hv⟩ := Kd.R_slice (HO.out i.toNat hk).R
      have hcell := (HB.out.cell (p := ⟨gl, i.toNat, none⟩) HGL.out).trans (HC.out i.toNat hk)
      have hCr := (Kd.R_reads' (hv ▸ (HO.out i.toNat hk).R)).2.2
      have hconv := Kd.C_string (P := Tryd.prog) Tryd.underlying30 Tryd.underlying5 Tryd.underlying9 (c := c) (Kd.C_below hCr HB.out)
      have hsu := wasT_succ L i.toNat
      have hle := wasT_len L i.toNat
      rw [hv] at hcell
      generalize strOfNums (L i.toNat) = x at hconv hsu
      generalize (L i.toNat).length = m at hcell hconv
      generalize wasT L i.toNat = ws at HS hsu hle
      rw [show i.toNat + 1 = (i + 1).toNat by omega] at hsu
      have HSU := Aside0.mk hsu; have HLE := Aside0.mk hle
      clear hsu hle hCr hv
      go_wp2_with (first | ((with_reducible refine gate_builtin (b := .append) (xs := #[.tmp 16, .tmp 22]) rfl ?_); at_builtin; refine Kd.R_append_rows Kd.string (w0 := w) w.heap.size rfl (.tmp 16) (.tmp 22) 74 9 (.string ByteArray.empty) 16 rfl Tryd.underlying74 infoSt rfl (by decide) (by omega) _ ws [x] _ _ _ (fun _ => True) (fun _ => False) rfl rfl ?aO ?aR (fun _ _ h => h) (fun _ h => h.elim) ?aF ?aB ?aS ?aL ?_; (case aR => exact (C_str1 wr x _)); (case aB => exact below_alloc HB.out _); (case aF => exact (fun _ _ => trivial)); (case aO => exact Kd.R_alloc HS.out _); (case aS => exact (below_size (below_alloc HB.out _))); (case aL => (have := HLE.out; omega)); intro v1 w1 ho hb hg hat; have HS1 := Aside0.mk ho; clear HB HS; have HB := Aside0.mk hb; clear ho hb hg hat))
      exact ⟨⟨i + 1, rfl, by omega, by omega, ⟨by rw [HSU.out]; exact HS1.out⟩, HB⟩, by simp only [intOf]; omega⟩
    · have dx : decide (i < (n : Int)) = false := decide_eq_false hx
      have hie : i.toNat = n := by omega
      rw [hie] at HS
      obtain ⟨gw, cw, hv, hgw, hgw2, _⟩ := Kd.R_form HS.out (by rw [wasT_len]; exact h0)
      rw [wasT_len] at hv
      subst hv
      have HW : Aside0 (∀ k : Nat, k < n → wr.cell? ⟨gw, k, none⟩ = some (.string (strOfNums (L k)))) := ⟨fun k hk => by
        have := (Kd.R_celln ByteArray.empty HS.out (k : Int) (by omega) (by omega)).1
        rw [Int.toNat_natCast, rdOf_wasT L n k hk] at this
        exact this⟩
      have HGW := Aside0.mk hgw; have HGW2 := Aside0.mk hgw2
      clear hgw hgw2 HS
      obtain ⟨W1, hW1⟩ : ∃ W, W = wr := ⟨_, rfl⟩
      subst hW1
      go_wp2
      go_loopw [5] (fun vi wr => ∃ i : Int, vi = .int .i64 i ∧ 0 ≤ i ∧ i ≤ (n : Int) ∧ Aside0 (Below W1.heap.size W1 wr)) (fun vi _ => ((n : Int) - intOf vi).toNat)
      case atStart => exact ⟨0, rfl, by omega, by omega, ⟨Below.refl _ _⟩⟩
      case round =>
        clear dx hx hi0 hi1 hie
        obtain ⟨i, rfl, hi0, hi1, HB2⟩ := hrel
        by_cases hx : i < (n : Int)
        · have dx : decide (i < (n : Int)) = true := decide_eq_true hx
          have hk : i.toNat < n := by omega
          obtain ⟨A, hvi, hA, hSr, hcm⟩ := RF.form (HO.out i.toNat hk)
          have HLT : Aside0 (w.heap.size ≤ W1.heap.size) := ⟨below_size HB.out⟩
          have hcell := (HB2.out.cell (p := ⟨gl, i.toNat, none⟩) (Nat.lt_of_lt_of_le HGL.out HLT.out)).trans ((HB.out.cell (p := ⟨gl, i.toNat, none⟩) HGL.out).trans (HC.out i.toNat hk))
          rw [hvi] at hcell
          have hMr : ∀ x ∈ L i.toNat ++ S i.toNat, 0 ≤ x ∧ x < 256 := fun x hx => (List.mem_append.1 hx).elim (HX.out i.toNat hk x) (hSr x)
          have hml : (L i.toNat).length ≤ (L i.toNat ++ S i.toNat).length := by simp
          have hA1 : (A = none ∧ L i.toNat ++ S i.toNat = []) ∨ ∃ g, A = some ⟨g, 0, none⟩ ∧ W1.heap[g]? = some (.cells ((L i.toNat ++ S i.toNat).map (Value.int .u8)).toArray 5 (0, 0)) := by
            rcases hA with hA | ⟨g, h1, h2⟩
            · exact .inl hA
            · exact .inr ⟨g, h1, by rw [HB.out.block g (Array.getElem?_eq_some_iff.1 h2).1]; exact h2⟩
          have HAlt : Aside0 (∀ b o, A = some ⟨b, o, none⟩ → b < w.heap.size) := ⟨fun b o e => by
            rcases hA with ⟨h1, _⟩ | ⟨g, h1, h2⟩
            · rw [h1] at e; cases e
            · rw [h1] at e; cases e; exact (Array.getElem?_eq_some_iff.1 h2).1⟩
          have HNgl : Aside0 (∀ o, A ≠ some ⟨gl, o, none⟩) := ⟨fun o e => HG.out i.toNat hk (by rw [hvi, e]; rfl)⟩
          have HNrow : Aside0 (∀ j, j < n → j ≠ i.toNat → ∀ b, (V j).ownBlock = some b → ∀ o, A ≠ some ⟨b, o, none⟩) := ⟨fun j hj hne b hb o e => by
            have hb2 : (V i.toNat).ownBlock = some b := by rw [hvi, e]; rfl
            rcases HD.out j i.toNat hj hk hne with h | h
            · rw [h] at hb; cases hb
            · exact h (hb.trans hb2.symm)⟩
          clear hvi hSr hA
          generalize L i.toNat ++ S i.toNat = M at hcell hMr hml hA1 hcm
          generalize (L i.toNat).length = m at hcell hml
          obtain ⟨c, hc⟩ : ∃ c, c = M.length := ⟨_, rfl⟩
          rw [← hc] at hcell hml hcm
          have hcut := cut_cap A m c hml
          have HM := Aside0.mk hMr; have HA1 := Aside0.mk hA1; have HCL := Aside0.mk hc
          clear hMr hA1 hc
          go_wp2
          go_quiet (fail)
          go_wp2
          go_loopw [7] (fun vk wr => ∃ k : Int, vk = .int .i64 k ∧ 0 ≤ k ∧ k ≤ (c : Int) ∧ Aside0 (St W1 A M (Fl M k) wr)) (fun vk _ => ((c : Int) - intOf vk).toNat)
          case atStart => exact ⟨0, rfl, by omega, by omega, ⟨(St.start HB2.out HA1.out).drewN _⟩⟩
          case round =>
            obtain ⟨k, rfl, hk0, hk1, HS⟩ := hrel
            by_cases hy : k < (c : Int)
            · have dy : decide (k < (c : Int)) = true := decide_eq_true hy
              obtain ⟨g, cs, rfl, hgr, hcs, hF⟩ := HS.out.at hk0 (by have := HCL.out; omega)
              have hcl : wr.cell? ⟨g, k.toNat, none⟩ = some (.int .u8 (rd M k)) := by
                rw [blk_cell hcs, hF.2 _ (by have := HCL.out; omega), if_neg (by omega), Int.toNat_of_nonneg hk0]
              have hfr := blk_frozen hcs k.toNat
              obtain ⟨x, hxx⟩ : ∃ x, x = rd M k := ⟨_, rfl⟩
              have hrr := rd_mem HM.out hk0 (by have := HCL.out; omega)
              rw [← hxx] at hcl hrr
              have hxo := xor255 x hrr.1 hrr.2
              have HF := Aside0.mk hF; have HGR := Aside0.mk hgr; have HCS := Aside0.mk hcs; have HXX := Aside0.mk hxx; have HXO := Aside0.mk hxo
              clear hF hgr hcs hxx hxo hrr HS
              go_wp2
              refine ⟨⟨k + 1, rfl, by omega, by omega, ⟨.inr ⟨g, _, rfl, grown_set HGR.out, blk_put HCS.out k.toNat _ rfl, ?_⟩⟩⟩, by simp only [intOf]; omega⟩
              rw [HXO.out, HXX.out]
              exact HF.out.step hk0 (by have := HCL.out; omega)
            · have dy : decide (k < (c : Int)) = false := decide_eq_false hy
              have hkc : k = (c : Int) := by omega
              subst hkc
              go_wp2
              go_loopw [8] (fun vj wr => ∃ j : Int, vj = .int .i64 j ∧ 0 ≤ j ∧ j ≤ (n : Int) ∧ Aside0 (St W1 A M (Fl M (c : Int)) wr)) (fun vj _ => ((n : Int) - intOf vj).toNat)
              case atStart => exact ⟨0, rfl, by omega, by omega, HS⟩
              case round =>
                clear HS
                obtain ⟨j, rfl, hj0, hj1, HS⟩ := hrel
                by_cases hz : j < (n : Int)
                · have dz : decide (j < (n : Int)) = true := decide_eq_true hz
                  by_cases hji : j = i
                  · subst hji
                    have e1 : decide (j = j) = true := decide_eq_true rfl
                    have e2 : decide (j ≠ j) = false := decide_eq_false (by simp)
                    have e3 : (j != j) = false := by simp
                    have e4 : (j == j) = true := by simp
                    go_wp2
                    go_quiet (fail)
                    go_wp2
                    exact ⟨⟨j + 1, rfl, by omega, by omega, ⟨HS.out.drewN _⟩⟩, by simp only [intOf]; omega⟩
                  · have e1 : decide (j = i) = false := decide_eq_false hji
                    have e2 : decide (j ≠ i) = true := decide_eq_true hji
                    have e3 : (j != i) = true := by simp [hji]
                    have e4 : (j == i) = false := by simp [hji]
                    have hjk : j.toNat < n := by omega
                    obtain ⟨B, b, hvj⟩ := Kd.R_slice (HO.out j.toNat hjk).R
                    have hcj : wr.cell? ⟨gl, j.toNat, none⟩ = some (V j.toNat) := by
                      have h1 := HS.out.far (b := gl) (Nat.lt_of_lt_of_le HGL.out HLT.out) HNgl.out
                      rw [World.cell?_of_block (a := ⟨gl, j.toNat, none⟩) h1]
                      exact (HB.out.cell (p := ⟨gl, j.toNat, none⟩) HGL.out).trans (HC.out j.toNat hjk)
                    have hcw : wr.cell? ⟨gw, j.toNat, none⟩ = some (.string (strOfNums (L j.toNat))) := by
                      have h1 := HS.out.far (b := gw) HGW2.out (fun o e => by have := HAlt.out _ _ e; have := HGW.out; omega)
                      rw [World.cell?_of_block (a := ⟨gw, j.toNat, none⟩) h1]
                      exact HW.out j.toNat hjk
                    have hrf := ((HO.out j.toNat hjk).below HB.out).move (w1 := wr) (fun b hb hlt => HS.out.far hlt (HNrow.out j.toNat hjk (by omega) b hb))
                    have hCr := (Kd.R_reads' (hvj ▸ hrf.R)).2.2
                    have hconv := fun q => Kd.C_string (P := Tryd.prog) Tryd.underlying30 Tryd.underlying5 Tryd.underlying9 (c := b) (Kd.C_drewN hCr q)
                    rw [hvj] at hcj
                    clear hrf hCr hvj
                    generalize strOfNums (L j.toNat) = x at hcw hconv
                    generalize (L j.toNat).length = mj at hcj hconv
                    have e6 : decide (x = x) = true := by simp
                    go_wp2
                    go_quiet (fail)
                    go_wp2
                    exact ⟨⟨j + 1, rfl, by omega, by omega, ⟨HS.out.drewN _⟩⟩, by simp only [intOf]; omega⟩
                · have dz : decide (j < (n : Int)) = false := decide_eq_false hz
                  go_wp2
                  go_loopw [9] (fun vk wr => ∃ k : Int, vk = .int .i64 k ∧ 0 ≤ k ∧ k ≤ (c : Int) ∧ Aside0 (St W1 A M (Bk M k) wr)) (fun vk _ => ((c : Int) - intOf vk).toNat)
                  case atStart => exact ⟨0, rfl, by omega, by omega, ⟨HS.out.imp (fun cs h => Bk.start h (by have := HCL.out; omega))⟩⟩
                  case round =>
                    clear HS dy hy hk0 hk1
                    obtain ⟨k, rfl, hk0, hk1, HS⟩ := hrel
                    by_cases hy : k < (c : Int)
                    · have dy : decide (k < (c : Int)) = true := decide_eq_true hy
                      obtain ⟨g, cs, rfl, hgr, hcs, hF⟩ := HS.out.at hk0 (by have := HCL.out; omega)
                      have hcl : wr.cell? ⟨g, k.toNat, none⟩ = some (.int .u8 (255 - rd M k)) := by
                        rw [blk_cell hcs, hF.2 _ (by have := HCL.out; omega), if_neg (by omega), Int.toNat_of_nonneg hk0]
                      have hfr := blk_frozen hcs k.toNat
                      have hrr := rd_mem HM.out hk0 (by have := HCL.out; omega)
                      have hxo := xor255 (255 - rd M k) (by omega) (by omega)
                      rw [show 255 - (255 - rd M k) = rd M k by omega] at hxo
                      obtain ⟨y, hyy⟩ : ∃ y, y = 255 - rd M k := ⟨_, rfl⟩
                      rw [← hyy] at hcl hxo
                      have HF := Aside0.mk hF; have HGR := Aside0.mk hgr; have HCS := Aside0.mk hcs; have HXO := Aside0.mk hxo
                      clear hF hgr hcs hyy hxo hrr HS
                      go_wp2
                      refine ⟨⟨k + 1, rfl, by omega, by omega, ⟨.inr ⟨g, _, rfl, grown_set HGR.out, blk_put HCS.out k.toNat _ rfl, ?_⟩⟩⟩, by simp only [intOf]; omega⟩
                      rw [HXO.out]
                      exact HF.out.step hk0 (by have := HCL.out; omega)
                    · have dy : decide (k < (c : Int)) = false := decide_eq_false hy
                      go_wp2
                      exact ⟨⟨i + 1, rfl, by omega, by omega, ⟨HS.out.back (fun cs h => h.stop (by have := HCL.out; omega)) (fun g e => by
                        rcases HA1.out with ⟨h1, _⟩ | ⟨g2, h1, h2⟩
                        · rw [h1] at e; cases e
                        · rw [h1] at e; cases e; exact h2)⟩⟩, by simp only [intOf]; omega⟩
        · have dx : decide (i < (n : Int)) = false := decide_eq_false hx
          go_wp2
          go_ret
          exact ⟨rfl, below_then HB.out (below_size HB.out) HB2.out⟩
end Go.Proofs.YtbdocgddidcfeaaDoor

/- The document's sum is the program's; its frame. -/
namespace Go.Proofs.YtbdocgddidcfeaaDoor
open Go.RowKit Go.Proofs.YtbdocgddidcfeaaDoorW.PrintWords Go.Proofs.YtbdocgddidcfeaaDoorW.PrintLast Go.Proofs.YtbdocgddidcfeaaDoorW.PrintMore
set_option linter.unusedVariables false
set_option linter.unusedSimpArgs false

def bN (s : Nat) : Nat := if s % 2 = 1 then s / 2 ^^^ 3988292384 else s / 2
theorem bN_high (h u : Nat) : bN (2 * h ^^^ u) = h ^^^ bN u := by
  have h1 : (2 * h ^^^ u) / 2 = h ^^^ u / 2 := by
    have := Nat.xor_div_two_pow (a := 2 * h) (b := u) (n := 1)
    rw [show (2 : Nat) ^ 1 = 2 by rfl, show 2 * h / 2 = h by omega] at this
    exact this
  have h2 : (2 * h ^^^ u) % 2 = u % 2 := by
    have := Nat.xor_mod_two_pow (a := 2 * h) (b := u) (n := 1)
    rw [show (2 : Nat) ^ 1 = 2 by rfl, show 2 * h % 2 = 0 by omega, Nat.zero_xor] at this
    exact this
  unfold bN
  rw [h1, h2]
  split
  · rw [Nat.xor_assoc]
  · rfl
theorem bN_four (s : Nat) : bN (bN (bN (bN s))) = nstepN s := by
  have hs := split16 s
  have hl : ∀ u : Fin 16, bN (bN (bN (bN u.val))) = nibN u.val := by decide +kernel
  have h1 := hl ⟨s % 16, by omega⟩
  have e : bN (bN (bN (bN s))) = s / 16 ^^^ bN (bN (bN (bN (s % 16)))) := by
    conv => lhs; rw [← hs]
    rw [show 16 * (s / 16) = 2 * (8 * (s / 16)) by omega, bN_high, show 8 * (s / 16) = 2 * (4 * (s / 16)) by omega, bN_high, show 4 * (s / 16) = 2 * (2 * (s / 16)) by omega, bN_high, bN_high]
  rw [e]
  unfold nstepN
  rw [← h1]
theorem bN_lt (s : Nat) (h : s < 4294967296) : bN s < 4294967296 := by
  unfold bN
  split
  · exact Nat.xor_lt_two_pow (n := 32) (by omega) (by omega)
  · omega
def bstep (s : Int) : Int := if s % 2 = 1 then bits .xor .u32 (s / 2) 3988292384 else s / 2
theorem bstep_cast (s : Nat) (h : s < 4294967296) : bstep (s : Int) = ((bN s : Nat) : Int) := by
  unfold bstep bN
  by_cases hs : s % 2 = 1
  · rw [if_pos hs, if_pos (by omega), show (s : Int) / 2 = ((s / 2 : Nat) : Int) by omega, show (3988292384 : Int) = ((3988292384 : Nat) : Int) by rfl, u32_xor_nat _ _ (by omega) (by omega)]
  · rw [if_neg hs, if_neg (by omega)]
    omega
def bIt : Nat → Int → Int
  | 0, s => s
  | k + 1, s => bstep (bIt k s)
theorem bIt_range (s : Int) (h0 : 0 ≤ s) (h1 : s < 4294967296) : ∀ k, 0 ≤ bIt k s ∧ bIt k s < 4294967296
  | 0 => ⟨h0, h1⟩
  | k + 1 => by
    have ih := bIt_range s h0 h1 k
    show 0 ≤ bstep (bIt k s) ∧ bstep (bIt k s) < 4294967296
    unfold bstep
    split
    · exact u32_range _ _
    · omega
theorem bIt_eight (s : Int) (h0 : 0 ≤ s) (h1 : s < 4294967296) : bIt 8 s = nstep (nstep s) := by
  obtain ⟨n, rfl⟩ : ∃ n : Nat, s = (n : Int) := ⟨s.toNat, by omega⟩
  have hn : n < 4294967296 := by omega
  have b1 := bN_lt n hn; have b2 := bN_lt _ b1; have b3 := bN_lt _ b2; have b4 := bN_lt _ b3; have b5 := bN_lt _ b4; have b6 := bN_lt _ b5; have b7 := bN_lt _ b6
  simp only [bIt]
  rw [bstep_cast n hn, bstep_cast _ b1, bstep_cast _ b2, bstep_cast _ b3, bstep_cast _ b4, bstep_cast _ b5, bstep_cast _ b6, bstep_cast _ b7, bN_four, bN_four, nstep_cast n hn, nstep_cast _ (nstepN_lt n hn)]
theorem u32_and1 (x : Int) (h0 : 0 ≤ x) (h1 : x < 4294967296) : bits .and .u32 x 1 = x % 2 := bits_mask .u32 32 (by decide) wraps_u32 1 (by decide) x h0 h1

set_option maxHeartbeats 4000000 in
set_option maxRecDepth 100000 in
theorem rSum_calls (A0 : Option Addr) (c0 : Nat) (l0 : List Int) (w : World)
    (hr0 : Kd.C (Kd.int .u8) w A0 l0.length l0) (hl : l0.length ≤ 140737488355328) :
    Calls Tryd.prog 45 #[.slice A0 l0.length c0] w
      fun e w' => e = .returned (.int .i64 (sumF l0)) ∧ w' = w := by
  have HR := Aside0.mk hr0
  clear hr0
  go_enter Tryd.func45, Tryd.ntmps45
  go_wp2
  go_loop [3, 4] (fun vs vi => ∃ (s i : Int), vs = .int .u32 s ∧ vi = .int .i64 i ∧ 0 ≤ i ∧ i ≤ l0.length ∧ 0 ≤ s ∧ s < 4294967296 ∧ Aside0 (s = (l0.take i.toNat).foldl sstep 4294967295)) (fun _ vi => (l0.length - intOf vi).toNat)
  case atStart => exact ⟨_, _, rfl, rfl, by omega, by omega, by omega, by omega, ⟨rfl⟩⟩
  case round =>
    obtain ⟨s, i, rfl, rfl, hi0, hi1, hs0, hs1, HS⟩ := hrel
    by_cases hx : i < l0.length
    · have dx : decide (i < (l0.length : Int)) = true := decide_eq_true hx
      obtain ⟨ad, e, hcell⟩ := Kd.at_int HR.out i hi0 hx
      cases e
      obtain ⟨c, hc⟩ : ∃ c, c = rd l0 i := ⟨_, rfl⟩
      rw [← hc] at hcell
      have HC := Aside0.mk hc; clear hc
      have hr := u32_range s (c % 4294967296)
      obtain ⟨t, ht⟩ : ∃ t, t = bits .xor .u32 s (c % 4294967296) := ⟨_, rfl⟩
      rw [← ht] at hr
      have HTT := Aside0.mk ht
      go_wp2
      rw [← ht]
      clear ht
      go_loop [3, 5] (fun vs vk => ∃ (s k : Int), vs = .int .u32 s ∧ vk = .int .i64 k ∧ 0 ≤ k ∧ k ≤ 8 ∧ Aside0 (s = bIt k.toNat t)) (fun _ vk => (8 - intOf vk).toNat)
      case atStart => exact ⟨_, _, rfl, rfl, by omega, by omega, ⟨rfl⟩⟩
      case round =>
        obtain ⟨u, k, rfl, rfl, hk0, hk1, HU⟩ := hrel
        by_cases hy : k < 8
        · have dy : decide (k < 8) = true := decide_eq_true hy
          have hur := bIt_range t hr.1 hr.2 k.toNat
          rw [← HU.out] at hur
          have h1 := u32_and1 u hur.1 hur.2
          have hst : bIt (k + 1).toNat t = bstep u := by
            rw [show (k + 1).toNat = k.toNat + 1 by omega, HU.out]; rfl
          have HST := Aside0.mk hst; clear hst
          by_cases ho : u % 2 = 1
          · have e1 : decide (bits .and .u32 u 1 = 1) = true := by rw [h1]; exact decide_eq_true ho
            have e2 : (bits .and .u32 u 1 == 1) = true := by rw [h1, ho]; rfl
            have e3 : bits .and .u32 u 1 = 1 := by rw [h1]; exact ho
            go_wp2
            refine ⟨⟨_, k + 1, rfl, rfl, by omega, by omega, ⟨?_⟩⟩, by simp only [intOf]; omega⟩
            rw [HST.out]
            unfold bstep
            rw [if_pos ho]
          · have e1 : decide (bits .and .u32 u 1 = 1) = false := by rw [h1]; exact decide_eq_false ho
            have e2 : (bits .and .u32 u 1 == 1) = false := by rw [h1]; simpa using ho
            have e3 : ¬ bits .and .u32 u 1 = 1 := by rw [h1]; exact ho
            go_wp2
            refine ⟨⟨_, k + 1, rfl, rfl, by omega, by omega, ⟨?_⟩⟩, by simp only [intOf]; omega⟩
            rw [HST.out]
            unfold bstep
            rw [if_neg ho]
        · have dy : decide (k < 8) = false := decide_eq_false hy
          have hu8 : u = sstep s c := by
            rw [HU.out, show k.toNat = 8 by omega, bIt_eight t hr.1 hr.2, HTT.out]
            rfl
          have hrg := sstep_range s c
          rw [← hu8] at hrg
          have HU8 := Aside0.mk hu8
          clear hu8
          go_wp2
          refine ⟨⟨_, _, rfl, rfl, by omega, by omega, hrg.1, hrg.2, ⟨?_⟩⟩, by simp only [intOf]; omega⟩
          rw [fold_take l0 i hi0 hx, ← HS.out, ← HC.out, HU8.out]
    · have dx : decide (i < (l0.length : Int)) = false := decide_eq_false hx
      go_wp2
      go_ret
      have hsf : sumF l0 = 4294967295 - s := by
        rw [HS.out, List.take_of_length_le (by omega)]; rfl
      rw [hsf]
      rw [← max_xor s hs0 hs1]
      have hx2 := u32_range IntKind.u32.max s
      have hx3 : wrap64 (bits .xor .u32 IntKind.u32.max s) = bits .xor .u32 IntKind.u32.max s := by simp only [wrap64]; omega
      rw [hx3]
      exact ⟨rfl, rfl⟩

set_option maxHeartbeats 4000000 in
set_option maxRecDepth 100000 in
/-- Bytes in other memory, and others behind them. -/
theorem copied_callsF (A0 A1 : Option Addr) (c0 c1 n0 n1 : Nat) (l0 l1 : List Int) (w : World) (hn0 : l0.length = n0) (hn1 : l1.length = n1)
    (hr0 : Kd.C (Kd.int .u8) w A0 n0 l0) (hr1 : Kd.C (Kd.int .u8) w A1 n1 l1) (hl : n0 + n1 ≤ 140737488355328) :
    Calls Tryd.prog 46 #[.slice A0 n0 c0, .slice A1 n1 c1] w
      fun e w' => ∃ v, e = .returned v ∧ RS w.heap.size w' v (l0 ++ l1) ∧ Below w.heap.size w w' := by
  have HR0 := Aside0.mk hr0; have HR1 := Aside0.mk hr1; have HN0 := Aside0.mk hn0; have HN1 := Aside0.mk hn1
  clear hr0 hr1 hn0 hn1
  have HB := Aside0.mk (below_alloc (Below.refl w.heap.size w) (.cells #[] 5))
  have HO0 : Aside0 (RF w.heap.size (w.alloc (.cells #[] 5)) (.slice (some ⟨w.heap.size, 0, none⟩) 0 0) [] []) := ⟨.inr ⟨w.heap.size, rfl, Nat.le_refl _, (MapKept.heap_alloc w _).1, by simp, by simp⟩⟩
  go_enter Tryd.func46, Tryd.ntmps46
  go_wp2_with (first | ((with_reducible refine gate_builtin (b := .append) (xs := #[.tmp 5, .tmp 6]) rfl ?_); at_builtin; refine wp_rf_rows (w0 := w) w.heap.size rfl (.tmp 5) (.tmp 6) rfl _ [] [] l0 _ _ _ rfl rfl HO0.out (Kd.C_below HR0.out HB.out) HB.out (below_size HB.out) (by simp; omega) ?_; intro v1 w1 sp1 ho hb hg; have HO1 := Aside0.mk ho; clear HB; have HB := Aside0.mk hb; clear ho hb hg) | ((with_reducible refine gate_builtin (b := .append) (xs := #[.tmp 7, .tmp 8]) rfl ?_); at_builtin; refine wp_rf_rows (w0 := w) w.heap.size rfl (.tmp 7) (.tmp 8) rfl _ l0 sp1 l1 _ _ _ rfl rfl HO1.out (Kd.C_below HR1.out HB.out) HB.out (below_size HB.out) (by have := HN0.out; omega) ?_; intro v2 w2 sp2 ho hb hg; have HO2 := Aside0.mk ho; clear HB; have HB := Aside0.mk hb; clear ho hb hg))
  go_ret
  exact ⟨_, rfl, ⟨sp2, HO2.out⟩, HB.out⟩
end Go.Proofs.YtbdocgddidcfeaaDoor

/- The document's numbers, texts and frames are the program's. -/
namespace Go.Proofs.YtbdocgddidcfeaaDoor
open Go.RowKit Go.Proofs.YtbdocgddidcfeaaDoorW.PrintWords Go.Proofs.YtbdocgddidcfeaaDoorW.PrintLast Go.Proofs.YtbdocgddidcfeaaDoorW.PrintMore
set_option linter.unusedVariables false
set_option linter.unusedSimpArgs false

set_option maxHeartbeats 4000000 in
set_option maxRecDepth 100000 in
theorem rFrame_callsF (A0 : Option Addr) (c0 m : Nat) (l0 : List Int) (w : World) (hm : l0.length = m)
    (hr0 : Kd.C (Kd.int .u8) w A0 m l0) (hl : m ≤ 140737488355318) :
    Calls Tryd.prog 40 #[.slice A0 m c0] w
      fun e w' => ∃ v, e = .returned v ∧ RS w.heap.size w' v (frameF l0) ∧ Below w.heap.size w w' := by
  have HM := Aside0.mk hm
  have hc := rSum_calls A0 c0 l0 w (by rw [hm]; exact hr0) (by omega)
  rw [hm] at hc
  have HR := Aside0.mk hr0
  have hs := sumF_range l0
  have hff : frameF l0 = l0 ++ [sumF l0 % 256, sumF l0 / 256 % 256, sumF l0 / 65536 % 256, sumF l0 / 16777216] := rfl
  rw [hff]
  clear hr0 hff hm
  generalize sumF l0 = s at hs hc ⊢
  have t1 : Int.tdiv s 256 = s / 256 := Int.tdiv_eq_ediv_of_nonneg hs.1
  have t2 : Int.tdiv s 65536 = s / 65536 := Int.tdiv_eq_ediv_of_nonneg hs.1
  have t3 : Int.tdiv s 16777216 = s / 16777216 := Int.tdiv_eq_ediv_of_nonneg hs.1
  have t4 : s / 16777216 % 256 = s / 16777216 := by omega
  go_enter Tryd.func40, Tryd.ntmps40
  go_wp2_with fail
  ((with_reducible refine hc.mono ?_); rintro e_ W1 ⟨rfl, rfl⟩)
  clear hc
  go_wp2_with fail
  have hC : Kd.C (Kd.int .u8) (W1.alloc (Obj.cells #[.int .u8 (s % 256), .int .u8 (s / 256 % 256), .int .u8 (s / 65536 % 256), .int .u8 (s / 16777216)] 5)) (some ⟨W1.heap.size, 0, none⟩) 4 [s % 256, s / 256 % 256, s / 65536 % 256, s / 16777216] := C_pre W1 [s % 256, s / 256 % 256, s / 65536 % 256, s / 16777216] [] 5 (by simp) _ rfl
  ((with_reducible refine (copied_callsF A0 (some ⟨W1.heap.size, 0, none⟩) c0 4 m 4 l0 [s % 256, s / 256 % 256, s / 65536 % 256, s / 16777216] _ HM.out rfl (Kd.C_alloc HR.out _) hC (by omega)).mono ?_); rintro e_ W2 ⟨v0, rfl, ho_, hb_⟩)
  have hb1 := below_alloc (Below.refl W1.heap.size W1) (Obj.cells #[.int .u8 (s % 256), .int .u8 (s / 256 % 256), .int .u8 (s / 65536 % 256), .int .u8 (s / 16777216)] 5)
  have HO := Aside0.mk (ho_.lower (below_size hb1)); have HB := Aside0.mk (below_step hb1 hb_)
  clear hC hb1 ho_ hb_
  go_wp2
  go_ret
  exact ⟨_, rfl, HO.out, HB.out⟩

/-- What a frame opens to. -/
def opF (l : List Int) : List Int × Bool := if l.length < 4 then ([], false) else if frameF (l.take (l.length - 4)) = l then (l.take (l.length - 4), true) else ([], false)
theorem equal_l0 (x y : List Int) (hl : x.length = y.length) (hm : x.length ≤ 9223372036854775806) : ∀ (k i : Nat), i ≤ x.length → x.length < k + i → PLinkPlays.slices_Equal_byte_byte.l0 k x y (x.length : Int) (i : Int) = some (decide (x.drop i = y.drop i))
  | 0, i, h, hk => by omega
  | k + 1, i, h, hk => by
    unfold PLinkPlays.slices_Equal_byte_byte.l0
    by_cases hi : i < x.length
    · have hi2 : i < y.length := by omega
      rw [if_pos (by omega), if_pos (by omega), if_pos (by omega), if_pos (by omega), rd_get' hi, rd_get' hi2, show x.drop i = x[i] :: x.drop (i + 1) from List.drop_eq_getElem_cons hi, show y.drop i = y[i] :: y.drop (i + 1) from List.drop_eq_getElem_cons hi2]
      by_cases he : x[i] = y[i]
      · rw [if_pos he, show wrap64 ((i : Int) + 1) = ((i + 1 : Nat) : Int) by simp only [wrap64]; omega, equal_l0 x y hl hm k (i + 1) (by omega) (by omega)]
        refine congrArg some (decide_eq_decide.2 ⟨fun h => by rw [he, h], fun h => by injection h⟩)
      · rw [if_neg he]
        refine congrArg some (decide_eq_false fun h => he ?_).symm
        injection h
    · rw [if_neg (by omega), List.drop_of_length_le (by omega), List.drop_of_length_le (by omega)]
      simp
theorem equal_law (x y : List Int) (hm : x.length ≤ 9223372036854775806) : PLinkPlays.slices_Equal_byte_byte.f (x.length + 1) x y = some (decide (x = y)) := by
  unfold PLinkPlays.slices_Equal_byte_byte.f
  by_cases hl : x.length = y.length
  · rw [if_pos (by omega)]
    have := equal_l0 x y hl hm (x.length + 1) 0 (by omega) (by omega)
    simpa using this
  · rw [if_neg (by omega)]
    have : x ≠ y := fun e => hl (by rw [e])
    simp [this]
theorem Equal_calls (A0 A1 : Option Addr) (c0 c1 n0 n1 : Nat) (x y : List Int) (w : World) (hn0 : x.length = n0) (hn1 : y.length = n1)
    (hr0 : Kd.C (Kd.int .u8) w A0 n0 x) (hc0 : n0 ≤ c0) (hr1 : Kd.C (Kd.int .u8) w A1 n1 y) (hc1 : n1 ≤ c1) (hm : n0 ≤ 9223372036854775806) :
    Calls Tryd.prog 38 #[.slice A0 n0 c0, .slice A1 n1 c1] w fun e w' => e = .returned (.bool (decide (x = y))) ∧ Drawn0 w w' := by
  subst hn0 hn1
  exact PLinkPlays.slices_Equal_byte_byte.calls (x.length + 1) A0 c0 x A1 c1 y _ w hr0 hc0 hr1 hc1 (equal_law x y hm)
theorem cutTo (A : Option Addr) (m c j : Nat) (hc : j ≤ c) (W : World) : (Instr.slice 30 (.slice A m c) none (some (.int .i64 (j : Int))) none).run Tryd.prog W = .ok (.slice A j c) W := by
  obtain ⟨i0, hi0, _, hsz0, _⟩ := info_parts infoB
  have ht := Tryd.underlying30
  have hel : Tryd.prog.elem 30 = 5 := by simp [Program.elem, ht]
  have hu : Tryd.prog.underlying 30 = some (.slice (Tryd.prog.elem 30)) := by rw [hel]; exact ht
  have ha : (A.map fun x => x.add 0) = A := by cases A <;> simp [Addr.add]
  rw [run_slice_h W 30 A m c hu .i64 (j : Int) (by omega) (by omega), hel]
  simp [sizeOf, typeInfo, hi0, hsz0, sliced, Result.andThen, ha]
theorem C_first {w : World} {A : Option Addr} {n : Nat} {xs : List Int} (h : Kd.C (Kd.int .u8) w A n xs) (j : Nat) (hj : j ≤ n) : Kd.C (Kd.int .u8) w A j (xs.take j) := by
  have hn : xs.length = n := h.1
  refine ⟨by rw [List.length_take]; omega, Nat.le_trans hj h.2.1, fun h0 => ?_⟩
  obtain ⟨ad, h1, h2⟩ := h.2.2 (by omega)
  exact ⟨ad, h1, fun i p hi => h2 i p (by
    rw [List.getElem?_take] at hi
    split at hi
    · exact hi
    · cases hi)⟩
end Go.Proofs.YtbdocgddidcfeaaDoor

/- Open, the program's and the document's. -/
namespace Go.Proofs.YtbdocgddidcfeaaDoor
open Go.RowKit Go.Proofs.YtbdocgddidcfeaaDoorW.PrintWords Go.Proofs.YtbdocgddidcfeaaDoorW.PrintLast Go.Proofs.YtbdocgddidcfeaaDoorW.PrintMore
set_option linter.unusedVariables false
set_option linter.unusedSimpArgs false

theorem frameF_len (l : List Int) : (frameF l).length = l.length + 4 := by simp [frameF]

set_option maxHeartbeats 4000000 in
set_option maxRecDepth 100000 in
theorem Open_callsF (A0 : Option Addr) (c0 : Nat) (l0 : List Int) (w : World)
    (hr0 : Kd.C (Kd.int .u8) w A0 l0.length l0) (hc0 : l0.length ≤ c0) (hl : l0.length ≤ 140737488355318) (hT : Tab w) :
    Calls Tryd.prog 26 #[.slice A0 l0.length c0] w
      fun e w' => ∃ v, e = .returned (.tuple #[v, .bool (opF l0).2]) ∧ RS w.heap.size w' v (opF l0).1 ∧ Below w.heap.size w w' := by
  have HR := Aside0.mk hr0; have HT := Aside0.mk hT
  clear hr0 hT
  by_cases hs : l0.length < 4
  · have hf : opF l0 = ([], false) := if_pos hs
    rw [hf]
    clear hf
    obtain ⟨m, hm⟩ : ∃ m, m = l0.length := ⟨_, rfl⟩
    rw [← hm] at hl hs hc0 ⊢
    clear hm
    have e1 : decide ((m : Int) - 4 < 0) = true := decide_eq_true (by omega)
    go_enter Tryd.func26, Tryd.ntmps26
    go_wp2
    go_ret2
    exact ⟨_, rfl, RS.nil _ _, Below.refl _ _⟩
  · have hf : opF l0 = if frameF (l0.take (l0.length - 4)) = l0 then (l0.take (l0.length - 4), true) else ([], false) := if_neg hs
    obtain ⟨n, hn⟩ : ∃ n, l0.length = n + 4 := ⟨l0.length - 4, by omega⟩
    have hCR := HR.out
    rw [hn] at hCR hl hc0 hf ⊢
    rw [show n + 4 - 4 = n by omega] at hf
    have e1 : decide (((n + 4 : Nat) : Int) - 4 < 0) = false := decide_eq_false (by omega)
    have e0 : ((n + 4 : Nat) : Int) - 4 = (n : Int) := by omega
    have e2 : decide ((n : Int) < 0) = false := decide_eq_false (by omega)
    have hcut := cutTo A0 (n + 4) c0 n (by omega)
    have hC1 := C_first hCR n (by omega)
    have hln : (l0.take n).length = n := by rw [List.length_take]; omega
    have hfr := fun W (h : Kd.C (Kd.int .u8) W A0 n (l0.take n)) (hT : Tab W) => Frame_callsF A0 c0 (l0.take n) W (by rw [hln]; exact h) (by omega) hT
    rw [hln] at hfr
    have hfl : (frameF (l0.take n)).length = n + 4 := by rw [frameF_len, hln]
    by_cases hx : frameF (l0.take n) = l0
    · have hf2 := hf
      rw [if_pos hx] at hf2
      rw [hf2]
      have e3 : decide (frameF (l0.take n) = l0) = true := decide_eq_true hx
      have HLN := Aside0.mk hln; have HFL := Aside0.mk hfl; have HN := Aside0.mk hn; have HCR := Aside0.mk hCR; have HC1 := Aside0.mk hC1; have E3 := Aside0.mk e3; have HX := Aside0.mk hx
      clear hln hfl hn hCR hC1 hf hf2 e3 hx
      go_enter Tryd.func26, Tryd.ntmps26
      go_wp2_with fail
      ((with_reducible refine (hfr _ HC1.out HT.out).mono ?_); rintro e_ W1 ⟨v0, rfl, ho_, hb_⟩)
      obtain ⟨sp0, ho0⟩ := ho_
      obtain ⟨A1, c1, hv⟩ := Kd.R_slice ho0.R
      subst hv
      have HB := Aside0.mk hb_
      have hRR := Kd.R_reads' ho0.R
      rw [HFL.out] at hRR
      have HRR := Aside0.mk hRR
      clear hb_ ho0 hRR hfr
      rw [HFL.out]
      go_wp2_with fail
      ((with_reducible refine (Equal_calls _ _ _ _ _ _ _ _ _ HFL.out HN.out HRR.out.2.2 HRR.out.2.1 (Kd.C_below HCR.out HB.out) hc0 (by omega)).mono ?_); rintro e_ W2 ⟨rfl, hd_⟩)
      rw [E3.out]
      have HB2 := Aside0.mk (below_step HB.out hd_.below)
      clear hd_
      obtain ⟨ad, hA, hcs⟩ := HCR.out.2.2 (by omega)
      subst hA
      have hmk : ∀ W : World, (Instr.makeSlice 30 (.int .i64 0) (.int .i64 (n : Int))).run Tryd.prog W = .ok (.slice (some ⟨W.heap.size, 0, none⟩) 0 n) (W.alloc (.cells (madeCells #[.int .u8 0] n) 5)) := by
        intro W
        obtain ⟨i0, hi0, hz0, hsz0, hby⟩ := info_parts infoB
        have h := run_make (P := Tryd.prog) W 30 5 i0 (.int .u8 0) Tryd.underlying30 hi0 hz0 .i64 .i64 (0 : Int) (n : Int) (by omega) (by omega) (by rw [hby]; omega) (by omega)
        rw [hsz0, Nat.mul_one, Int.toNat_natCast] at h
        exact h
      have hC2 := C_cells (Kd.C_drew (Kd.C_alloc (C_first (Kd.C_below HCR.out HB2.out) n (by omega)) (.cells (madeCells #[.int .u8 0] n) 5))) HLN.out.symm
      have hload : (loadCellsFrom ad 0 n #[]).run Tryd.prog (W2.alloc (.cells (madeCells #[.int .u8 0] n) 5)).drew = .ok ((l0.take n).map (Value.int .u8)).toArray (W2.alloc (.cells (madeCells #[.int .u8 0] n) 5)).drew := by
        have h := run_loadCells_list (P := Tryd.prog) _ ad _ hC2
        rw [List.length_map, HLN.out] at h
        exact h
      have hmn : (madeCells #[Value.int .u8 0] n).size = n := by simp [madeCells]
      have hstore : (storeCells ⟨W2.heap.size, 0, none⟩ ((l0.take n).map (Value.int .u8))).run Tryd.prog (W2.alloc (.cells (madeCells #[.int .u8 0] n) 5)).drew = .ok () (W2.alloc (.cells ((l0.take n).map (Value.int .u8)).toArray 5)).drew := by
        have h := run_storeCells_at Tryd.prog W2.heap.size 0 5 ((l0.take n).map (Value.int .u8)) 0 (madeCells #[.int .u8 0] n) (W2.alloc (.cells (madeCells #[.int .u8 0] n) 5)).drew (MapKept.heap_alloc W2 _).1 (by rw [hmn, List.length_map, HLN.out]; omega) (by intro u hu; obtain ⟨x, _, rfl⟩ := List.mem_map.1 hu; rfl)
        rw [h]
        have e : ((madeCells #[Value.int .u8 0] n).toList.take (0 + 0) ++ (l0.take n).map (Value.int .u8) ++ (madeCells #[Value.int .u8 0] n).toList.drop (0 + 0 + ((l0.take n).map (Value.int .u8)).length)).toArray = ((l0.take n).map (Value.int .u8)).toArray := by
          rw [List.drop_of_length_le (by rw [Array.length_toList, hmn, List.length_map, HLN.out]; omega)]
          simp
        rw [e]
        show Result.ok () ((W2.alloc _).setRow W2.heap.size _).drew = _
        rw [World.setRow_alloc_new]
      clear hC2 hmn
      generalize hcs2 : (l0.take n).map (Value.int .u8) = cs at hload hstore
      have HCS := Aside0.mk hcs2
      clear hcs hcs2
      go_wp2
      go_region
      go_wp2
      go_ret2
      refine ⟨_, rfl, ⟨[], .inr ⟨W2.heap.size, by rw [HLN.out]; rfl, below_size HB2.out, ?_, by rw [HLN.out]; simp only [maxLen, List.length_nil]; omega, by simp⟩⟩, below_drew (below_alloc HB2.out _)⟩
      rw [List.append_nil, HCS.out]
      exact (MapKept.heap_alloc W2 _).1
    · have hf2 := hf
      rw [if_neg hx] at hf2
      rw [hf2]
      have e3 : decide (frameF (l0.take n) = l0) = false := decide_eq_false hx
      have HLN := Aside0.mk hln; have HFL := Aside0.mk hfl; have HN := Aside0.mk hn; have HCR := Aside0.mk hCR; have HC1 := Aside0.mk hC1; have E3 := Aside0.mk e3; have HX := Aside0.mk hx
      clear hln hfl hn hCR hC1 hf hf2 e3 hx
      go_enter Tryd.func26, Tryd.ntmps26
      go_wp2_with fail
      ((with_reducible refine (hfr _ HC1.out HT.out).mono ?_); rintro e_ W1 ⟨v0, rfl, ho_, hb_⟩)
      obtain ⟨sp0, ho0⟩ := ho_
      obtain ⟨A1, c1, hv⟩ := Kd.R_slice ho0.R
      subst hv
      have HB := Aside0.mk hb_
      have hRR := Kd.R_reads' ho0.R
      rw [HFL.out] at hRR
      have HRR := Aside0.mk hRR
      clear hb_ ho0 hRR hfr
      rw [HFL.out]
      go_wp2_with fail
      ((with_reducible refine (Equal_calls _ _ _ _ _ _ _ _ _ HFL.out HN.out HRR.out.2.2 HRR.out.2.1 (Kd.C_below HCR.out HB.out) hc0 (by omega)).mono ?_); rintro e_ W2 ⟨rfl, hd_⟩)
      rw [E3.out]
      have HB2 := Aside0.mk (below_step HB.out hd_.below)
      clear hd_
      go_wp2
      go_ret2
      exact ⟨_, rfl, RS.nil _ _, HB2.out⟩
-- REF

theorem bytesOf_str (a : List Int) (h : ∀ x ∈ a, 0 ≤ x ∧ x < 256) : bytesOf (strOfNums a) = a := by
  unfold bytesOf
  rw [strOfNums_data, List.map_map]
  have : ∀ x ∈ a, ((fun b : UInt8 => (b.toNat : Int)) ∘ fun n : Int => UInt8.ofNat n.toNat) x = x := by
    intro x hx
    have := h x hx
    show ((UInt8.ofNat x.toNat).toNat : Int) = x
    rw [UInt8.toNat_ofNat']
    omega
  rw [List.map_congr_left this]
  simp
theorem strList_inj {a b : List Int} (ha : ∀ x ∈ a, 0 ≤ x ∧ x < 256) (hb : ∀ x ∈ b, 0 ≤ x ∧ x < 256) : (strOfNums a).toList = (strOfNums b).toList ↔ a = b := by
  constructor
  · intro h
    rw [ByteArray.toList_eq, ByteArray.toList_eq] at h
    rw [← bytesOf_str a ha, ← bytesOf_str b hb]
    unfold bytesOf
    rw [h]
  · intro h
    rw [h]
theorem frameF_range (l : List Int) (h : ∀ x ∈ l, 0 ≤ x ∧ x < 256) : ∀ x ∈ frameF l, 0 ≤ x ∧ x < 256 := by
  intro x hx
  have hs := sumF_range l
  rcases List.mem_append.1 hx with hx | hx
  · exact h x hx
  · simp only [List.mem_cons, List.not_mem_nil, or_false] at hx
    rcases hx with rfl | rfl | rfl | rfl <;> omega

set_option maxHeartbeats 4000000 in
set_option maxRecDepth 100000 in
theorem rOpen_callsF (A0 : Option Addr) (c0 : Nat) (l0 : List Int) (w : World)
    (hr0 : Kd.C (Kd.int .u8) w A0 l0.length l0) (hc0 : l0.length ≤ c0) (hb : ∀ x ∈ l0, 0 ≤ x ∧ x < 256) (hl : l0.length ≤ 140737488355318) :
    Calls Tryd.prog 47 #[.slice A0 l0.length c0] w
      fun e w' => ∃ v, e = .returned (.tuple #[v, .bool (opF l0).2]) ∧ RS w.heap.size w' v (opF l0).1 ∧ Below w.heap.size w w' := by
  have HR := Aside0.mk hr0
  clear hr0
  by_cases hs : l0.length < 4
  · have hf : opF l0 = ([], false) := if_pos hs
    rw [hf]
    clear hf
    obtain ⟨m, hm⟩ : ∃ m, m = l0.length := ⟨_, rfl⟩
    rw [← hm] at hl hs hc0 ⊢
    clear hm
    have e1 : decide ((m : Int) < 4) = true := decide_eq_true (by omega)
    go_enter Tryd.func47, Tryd.ntmps47
    go_wp2
    go_ret2
    exact ⟨_, rfl, RS.nil _ _, Below.refl _ _⟩
  · have hf : opF l0 = if frameF (l0.take (l0.length - 4)) = l0 then (l0.take (l0.length - 4), true) else ([], false) := if_neg hs
    obtain ⟨n, hn⟩ : ∃ n, l0.length = n + 4 := ⟨l0.length - 4, by omega⟩
    have hCR := HR.out
    rw [hn] at hCR hl hc0 hf ⊢
    rw [show n + 4 - 4 = n by omega] at hf
    have e1 : decide (((n + 4 : Nat) : Int) < 4) = false := decide_eq_false (by omega)
    have e0 : ((n + 4 : Nat) : Int) - 4 = (n : Int) := by omega
    have hcut := cutTo A0 (n + 4) c0 n (by omega)
    have hC1 := C_first hCR n (by omega)
    have hln : (l0.take n).length = n := by rw [List.length_take]; omega
    have hfr := fun W (h : Kd.C (Kd.int .u8) W A0 n (l0.take n)) => rFrame_callsF A0 c0 n (l0.take n) W hln h (by omega)
    have hfb : ∀ x ∈ frameF (l0.take n), 0 ≤ x ∧ x < 256 := frameF_range _ (fun x hx => hb x (List.mem_of_mem_take hx))
    have hsx : (strOfNums (frameF (l0.take n))).toList = (strOfNums l0).toList ↔ frameF (l0.take n) = l0 := strList_inj hfb hb
    have conv0 : ∀ W', Below w.heap.size w W' → (convert 30 9 (.slice A0 (n + 4) c0)).run Tryd.prog W' = .ok (.string (strOfNums l0)) W' := fun W' hb' => Kd.C_string (P := Tryd.prog) Tryd.underlying30 Tryd.underlying5 Tryd.underlying9 (Kd.C_below hCR hb')
    clear hfb hb
    by_cases hx : frameF (l0.take n) = l0
    · have hf2 := hf
      rw [if_pos hx] at hf2
      rw [hf2]
      have hse : strOfNums (frameF (l0.take n)) = strOfNums l0 := by rw [hx]
      have HLN := Aside0.mk hln; have HN := Aside0.mk hn; have HCR := Aside0.mk hCR; have HC1 := Aside0.mk hC1; have HX := Aside0.mk hx
      have HB := Aside0.mk (Below.refl w.heap.size w)
      clear hln hn hCR hC1 hf hf2 hx hsx
      generalize hF : frameF (l0.take n) = Fr at hfr hse
      have HF := Aside0.mk hF
      clear hF
      have HSE := Aside0.mk hse; clear hse
      obtain ⟨s0, hs0⟩ : ∃ s0, s0 = strOfNums l0 := ⟨_, rfl⟩
      rw [← hs0] at conv0
      have HS0 := Aside0.mk hs0; clear hs0
      go_enter Tryd.func47, Tryd.ntmps47
      go_wp2_with fail
      refine wp_region_held_drew (S := fun w' => (convert 30 9 (.slice A0 (n + 4) c0)).run Tryd.prog w' = .ok (.string s0) w') (by kernel_rfl) (conv0 _ (below_drew1 HB.out)) (fun hHeld => ?_)
      refine wpAnyH_take (i := 0) (oi := { dst := some 13, op := Op.move (Operand.tmp 4), type := 30, pos := "ref.go:132", after := #[], guard := none }) (v := .slice A0 n c0) rfl (by kernel_rfl) (by kernel_rfl) (by kernel_rfl) (fun _ _ _ h => h) (Or.inl ⟨by rfl, by intro w_ hSw; (try dsimp only at hSw); go_simp⟩) (by assumption) ?_
      try simp only [Act.put, List.setIfInBounds_toArray, List.set_cons_zero, List.set_cons_succ]
      refine wpAnyH_take (i := 3) (oi := { dst := some 16, op := Op.move (Operand.tmp 0), type := 30, pos := "ref.go:132", after := #[], guard := none }) (v := .slice A0 (n + 4) c0) rfl (by kernel_rfl) (by kernel_rfl) (by kernel_rfl) (fun _ _ _ h => h) (Or.inl ⟨by rfl, by intro w_ hSw; (try dsimp only at hSw); go_simp⟩) (by assumption) ?_
      try simp only [Act.put, List.setIfInBounds_toArray, List.set_cons_zero, List.set_cons_succ]
      refine wpAnyH_take (i := 4) (oi := { dst := some 17, op := Op.convert 30 9 (Operand.tmp 16), type := 9, pos := "ref.go:132", after := #[{ on := 3, ground := Ground.data }], guard := none }) (v := .string s0) rfl (by kernel_rfl) (by kernel_rfl) (by kernel_rfl) (fun _ _ _ h => h) (Or.inl ⟨by rfl, by intro w_ hSw; (try dsimp only at hSw); go_simp⟩) (by assumption) ?_
      try simp only [Act.put, List.setIfInBounds_toArray, List.set_cons_zero, List.set_cons_succ]
      refine wpAnyH_ready (rs := [1]) (by kernel_rfl) (by simp) ?_
      refine AllReadyH.cons (o := { dst := some 14, op := Op.call { callee := Callee.value (Operand.func 40), args := #[Operand.tmp 13], argTypes := #[30] }, type := 30, pos := "ref.go:132", after := #[{ on := 0, ground := Ground.data }], guard := none }) rfl (fun K hK => ?_) AllReadyH.nil
      go_simp
      ((with_reducible refine (hfr _ (Kd.C_below HC1.out (below_drew1 HB.out))).mono ?_); rintro e_ W1 ⟨v_, rfl, ho_, hb_⟩)
      have n_ := Aside0.mk (below_step (below_drew1 HB.out) hb_); clear HB; have HB := n_; clear n_ hb_ hfr
      obtain ⟨sp_, ho_⟩ := ho_
      obtain ⟨A10, c10, e_, _, hC_⟩ := Kd.R_reads ho_.R
      subst e_
      have s2 := Kd.C_string (P := Tryd.prog) (c := c10) Tryd.underlying30 Tryd.underlying5 Tryd.underlying9 hC_
      clear ho_ hC_ hHeld
      rw [HSE.out, ← HS0.out] at s2
      go_wp2_with fail
      refine hK.out _ _ (conv0 _ HB.out) (fun hHeld => ?_)
      clear hK K
      try simp only [Act.put, List.setIfInBounds_toArray, List.set_cons_zero, List.set_cons_succ]
      refine wpAnyH_ready (rs := [2]) (by kernel_rfl) (by simp) ?_
      refine AllReadyH.cons (o := { dst := some 15, op := Op.convert 30 9 (Operand.tmp 14), type := 9, pos := "ref.go:132", after := #[{ on := 1, ground := Ground.data }], guard := none }) rfl (fun K hK => ?_) AllReadyH.nil
      go_simp
      refine hK.out _ _ (conv0 _ HB.out) (fun hHeld => ?_)
      clear hK K
      try simp only [Act.put, List.setIfInBounds_toArray, List.set_cons_zero, List.set_cons_succ]
      refine wpAnyH_take (i := 5) (oi := { dst := some 18, op := Op.binOp BinOp.neq 9 (Operand.tmp 15) (Operand.tmp 17) 9, type := 4, pos := "ref.go:132", after := #[{ on := 2, ground := Ground.data }, { on := 4, ground := Ground.data }], guard := none }) (v := .bool false) rfl (by kernel_rfl) (by kernel_rfl) (by kernel_rfl) (fun _ _ _ h => h) (Or.inl ⟨by rfl, by intro w_ hSw; (try dsimp only at hSw); go_simp⟩) (by assumption) ?_
      try simp only [Act.put, List.setIfInBounds_toArray, List.set_cons_zero, List.set_cons_succ]
      refine wpAnyH_done (by kernel_rfl) ?_ _
      have hbn := below_alloc HB.out (.cells #[] 5)
      have HBN := Aside0.mk hbn; clear hbn
      have HO0 : Aside0 (RF w.heap.size (W1.alloc (.cells #[] 5)) (.slice (some ⟨W1.heap.size, 0, none⟩) 0 0) [] []) := ⟨.inr ⟨W1.heap.size, rfl, below_size HB.out, (MapKept.heap_alloc W1 _).1, by simp, by simp⟩⟩
      go_wp2_with (first | ((with_reducible refine gate_builtin (b := .append) (xs := #[.tmp 19, .tmp 20]) rfl ?_); at_builtin; refine wp_rf_rows (w0 := w) w.heap.size rfl (.tmp 19) (.tmp 20) rfl _ [] [] (l0.take n) _ _ _ rfl rfl HO0.out (Kd.C_below HC1.out HBN.out) HBN.out (below_size HBN.out) (by simp; omega) ?_; intro v1 w1 sp1 ho hb hg; have HO1 := Aside0.mk ho; clear HB HBN; have HB := Aside0.mk hb; clear ho hb hg))
      go_ret2
      exact ⟨_, rfl, ⟨_, HO1.out⟩, HB.out⟩
    · have hf2 := hf
      rw [if_neg hx] at hf2
      rw [hf2]
      have hse : ¬ (strOfNums (frameF (l0.take n))).toList = (strOfNums l0).toList := fun h => hx (hsx.1 h)
      have HLN := Aside0.mk hln; have HN := Aside0.mk hn; have HCR := Aside0.mk hCR; have HC1 := Aside0.mk hC1; have HX := Aside0.mk hx
      have HB := Aside0.mk (Below.refl w.heap.size w)
      clear hln hn hCR hC1 hf hf2 hx hsx
      generalize hF : frameF (l0.take n) = Fr at hfr hse
      have HF := Aside0.mk hF
      clear hF
      obtain ⟨s0, hs0⟩ : ∃ s0, s0 = strOfNums l0 := ⟨_, rfl⟩
      rw [← hs0] at conv0 hse
      have HSE := Aside0.mk hse; clear hse
      clear hs0
      go_enter Tryd.func47, Tryd.ntmps47
      go_wp2_with fail
      refine wp_region_held_drew (S := fun w' => (convert 30 9 (.slice A0 (n + 4) c0)).run Tryd.prog w' = .ok (.string s0) w') (by kernel_rfl) (conv0 _ (below_drew1 HB.out)) (fun hHeld => ?_)
      refine wpAnyH_take (i := 0) (oi := { dst := some 13, op := Op.move (Operand.tmp 4), type := 30, pos := "ref.go:132", after := #[], guard := none }) (v := .slice A0 n c0) rfl (by kernel_rfl) (by kernel_rfl) (by kernel_rfl) (fun _ _ _ h => h) (Or.inl ⟨by rfl, by intro w_ hSw; (try dsimp only at hSw); go_simp⟩) (by assumption) ?_
      try simp only [Act.put, List.setIfInBounds_toArray, List.set_cons_zero, List.set_cons_succ]
      refine wpAnyH_take (i := 3) (oi := { dst := some 16, op := Op.move (Operand.tmp 0), type := 30, pos := "ref.go:132", after := #[], guard := none }) (v := .slice A0 (n + 4) c0) rfl (by kernel_rfl) (by kernel_rfl) (by kernel_rfl) (fun _ _ _ h => h) (Or.inl ⟨by rfl, by intro w_ hSw; (try dsimp only at hSw); go_simp⟩) (by assumption) ?_
      try simp only [Act.put, List.setIfInBounds_toArray, List.set_cons_zero, List.set_cons_succ]
      refine wpAnyH_take (i := 4) (oi := { dst := some 17, op := Op.convert 30 9 (Operand.tmp 16), type := 9, pos := "ref.go:132", after := #[{ on := 3, ground := Ground.data }], guard := none }) (v := .string s0) rfl (by kernel_rfl) (by kernel_rfl) (by kernel_rfl) (fun _ _ _ h => h) (Or.inl ⟨by rfl, by intro w_ hSw; (try dsimp only at hSw); go_simp⟩) (by assumption) ?_
      try simp only [Act.put, List.setIfInBounds_toArray, List.set_cons_zero, List.set_cons_succ]
      refine wpAnyH_ready (rs := [1]) (by kernel_rfl) (by simp) ?_
      refine AllReadyH.cons (o := { dst := some 14, op := Op.call { callee := Callee.value (Operand.func 40), args := #[Operand.tmp 13], argTypes := #[30] }, type := 30, pos := "ref.go:132", after := #[{ on := 0, ground := Ground.data }], guard := none }) rfl (fun K hK => ?_) AllReadyH.nil
      go_simp
      ((with_reducible refine (hfr _ (Kd.C_below HC1.out (below_drew1 HB.out))).mono ?_); rintro e_ W1 ⟨v_, rfl, ho_, hb_⟩)
      have n_ := Aside0.mk (below_step (below_drew1 HB.out) hb_); clear HB; have HB := n_; clear n_ hb_ hfr
      obtain ⟨sp_, ho_⟩ := ho_
      obtain ⟨A10, c10, e_, _, hC_⟩ := Kd.R_reads ho_.R
      subst e_
      have s2 := Kd.C_string (P := Tryd.prog) (c := c10) Tryd.underlying30 Tryd.underlying5 Tryd.underlying9 hC_
      clear ho_ hC_ hHeld
      generalize strOfNums Fr = s1 at s2 HSE
      have q1 := HSE.out
      go_wp2_with fail
      refine hK.out _ _ (conv0 _ HB.out) (fun hHeld => ?_)
      clear hK K
      try simp only [Act.put, List.setIfInBounds_toArray, List.set_cons_zero, List.set_cons_succ]
      refine wpAnyH_ready (rs := [2]) (by kernel_rfl) (by simp) ?_
      refine AllReadyH.cons (o := { dst := some 15, op := Op.convert 30 9 (Operand.tmp 14), type := 9, pos := "ref.go:132", after := #[{ on := 1, ground := Ground.data }], guard := none }) rfl (fun K hK => ?_) AllReadyH.nil
      go_simp
      refine hK.out _ _ (conv0 _ HB.out) (fun hHeld => ?_)
      clear hK K
      try simp only [Act.put, List.setIfInBounds_toArray, List.set_cons_zero, List.set_cons_succ]
      refine wpAnyH_take (i := 5) (oi := { dst := some 18, op := Op.binOp BinOp.neq 9 (Operand.tmp 15) (Operand.tmp 17) 9, type := 4, pos := "ref.go:132", after := #[{ on := 2, ground := Ground.data }, { on := 4, ground := Ground.data }], guard := none }) (v := .bool true) rfl (by kernel_rfl) (by kernel_rfl) (by kernel_rfl) (fun _ _ _ h => h) (Or.inl ⟨by rfl, by intro w_ hSw; (try dsimp only at hSw); go_simp⟩) (by assumption) ?_
      try simp only [Act.put, List.setIfInBounds_toArray, List.set_cons_zero, List.set_cons_succ]
      refine wpAnyH_done (by kernel_rfl) ?_ _
      go_wp2
      go_ret2
      exact ⟨_, rfl, RS.nil _ _, HB.out⟩
end Go.Proofs.YtbdocgddidcfeaaDoor

/- WireWrites. Printed by gen_z.py. -/
namespace Go.Proofs.YtbdocgddidcfeaaDoor
open Go.RowKit Go.Proofs.YtbdocgddidcfeaaDoorW.PrintWords Go.Proofs.YtbdocgddidcfeaaDoorW.PrintLast Go.Proofs.YtbdocgddidcfeaaDoorW.PrintMore
set_option linter.unusedVariables false
set_option linter.unusedSimpArgs false

set_option maxHeartbeats 4000000 in
set_option maxRecDepth 100000 in
theorem Kept_callsG (g : Nat) (A1 : Option Addr) (c1 : Nat) (l0 : List Int) (w0 w : World) (hg : w0.heap.size ≤ g) (hB : Below w0.heap.size w0 w)
    (hbk : w.heap[g]? = some (.cells (spareC l0 3) 5 (0, 0))) (hr : Kd.C (Kd.int .u8) w0 A1 l0.length l0) (hl : l0.length ≤ 140737488355318) :
    Calls Tryd.prog 32 #[.slice (some ⟨g, 0, none⟩) l0.length (l0.length + 3), .slice A1 l0.length c1] w
      fun e w' => e = .returned (.bool true) ∧ Below w0.heap.size w0 w' ∧ w.grownBy w' (some g) := by
  have HGR := Aside0.mk (World.grownBy.refl w (some g))
  have HR := Aside0.mk hr; have HB := Aside0.mk hB; have BK := Aside0.mk hbk; have HG := Aside0.mk hg
  clear hr hB hbk hg
  obtain ⟨n, hn⟩ : ∃ n, n = l0.length := ⟨_, rfl⟩
  rw [← hn] at hl ⊢
  have HN := Aside0.mk hn; clear hn
  have d1 : decide ((n : Int) + 3 ≤ ((n + 3 : Nat) : Int)) = true := decide_eq_true (by omega)
  go_enter Tryd.func32, Tryd.ntmps32
  go_wp2
  go_loopw [7] (fun v wr => ∃ i : Int, v = .int .i64 i ∧ 0 ≤ i ∧ i ≤ (n : Int) + 3 ∧ Aside0 (∃ cs, wr.heap[g]? = some (.cells cs 5 (0, 0)) ∧ ∀ j : Nat, i ≤ (j : Int) → cs[j]? = (spareC l0 3)[j]?) ∧ Aside0 (Below w0.heap.size w0 wr) ∧ Aside0 (w.grownBy wr (some g))) (fun v _ => ((n : Int) + 3 - intOf v).toNat)
  case atStart => exact ⟨0, rfl, by omega, by omega, ⟨_, BK.out, fun j _ => rfl⟩, HB, HGR⟩
  case round =>
    clear HB BK HGR
    obtain ⟨i, rfl, hi0, hi1, BK, HB, HGR⟩ := hrel
    by_cases hx : i < (n : Int) + 3
    · have dx : decide (i < (n : Int) + 3) = true := decide_eq_true hx
      obtain ⟨cs, hcs, hrest⟩ := BK.out
      by_cases hin : i < (n : Int)
      · have dn : decide (i < (n : Int)) = true := decide_eq_true hin
        have dn2 : decide ((n : Int) ≤ i) = false := decide_eq_false (by omega)
        obtain ⟨x, hxx⟩ : ∃ x, x = rd l0 i := ⟨_, rfl⟩
        have hcl : wr.cell? ⟨g, i.toNat, none⟩ = some (.int .u8 x) := by
          rw [blk_cell hcs, hrest _ (by omega), spare3_lo l0 i.toNat (by have := HN.out; omega), Int.toNat_of_nonneg hi0, hxx]
        have hfr := blk_frozen hcs i.toNat
        have hrc := Kd.C_below HR.out HB.out
        rw [← HN.out] at hrc
        obtain ⟨ad, e, hcell⟩ := Kd.at_int hrc i hi0 hin
        cases e
        rw [← hxx] at hcell
        have hcs2 := Aside0.mk hcs; have hrest2 := Aside0.mk hrest
        clear hcs hrest BK hrc hxx
        go_wp2
        go_quiet (fail)
        go_wp2
        exact ⟨⟨i + 1, rfl, by omega, by omega, ⟨_, blk_put (w := wr.drewN nq) hcs2.out i.toNat _ rfl, fun j hj => by rw [Array.getElem?_setIfInBounds_ne (by omega)]; exact hrest2.out j (by omega)⟩, ⟨Below.setCell (pw_below_drewN HB.out nq) HG.out _⟩, ⟨grown_set (grown_drewN HGR.out nq)⟩⟩, by simp only [intOf]; omega⟩
      · have dn : decide (i < (n : Int)) = false := decide_eq_false hin
        have dn2 : decide ((n : Int) ≤ i) = true := decide_eq_true (by omega)
        have hcl : wr.cell? ⟨g, i.toNat, none⟩ = some (.int .u8 77) := by
          rw [blk_cell hcs, hrest _ (by omega), spare3_hi l0 i.toNat (by have := HN.out; omega) (by have := HN.out; omega)]
        have hfr := blk_frozen hcs i.toNat
        have hcs2 := Aside0.mk hcs; have hrest2 := Aside0.mk hrest
        clear hcs hrest BK
        go_wp2
        go_quiet (fail)
        go_wp2
        exact ⟨⟨i + 1, rfl, by omega, by omega, ⟨_, blk_put (w := wr.drewN nq) hcs2.out i.toNat _ rfl, fun j hj => by rw [Array.getElem?_setIfInBounds_ne (by omega)]; exact hrest2.out j (by omega)⟩, ⟨Below.setCell (pw_below_drewN HB.out nq) HG.out _⟩, ⟨grown_set (grown_drewN HGR.out nq)⟩⟩, by simp only [intOf]; omega⟩
    · have dx : decide (i < (n : Int) + 3) = false := decide_eq_false hx
      go_wp2
      go_ret
      exact ⟨rfl, HB.out, HGR.out⟩

theorem RF.lt {base : Nat} {w : World} {v : Value} {xs sp : List Int} (h : RF base w v xs sp) (b : Nat) (hb : v.ownBlock = some b) : b < w.heap.size := by
  rcases h with ⟨rfl, _⟩ | ⟨g, rfl, h2, h3, _⟩
  · cases hb
  · injection hb with hb; subst hb; exact (Array.getElem?_eq_some_iff.1 h3).1
theorem RS.own {base : Nat} {w : World} {v : Value} {xs : List Int} (h : RS base w v xs) (b : Nat) (hb : v.ownBlock = some b) : base ≤ b ∧ b < w.heap.size := by
  obtain ⟨sp, h⟩ := h
  exact ⟨h.base b hb, h.lt b hb⟩
theorem RS.R {base : Nat} {w : World} {v : Value} {xs : List Int} (h : RS base w v xs) : Kd.R (Kd.int .u8) 5 w base (fun _ => True) v xs := by
  obtain ⟨sp, h⟩ := h
  exact h.R
theorem RS.move {base : Nat} {w w1 : World} {v : Value} {xs : List Int} (h : RS base w v xs) (hm : ∀ b, v.ownBlock = some b → b < w.heap.size → w1.heap[b]? = w.heap[b]?) : RS base w1 v xs := by
  obtain ⟨sp, h⟩ := h
  exact ⟨sp, h.move hm⟩
/-- Five own rows, each behind the last. -/
theorem five_owned (w W : World) (V0 V1 V2 V3 V4 : Value) (L0 L1 L2 L3 L4 : List Int) (b0 b1 b2 b3 b4 e0 e1 e2 e3 : Nat) (base : Nat)
    (h0 : RS b0 W V0 L0) (h1 : RS b1 W V1 L1) (h2 : RS b2 W V2 L2) (h3 : RS b3 W V3 L3) (h4 : RS b4 W V4 L4)
    (u0 : ∀ b, V0.ownBlock = some b → b < b1) (u1 : ∀ b, V1.ownBlock = some b → b < b2) (u2 : ∀ b, V2.ownBlock = some b → b < b3) (u3 : ∀ b, V3.ownBlock = some b → b < b4)
    (o01 : b0 ≤ b1) (o12 : b1 ≤ b2) (o23 : b2 ≤ b3) (o34 : b3 ≤ b4)
    (r0 : ∀ x ∈ L0, 0 ≤ x ∧ x < 256) (r1 : ∀ x ∈ L1, 0 ≤ x ∧ x < 256) (r2 : ∀ x ∈ L2, 0 ≤ x ∧ x < 256) (r3 : ∀ x ∈ L3, 0 ≤ x ∧ x < 256) (r4 : ∀ x ∈ L4, 0 ≤ x ∧ x < 256) :
    Calls Tryd.prog 34 #[.slice (some ⟨W.heap.size, 0, none⟩) 5 5] (W.alloc (.cells #[V0, V1, V2, V3, V4] 30)) fun e w' => e = .returned (.bool true) ∧ Below W.heap.size W w' := by
  obtain ⟨s0, h0⟩ := h0; obtain ⟨s1, h1⟩ := h1; obtain ⟨s2, h2⟩ := h2; obtain ⟨s3, h3⟩ := h3; obtain ⟨s4, h4⟩ := h4
  have ba := below_alloc (Below.refl W.heap.size W) (.cells #[V0, V1, V2, V3, V4] 30)
  have five : ∀ (p : Nat → Prop), p 0 → p 1 → p 2 → p 3 → p 4 → ∀ k, k < 5 → p k := by
    intro p a0 a1 a2 a3 a4 k hk
    have : k = 0 ∨ k = 1 ∨ k = 2 ∨ k = 3 ∨ k = 4 := by omega
    rcases this with rfl | rfl | rfl | rfl | rfl <;> assumption
  have hcl : ∀ k : Nat, (W.alloc (.cells #[V0, V1, V2, V3, V4] 30)).cell? ⟨W.heap.size, k, none⟩ = #[V0, V1, V2, V3, V4][k]? := fun k => blk_cell (MapKept.heap_alloc W _).1 k
  refine (Owned_calls W.heap.size 5 (fun k => #[V0, V1, V2, V3, V4].getD k undef) (fun k => #[L0, L1, L2, L3, L4].getD k []) (fun k => #[s0, s1, s2, s3, s4].getD k []) _ 0 (by omega) (by omega) ?_ ?_ ?_ ?_ ?_).mono ?_
  · exact five _ (hcl 0) (hcl 1) (hcl 2) (hcl 3) (hcl 4)
  · exact five _ ((h0.below ba).lower (Nat.zero_le _)) ((h1.below ba).lower (Nat.zero_le _)) ((h2.below ba).lower (Nat.zero_le _)) ((h3.below ba).lower (Nat.zero_le _)) ((h4.below ba).lower (Nat.zero_le _))
  · exact five _ r0 r1 r2 r3 r4
  · have key : ∀ (U V : Value), (∀ b, U.ownBlock = some b → V.ownBlock ≠ some b) → U.ownBlock = none ∨ U.ownBlock ≠ V.ownBlock := by
      intro U V h
      cases hu : U.ownBlock with
      | none => exact .inl rfl
      | some b => exact .inr (fun e => h b hu e.symm)
    have hlo : ∀ k, k < 5 → ∀ b, Value.ownBlock (#[V0, V1, V2, V3, V4].getD k undef) = some b → #[b0, b1, b2, b3, b4].getD k 0 ≤ b ∧ b < #[b1, b2, b3, b4, W.heap.size].getD k 0 :=
      five _ (fun b hb => ⟨h0.base b hb, u0 b hb⟩) (fun b hb => ⟨h1.base b hb, u1 b hb⟩) (fun b hb => ⟨h2.base b hb, u2 b hb⟩) (fun b hb => ⟨h3.base b hb, u3 b hb⟩) (fun b hb => ⟨h4.base b hb, h4.lt b hb⟩)
    have hst : ∀ i, i < 5 → ∀ j, j < 5 → i < j → #[b1, b2, b3, b4, W.heap.size].getD i 0 ≤ #[b0, b1, b2, b3, b4].getD j 0 := by
      intro i hi j hj hij
      have e1 : i = 0 ∨ i = 1 ∨ i = 2 ∨ i = 3 := by omega
      have e2 : j = 1 ∨ j = 2 ∨ j = 3 ∨ j = 4 := by omega
      rcases e1 with rfl | rfl | rfl | rfl <;> rcases e2 with rfl | rfl | rfl | rfl <;> simp at hij ⊢ <;> omega
    intro i j hi hj hne
    refine key _ _ (fun b hb hc => ?_)
    have p := hlo i hi b hb
    have q := hlo j hj b hc
    rcases Nat.lt_or_ge i j with h | h
    · have := hst i hi j hj h; omega
    · have := hst j hj i hi (by omega); omega
  · have lt : ∀ {base : Nat} {v : Value} {xs sp : List Int}, RF base W v xs sp → v.ownBlock ≠ some W.heap.size := fun h e => Nat.lt_irrefl _ (h.lt _ e)
    exact five _ (lt h0) (lt h1) (lt h2) (lt h3) (lt h4)
  · rintro e w' ⟨rfl, hb⟩
    exact ⟨rfl, below_step ba hb⟩

theorem numF_range (l : List Int) (n : Int) (h : ∀ x ∈ l, 0 ≤ x ∧ x < 256) : ∀ x ∈ (numF l n).1, 0 ≤ x ∧ x < 256 := by
  unfold numF
  split
  · simp
  · exact app_range h (venc_range _ _ (Nat.lt_succ_self _))
theorem textF_range (l : List Int) (t : ByteArray) (h : ∀ x ∈ l, 0 ≤ x ∧ x < 256) : ∀ x ∈ (textF l t).1, 0 ≤ x ∧ x < 256 := by
  unfold textF
  split
  · simp
  · exact app_range (app_range h (venc_range _ _ (Nat.lt_succ_self _))) (bytes_range _)
theorem opF_range (l : List Int) (h : ∀ x ∈ l, 0 ≤ x ∧ x < 256) : ∀ x ∈ (opF l).1, 0 ≤ x ∧ x < 256 := by
  unfold opF
  split
  · simp
  · split
    · exact fun x hx => h x (List.mem_of_mem_take hx)
    · simp

end Go.Proofs.YtbdocgddidcfeaaDoor
