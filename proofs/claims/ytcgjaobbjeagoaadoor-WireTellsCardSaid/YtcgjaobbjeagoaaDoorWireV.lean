/- Owned: own rows are written over, one by one, and back. -/
import Derived.Test.YtcgjaobbjeagoaaDoorWireU
import Derived.Test.YtcgjaobbjeagoaaDoorWireR
namespace Go.Proofs.YtcgjaobbjeagoaaDoor
open Go.RowKit Go.Proofs.YtcgjaobbjeagoaaDoorW.PrintWords Go.Proofs.YtcgjaobbjeagoaaDoorW.PrintLast Go.Proofs.YtcgjaobbjeagoaaDoorW.PrintMore
set_option linter.unusedVariables false
set_option linter.unusedSimpArgs false

theorem infoSt : (Tryd.prog.info? 9).map (fun i => (i.zero, i.size, i.bytes)) = some (some (.string ByteArray.empty), 1, 16) := by kernel_rfl
def wasT (L : Nat → List Int) (n : Nat) : List ByteArray := (List.range n).map (fun k => strOfNums (L k))
theorem wasT_succ (L : Nat → List Int) (n : Nat) : wasT L (n + 1) = wasT L n ++ [strOfNums (L n)] := by simp [wasT, List.range_succ]
theorem wasT_len (L : Nat → List Int) (n : Nat) : (wasT L n).length = n := by simp [wasT]
theorem grown_set {W w : World} {g j : Nat} {v : Value} (h : W.grownBy w (some g)) : W.grownBy (w.setCell ⟨g, j, none⟩ v) (some g) := by
  have h2 := Below.setCell (B := g) (a := w) (w := w) ⟨rfl, rfl, rfl, Nat.le_refl _, fun _ _ => rfl⟩ (p := ⟨g, j, none⟩) (Nat.le_refl _) v
  refine ⟨h2.os.trans h.os, h2.tape.trans h.tape, h2.output.trans h.output, Nat.le_trans h.size h2.size, fun k hk hne => ?_⟩
  rw [Below.heap_setCell w ⟨g, j, none⟩ v k (fun e => hne (by rw [e]))]
  exact h.block k hk hne
theorem grown_drewN {W w : World} {row : Option Nat} (h : W.grownBy w row) (n : Nat) : W.grownBy (w.drewN n) row := ⟨h.os, h.tape, h.output, h.size, h.block⟩
theorem grown_back {W w : World} {g : Nat} (h : W.grownBy w (some g)) (hg : w.heap[g]? = W.heap[g]?) : Below W.heap.size W w :=
  ⟨h.os, h.tape, h.output, h.size, fun k hk => by
    by_cases e : k = g
    · rw [e]; exact hg
    · exact h.block k hk (fun e2 => e (by injection e2))⟩
theorem xor255 (x : Int) (h0 : 0 ≤ x) (h1 : x < 256) : bits .xor .u8 x 255 = 255 - x := by
  obtain ⟨n, rfl⟩ : ∃ n : Nat, x = (n : Int) := ⟨x.toNat, by omega⟩
  have h : ∀ n : Fin 256, bits .xor .u8 ((n.val : Nat) : Int) 255 = 255 - ((n.val : Nat) : Int) := by decide +kernel
  exact h ⟨n, by omega⟩
theorem C_str1 (w : World) (x : ByteArray) (ty : TypeId) : Kd.C Kd.string (w.alloc (.cells #[.string x] ty)) (some ⟨w.heap.size, 0, none⟩) 1 [x] := by
  refine ⟨rfl, by decide, fun _ => ⟨_, rfl, fun j p hj => ⟨[.string p], rfl, rfl, fun i u hu => ?_⟩⟩⟩
  have hj0 : j = 0 := by
    have := (List.getElem?_eq_some_iff.1 hj).1
    simpa using this
  subst hj0
  simp only [List.getElem?_cons_zero, Option.some.injEq] at hj
  subst hj
  cases i with
  | zero =>
    simp only [List.getElem?_cons_zero, Option.some.injEq] at hu
    subst hu
    rw [add_plain]
    unfold World.cell?
    rw [(MapKept.heap_alloc w _).1]
    rfl
  | succ i => simp at hu
/-- The cells of a row of which the first k are turned. -/
def Fl (M : List Int) (k : Int) (cs : Array Value) : Prop := cs.size = M.length ∧ ∀ j : Nat, j < M.length → cs[j]? = some (.int .u8 (if (j : Int) < k then 255 - rd M (j : Int) else rd M (j : Int)))
theorem Fl.start (M : List Int) : Fl M 0 (M.map (Value.int .u8)).toArray := ⟨by simp, fun j hj => by
  rw [if_neg (by omega)]
  simp [rd_get' hj, hj]⟩
theorem Fl.stop {M : List Int} {cs : Array Value} (h : Fl M 0 cs) : cs = (M.map (Value.int .u8)).toArray := by
  apply Array.ext
  · simp [h.1]
  · intro i h1 h2
    have hi : i < M.length := by rw [← h.1]; exact h1
    have := h.2 i hi
    rw [if_neg (by omega), Array.getElem?_eq_getElem h1, Option.some.injEq] at this
    rw [this]
    simp [rd_get' hi]
theorem Fl.step {M : List Int} {k : Int} {cs : Array Value} (h : Fl M k cs) (h0 : 0 ≤ k) (h1 : k < M.length) :
    Fl M (k + 1) (cs.setIfInBounds k.toNat (.int .u8 (255 - rd M k))) := by
  refine ⟨by simpa using h.1, fun j hj => ?_⟩
  by_cases e : j = k.toNat
  · subst e
    rw [Array.getElem?_setIfInBounds_self_of_lt (by rw [h.1]; exact hj), if_pos (by omega), Int.toNat_of_nonneg h0]
  · rw [Array.getElem?_setIfInBounds_ne (by omega), h.2 j hj]
    by_cases hk : (j : Int) < k
    · rw [if_pos hk, if_pos (by omega)]
    · rw [if_neg hk, if_neg (by omega)]
/-- On the way back the first k are as they were. -/
def Bk (M : List Int) (k : Int) (cs : Array Value) : Prop := cs.size = M.length ∧ ∀ j : Nat, j < M.length → cs[j]? = some (.int .u8 (if (j : Int) < k then rd M (j : Int) else 255 - rd M (j : Int)))
theorem Bk.start {M : List Int} {k : Int} {cs : Array Value} (h : Fl M k cs) (hk : (M.length : Int) ≤ k) : Bk M 0 cs := ⟨h.1, fun j hj => by
  rw [h.2 j hj, if_pos (by omega), if_neg (by omega)]⟩
theorem Bk.stop {M : List Int} {k : Int} {cs : Array Value} (h : Bk M k cs) (hk : (M.length : Int) ≤ k) : cs = (M.map (Value.int .u8)).toArray :=
  Fl.stop ⟨h.1, fun j hj => by rw [h.2 j hj, if_pos (by omega), if_neg (by omega)]⟩
theorem Bk.step {M : List Int} {k : Int} {cs : Array Value} (h : Bk M k cs) (h0 : 0 ≤ k) (h1 : k < M.length) :
    Bk M (k + 1) (cs.setIfInBounds k.toNat (.int .u8 (rd M k))) := by
  refine ⟨by simpa using h.1, fun j hj => ?_⟩
  by_cases e : j = k.toNat
  · subst e
    rw [Array.getElem?_setIfInBounds_self_of_lt (by rw [h.1]; exact hj), if_pos (by omega), Int.toNat_of_nonneg h0]
  · rw [Array.getElem?_setIfInBounds_ne (by omega), h.2 j hj]
    by_cases hk : (j : Int) < k
    · rw [if_pos hk, if_pos (by omega)]
    · rw [if_neg hk, if_neg (by omega)]

theorem cut_cap (A : Option Addr) (m c : Nat) (hc : m ≤ c) (W : World) : (Instr.slice 23 (.slice A m c) none (some (.int .i64 (c : Int))) none).run Tryd.prog W = .ok (.slice A c c) W := by
  obtain ⟨i0, hi0, _, hsz0, _⟩ := info_parts infoB
  have ht := Tryd.underlying23
  have hel : Tryd.prog.elem 23 = 5 := by simp [Program.elem, ht]
  have hu : Tryd.prog.underlying 23 = some (.slice (Tryd.prog.elem 23)) := by rw [hel]; exact ht
  have ha : (A.map fun x => x.add 0) = A := by cases A <;> simp [Addr.add]
  rw [run_slice_h W 23 A m c hu .i64 (c : Int) (by omega) (by omega), hel]
  simp [sizeOf, typeInfo, hi0, hsz0, sliced, Result.andThen, ha]
theorem RF.form {base : Nat} {w : World} {v : Value} {xs sp : List Int} (h : RF base w v xs sp) :
    ∃ A, v = .slice A xs.length (xs ++ sp).length ∧ ((A = none ∧ xs ++ sp = []) ∨ ∃ g, A = some ⟨g, 0, none⟩ ∧ w.heap[g]? = some (.cells ((xs ++ sp).map (Value.int .u8)).toArray 5 (0, 0))) ∧ (∀ x ∈ sp, 0 ≤ x ∧ x < 256) ∧ (xs ++ sp).length ≤ 9223372036854775807 := by
  rcases h with ⟨rfl, rfl, rfl⟩ | ⟨g, rfl, h2, h3, h4, h5⟩
  · exact ⟨none, rfl, .inl ⟨rfl, rfl⟩, by simp, by simp⟩
  · exact ⟨_, by rw [List.length_append], .inr ⟨g, rfl, h3⟩, h5, by rw [List.length_append]; simpa [maxLen] using h4⟩
theorem RF.move {base : Nat} {w w1 : World} {v : Value} {xs sp : List Int} (h : RF base w v xs sp) (hm : ∀ b, v.ownBlock = some b → b < w.heap.size → w1.heap[b]? = w.heap[b]?) : RF base w1 v xs sp := by
  rcases h with h | ⟨g, h1, h2, h3, h4⟩
  · exact .inl h
  · refine .inr ⟨g, h1, h2, ?_, h4⟩
    rw [hm g (by rw [h1]; rfl) (Array.getElem?_eq_some_iff.1 h3).1]
    exact h3
/-- The world while the row M at A is being turned. -/
def St (W1 : World) (A : Option Addr) (M : List Int) (F : Array Value → Prop) (wr : World) : Prop :=
  (A = none ∧ M = [] ∧ Below W1.heap.size W1 wr) ∨ ∃ g cs, A = some ⟨g, 0, none⟩ ∧ W1.grownBy wr (some g) ∧ wr.heap[g]? = some (.cells cs 5 (0, 0)) ∧ F cs
theorem St.far {W1 wr : World} {A : Option Addr} {M : List Int} {F : Array Value → Prop} (h : St W1 A M F wr) {b : Nat} (hb : b < W1.heap.size) (hne : ∀ o, A ≠ some ⟨b, o, none⟩) : wr.heap[b]? = W1.heap[b]? := by
  rcases h with ⟨_, _, h⟩ | ⟨g, cs, rfl, h, _⟩
  · exact h.block b hb
  · exact h.block b hb (fun e => by injection e with e; subst e; exact hne 0 rfl)
theorem St.drewN {W1 wr : World} {A : Option Addr} {M : List Int} {F : Array Value → Prop} (h : St W1 A M F wr) (k : Nat) : St W1 A M F (wr.drewN k) := by
  rcases h with ⟨h1, h2, h⟩ | ⟨g, cs, rfl, h, h3⟩
  · exact .inl ⟨h1, h2, pw_below_drewN h k⟩
  · exact .inr ⟨g, cs, rfl, grown_drewN h k, h3⟩
theorem St.imp {W1 wr : World} {A : Option Addr} {M : List Int} {F G : Array Value → Prop} (h : St W1 A M F wr) (hi : ∀ cs, F cs → G cs) : St W1 A M G wr := by
  rcases h with h | ⟨g, cs, h1, h2, h3, h4⟩
  · exact .inl h
  · exact .inr ⟨g, cs, h1, h2, h3, hi _ h4⟩
theorem St.back {W1 wr : World} {A : Option Addr} {M : List Int} {F : Array Value → Prop} (h : St W1 A M F wr) (hF : ∀ cs, F cs → cs = (M.map (Value.int .u8)).toArray)
    (hA : ∀ g, A = some ⟨g, 0, none⟩ → W1.heap[g]? = some (.cells (M.map (Value.int .u8)).toArray 5 (0, 0))) : Below W1.heap.size W1 wr := by
  rcases h with ⟨_, _, h⟩ | ⟨g, cs, h1, h2, h3, h4⟩
  · exact h
  · exact grown_back h2 (by rw [h3, hA g h1, hF cs h4])
theorem St.start {W1 wr : World} {A : Option Addr} {M : List Int} (hb : Below W1.heap.size W1 wr)
    (hA : (A = none ∧ M = []) ∨ ∃ g, A = some ⟨g, 0, none⟩ ∧ W1.heap[g]? = some (.cells (M.map (Value.int .u8)).toArray 5 (0, 0))) : St W1 A M (Fl M 0) wr := by
  rcases hA with ⟨h1, h2⟩ | ⟨g, h1, h2⟩
  · exact .inl ⟨h1, h2, hb⟩
  · exact .inr ⟨g, _, h1, grown_of_below hb _, by rw [hb.block g (Array.getElem?_eq_some_iff.1 h2).1]; exact h2, Fl.start M⟩
/-- One cell of the row, as it stands. -/
theorem St.at {W1 wr : World} {A : Option Addr} {M : List Int} {F : Array Value → Prop} (h : St W1 A M F wr) {k : Int} (h0 : 0 ≤ k) (h1 : k < M.length) :
    ∃ g cs, A = some ⟨g, 0, none⟩ ∧ W1.grownBy wr (some g) ∧ wr.heap[g]? = some (.cells cs 5 (0, 0)) ∧ F cs := by
  rcases h with ⟨_, rfl, _⟩ | h
  · simp at h1; omega
  · exact h
theorem rdOf_wasT (L : Nat → List Int) (n k : Nat) (hk : k < n) : rdOf ByteArray.empty (wasT L n) (k : Int) = strOfNums (L k) := by
  simp [rdOf, wasT, hk]

set_option maxHeartbeats 4000000 in
set_option maxRecDepth 100000 in
theorem Owned_calls (gl n : Nat) (V : Nat → Value) (L S : Nat → List Int) (w : World) (base : Nat) (h0 : 0 < n) (hn : n ≤ 1000)
    (hcells : ∀ k, k < n → w.cell? ⟨gl, k, none⟩ = some (V k)) (hown : ∀ k, k < n → RF base w (V k) (L k) (S k)) (hrange : ∀ k, k < n → ∀ x ∈ L k, 0 ≤ x ∧ x < 256)
    (hdist : ∀ i j, i < n → j < n → i ≠ j → (V i).ownBlock = none ∨ (V i).ownBlock ≠ (V j).ownBlock) (hgl : ∀ k, k < n → (V k).ownBlock ≠ some gl) :
    Calls Tryd.prog 25 #[.slice (some ⟨gl, 0, none⟩) n n] w fun e w' => e = .returned (.bool true) ∧ Below w.heap.size w w' := by
  have HC := Aside0.mk hcells; have HO := Aside0.mk hown; have HX := Aside0.mk hrange; have HD := Aside0.mk hdist; have HG := Aside0.mk hgl
  clear hcells hown hrange hdist hgl
  have HGL : Aside0 (gl < w.heap.size) := ⟨World.block_lt_of_cell? w _ (HC.out 0 h0)⟩
  go_enter Tryd.func25, Tryd.ntmps25
  go_wp2
  go_loopw [3, 4] (fun v vi wr => ∃ i : Int, vi = .int .i64 i ∧ 0 ≤ i ∧ i ≤ (n : Int) ∧ Aside0 (Kd.R Kd.string 9 wr w.heap.size (fun _ => True) v (wasT L i.toNat)) ∧ Aside0 (Below w.heap.size w wr)) (fun _ vi _ => ((n : Int) - intOf vi).toNat)
  case atStart => exact ⟨0, rfl, by omega, by omega, ⟨Kd.R_nil _ _ _ _ _⟩, ⟨Below.refl _ _⟩⟩
  case round =>
    obtain ⟨i, rfl, hi0, hi1, HS, HB⟩ := hrel
    by_cases hx : i < (n : Int)
    · have dx : decide (i < (n : Int)) = true := decide_eq_true hx
      have hk : i.toNat < n := by omega
      obtain ⟨A, c, hv⟩ := Kd.R_slice (HO.out i.toNat hk).R
      have hcell := (HB.out.cell (p := ⟨gl, i.toNat, none⟩) HGL.out).trans (HC.out i.toNat hk)
      have hCr := (Kd.R_reads' (hv ▸ (HO.out i.toNat hk).R)).2.2
      have hconv := Kd.C_string (P := Tryd.prog) Tryd.underlying23 Tryd.underlying5 Tryd.underlying9 (c := c) (Kd.C_below hCr HB.out)
      have hsu := wasT_succ L i.toNat
      have hle := wasT_len L i.toNat
      rw [hv] at hcell
      generalize strOfNums (L i.toNat) = x at hconv hsu
      generalize (L i.toNat).length = m at hcell hconv
      generalize wasT L i.toNat = ws at HS hsu hle
      rw [show i.toNat + 1 = (i + 1).toNat by omega] at hsu
      have HSU := Aside0.mk hsu; have HLE := Aside0.mk hle
      clear hsu hle hCr hv
      go_wp2_with (first | ((with_reducible refine gate_builtin (b := .append) (xs := #[.tmp 16, .tmp 22]) rfl ?_); at_builtin; refine Kd.R_append_rows Kd.string (w0 := w) w.heap.size rfl (.tmp 16) (.tmp 22) 41 9 (.string ByteArray.empty) 16 rfl Tryd.underlying41 infoSt rfl (by decide) (by omega) _ ws [x] _ _ _ (fun _ => True) (fun _ => False) rfl rfl ?aO ?aR (fun _ _ h => h) (fun _ h => h.elim) ?aF ?aB ?aS ?aL ?_; (case aR => exact (C_str1 wr x _)); (case aB => exact below_alloc HB.out _); (case aF => exact (fun _ _ => trivial)); (case aO => exact Kd.R_alloc HS.out _); (case aS => exact (below_size (below_alloc HB.out _))); (case aL => (have := HLE.out; omega)); intro v1 w1 ho hb hg hat; have HS1 := Aside0.mk ho; clear HB HS; have HB := Aside0.mk hb; clear ho hb hg hat))
      exact ⟨⟨i + 1, rfl, by omega, by omega, ⟨by rw [HSU.out]; exact HS1.out⟩, HB⟩, by simp only [intOf]; omega⟩
    · have dx : decide (i < (n : Int)) = false := decide_eq_false hx
      have hie : i.toNat = n := by omega
      rw [hie] at HS
      obtain ⟨gw, cw, hv, hgw, hgw2, _⟩ := Kd.R_form HS.out (by rw [wasT_len]; exact h0)
      rw [wasT_len] at hv
      subst hv
      have HW : Aside0 (∀ k : Nat, k < n → wr.cell? ⟨gw, k, none⟩ = some (.string (strOfNums (L k)))) := ⟨fun k hk => by
        have := (Kd.R_celln ByteArray.empty HS.out (k : Int) (by omega) (by omega)).1
        rw [Int.toNat_natCast, rdOf_wasT L n k hk] at this
        exact this⟩
      have HGW := Aside0.mk hgw; have HGW2 := Aside0.mk hgw2
      clear hgw hgw2 HS
      obtain ⟨W1, hW1⟩ : ∃ W, W = wr := ⟨_, rfl⟩
      subst hW1
      go_wp2
      go_loopw [5] (fun vi wr => ∃ i : Int, vi = .int .i64 i ∧ 0 ≤ i ∧ i ≤ (n : Int) ∧ Aside0 (Below W1.heap.size W1 wr)) (fun vi _ => ((n : Int) - intOf vi).toNat)
      case atStart => exact ⟨0, rfl, by omega, by omega, ⟨Below.refl _ _⟩⟩
      case round =>
        clear dx hx hi0 hi1 hie
        obtain ⟨i, rfl, hi0, hi1, HB2⟩ := hrel
        by_cases hx : i < (n : Int)
        · have dx : decide (i < (n : Int)) = true := decide_eq_true hx
          have hk : i.toNat < n := by omega
          obtain ⟨A, hvi, hA, hSr, hcm⟩ := RF.form (HO.out i.toNat hk)
          have HLT : Aside0 (w.heap.size ≤ W1.heap.size) := ⟨below_size HB.out⟩
          have hcell := (HB2.out.cell (p := ⟨gl, i.toNat, none⟩) (Nat.lt_of_lt_of_le HGL.out HLT.out)).trans ((HB.out.cell (p := ⟨gl, i.toNat, none⟩) HGL.out).trans (HC.out i.toNat hk))
          rw [hvi] at hcell
          have hMr : ∀ x ∈ L i.toNat ++ S i.toNat, 0 ≤ x ∧ x < 256 := fun x hx => (List.mem_append.1 hx).elim (HX.out i.toNat hk x) (hSr x)
          have hml : (L i.toNat).length ≤ (L i.toNat ++ S i.toNat).length := by simp
          have hA1 : (A = none ∧ L i.toNat ++ S i.toNat = []) ∨ ∃ g, A = some ⟨g, 0, none⟩ ∧ W1.heap[g]? = some (.cells ((L i.toNat ++ S i.toNat).map (Value.int .u8)).toArray 5 (0, 0)) := by
            rcases hA with hA | ⟨g, h1, h2⟩
            · exact .inl hA
            · exact .inr ⟨g, h1, by rw [HB.out.block g (Array.getElem?_eq_some_iff.1 h2).1]; exact h2⟩
          have HAlt : Aside0 (∀ b o, A = some ⟨b, o, none⟩ → b < w.heap.size) := ⟨fun b o e => by
            rcases hA with ⟨h1, _⟩ | ⟨g, h1, h2⟩
            · rw [h1] at e; cases e
            · rw [h1] at e; cases e; exact (Array.getElem?_eq_some_iff.1 h2).1⟩
          have HNgl : Aside0 (∀ o, A ≠ some ⟨gl, o, none⟩) := ⟨fun o e => HG.out i.toNat hk (by rw [hvi, e]; rfl)⟩
          have HNrow : Aside0 (∀ j, j < n → j ≠ i.toNat → ∀ b, (V j).ownBlock = some b → ∀ o, A ≠ some ⟨b, o, none⟩) := ⟨fun j hj hne b hb o e => by
            have hb2 : (V i.toNat).ownBlock = some b := by rw [hvi, e]; rfl
            rcases HD.out j i.toNat hj hk hne with h | h
            · rw [h] at hb; cases hb
            · exact h (hb.trans hb2.symm)⟩
          clear hvi hSr hA
          generalize L i.toNat ++ S i.toNat = M at hcell hMr hml hA1 hcm
          generalize (L i.toNat).length = m at hcell hml
          obtain ⟨c, hc⟩ : ∃ c, c = M.length := ⟨_, rfl⟩
          rw [← hc] at hcell hml hcm
          have hcut := cut_cap A m c hml
          have HM := Aside0.mk hMr; have HA1 := Aside0.mk hA1; have HCL := Aside0.mk hc
          clear hMr hA1 hc
          go_wp2
          go_quiet (fail)
          go_wp2
          go_loopw [7] (fun vk wr => ∃ k : Int, vk = .int .i64 k ∧ 0 ≤ k ∧ k ≤ (c : Int) ∧ Aside0 (St W1 A M (Fl M k) wr)) (fun vk _ => ((c : Int) - intOf vk).toNat)
          case atStart => exact ⟨0, rfl, by omega, by omega, ⟨(St.start HB2.out HA1.out).drewN _⟩⟩
          case round =>
            obtain ⟨k, rfl, hk0, hk1, HS⟩ := hrel
            by_cases hy : k < (c : Int)
            · have dy : decide (k < (c : Int)) = true := decide_eq_true hy
              obtain ⟨g, cs, rfl, hgr, hcs, hF⟩ := HS.out.at hk0 (by have := HCL.out; omega)
              have hcl : wr.cell? ⟨g, k.toNat, none⟩ = some (.int .u8 (rd M k)) := by
                rw [blk_cell hcs, hF.2 _ (by have := HCL.out; omega), if_neg (by omega), Int.toNat_of_nonneg hk0]
              have hfr := blk_frozen hcs k.toNat
              obtain ⟨x, hxx⟩ : ∃ x, x = rd M k := ⟨_, rfl⟩
              have hrr := rd_mem HM.out hk0 (by have := HCL.out; omega)
              rw [← hxx] at hcl hrr
              have hxo := xor255 x hrr.1 hrr.2
              have HF := Aside0.mk hF; have HGR := Aside0.mk hgr; have HCS := Aside0.mk hcs; have HXX := Aside0.mk hxx; have HXO := Aside0.mk hxo
              clear hF hgr hcs hxx hxo hrr HS
              go_wp2
              refine ⟨⟨k + 1, rfl, by omega, by omega, ⟨.inr ⟨g, _, rfl, grown_set HGR.out, blk_put HCS.out k.toNat _ rfl, ?_⟩⟩⟩, by simp only [intOf]; omega⟩
              rw [HXO.out, HXX.out]
              exact HF.out.step hk0 (by have := HCL.out; omega)
            · have dy : decide (k < (c : Int)) = false := decide_eq_false hy
              have hkc : k = (c : Int) := by omega
              subst hkc
              go_wp2
              go_loopw [8] (fun vj wr => ∃ j : Int, vj = .int .i64 j ∧ 0 ≤ j ∧ j ≤ (n : Int) ∧ Aside0 (St W1 A M (Fl M (c : Int)) wr)) (fun vj _ => ((n : Int) - intOf vj).toNat)
              case atStart => exact ⟨0, rfl, by omega, by omega, HS⟩
              case round =>
                clear HS
                obtain ⟨j, rfl, hj0, hj1, HS⟩ := hrel
                by_cases hz : j < (n : Int)
                · have dz : decide (j < (n : Int)) = true := decide_eq_true hz
                  by_cases hji : j = i
                  · subst hji
                    have e1 : decide (j = j) = true := decide_eq_true rfl
                    have e2 : decide (j ≠ j) = false := decide_eq_false (by simp)
                    have e3 : (j != j) = false := by simp
                    have e4 : (j == j) = true := by simp
                    go_wp2
                    go_quiet (fail)
                    go_wp2
                    exact ⟨⟨j + 1, rfl, by omega, by omega, ⟨HS.out.drewN _⟩⟩, by simp only [intOf]; omega⟩
                  · have e1 : decide (j = i) = false := decide_eq_false hji
                    have e2 : decide (j ≠ i) = true := decide_eq_true hji
                    have e3 : (j != i) = true := by simp [hji]
                    have e4 : (j == i) = false := by simp [hji]
                    have hjk : j.toNat < n := by omega
                    obtain ⟨B, b, hvj⟩ := Kd.R_slice (HO.out j.toNat hjk).R
                    have hcj : wr.cell? ⟨gl, j.toNat, none⟩ = some (V j.toNat) := by
                      have h1 := HS.out.far (b := gl) (Nat.lt_of_lt_of_le HGL.out HLT.out) HNgl.out
                      rw [World.cell?_of_block (a := ⟨gl, j.toNat, none⟩) h1]
                      exact (HB.out.cell (p := ⟨gl, j.toNat, none⟩) HGL.out).trans (HC.out j.toNat hjk)
                    have hcw : wr.cell? ⟨gw, j.toNat, none⟩ = some (.string (strOfNums (L j.toNat))) := by
                      have h1 := HS.out.far (b := gw) HGW2.out (fun o e => by have := HAlt.out _ _ e; have := HGW.out; omega)
                      rw [World.cell?_of_block (a := ⟨gw, j.toNat, none⟩) h1]
                      exact HW.out j.toNat hjk
                    have hrf := ((HO.out j.toNat hjk).below HB.out).move (w1 := wr) (fun b hb hlt => HS.out.far hlt (HNrow.out j.toNat hjk (by omega) b hb))
                    have hCr := (Kd.R_reads' (hvj ▸ hrf.R)).2.2
                    have hconv := fun q => Kd.C_string (P := Tryd.prog) Tryd.underlying23 Tryd.underlying5 Tryd.underlying9 (c := b) (Kd.C_drewN hCr q)
                    rw [hvj] at hcj
                    clear hrf hCr hvj
                    generalize strOfNums (L j.toNat) = x at hcw hconv
                    generalize (L j.toNat).length = mj at hcj hconv
                    have e6 : decide (x = x) = true := by simp
                    go_wp2
                    go_quiet (fail)
                    go_wp2
                    exact ⟨⟨j + 1, rfl, by omega, by omega, ⟨HS.out.drewN _⟩⟩, by simp only [intOf]; omega⟩
                · have dz : decide (j < (n : Int)) = false := decide_eq_false hz
                  go_wp2
                  go_loopw [9] (fun vk wr => ∃ k : Int, vk = .int .i64 k ∧ 0 ≤ k ∧ k ≤ (c : Int) ∧ Aside0 (St W1 A M (Bk M k) wr)) (fun vk _ => ((c : Int) - intOf vk).toNat)
                  case atStart => exact ⟨0, rfl, by omega, by omega, ⟨HS.out.imp (fun cs h => Bk.start h (by have := HCL.out; omega))⟩⟩
                  case round =>
                    clear HS dy hy hk0 hk1
                    obtain ⟨k, rfl, hk0, hk1, HS⟩ := hrel
                    by_cases hy : k < (c : Int)
                    · have dy : decide (k < (c : Int)) = true := decide_eq_true hy
                      obtain ⟨g, cs, rfl, hgr, hcs, hF⟩ := HS.out.at hk0 (by have := HCL.out; omega)
                      have hcl : wr.cell? ⟨g, k.toNat, none⟩ = some (.int .u8 (255 - rd M k)) := by
                        rw [blk_cell hcs, hF.2 _ (by have := HCL.out; omega), if_neg (by omega), Int.toNat_of_nonneg hk0]
                      have hfr := blk_frozen hcs k.toNat
                      have hrr := rd_mem HM.out hk0 (by have := HCL.out; omega)
                      have hxo := xor255 (255 - rd M k) (by omega) (by omega)
                      rw [show 255 - (255 - rd M k) = rd M k by omega] at hxo
                      obtain ⟨y, hyy⟩ : ∃ y, y = 255 - rd M k := ⟨_, rfl⟩
                      rw [← hyy] at hcl hxo
                      have HF := Aside0.mk hF; have HGR := Aside0.mk hgr; have HCS := Aside0.mk hcs; have HXO := Aside0.mk hxo
                      clear hF hgr hcs hyy hxo hrr HS
                      go_wp2
                      refine ⟨⟨k + 1, rfl, by omega, by omega, ⟨.inr ⟨g, _, rfl, grown_set HGR.out, blk_put HCS.out k.toNat _ rfl, ?_⟩⟩⟩, by simp only [intOf]; omega⟩
                      rw [HXO.out]
                      exact HF.out.step hk0 (by have := HCL.out; omega)
                    · have dy : decide (k < (c : Int)) = false := decide_eq_false hy
                      go_wp2
                      exact ⟨⟨i + 1, rfl, by omega, by omega, ⟨HS.out.back (fun cs h => h.stop (by have := HCL.out; omega)) (fun g e => by
                        rcases HA1.out with ⟨h1, _⟩ | ⟨g2, h1, h2⟩
                        · rw [h1] at e; cases e
                        · rw [h1] at e; cases e; exact h2)⟩⟩, by simp only [intOf]; omega⟩
        · have dx : decide (i < (n : Int)) = false := decide_eq_false hx
          go_wp2
          go_ret
          exact ⟨rfl, below_then HB.out (below_size HB.out) HB2.out⟩
end Go.Proofs.YtcgjaobbjeagoaaDoor
