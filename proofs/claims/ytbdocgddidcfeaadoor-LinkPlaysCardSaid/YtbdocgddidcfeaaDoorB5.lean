/- Taken together by a program of mine: what the proof names, out of the texts of this seat (its words as the print wrote them), part 5. -/
import Derived.Test.YtbdocgddidcfeaaDoorB4
import Derived.Deep.RegionLaw
import Derived.Deep.RegionHeld3
import Derived.Deep.CutBlock
namespace Go.Proofs.YtbdocgddidcfeaaDoor
open Go.RowKit Go.Proofs.YtbdocgddidcfeaaDoorW.PrintWords Go.Proofs.YtbdocgddidcfeaaDoorW.PrintLast Go.Proofs.YtbdocgddidcfeaaDoorW.PrintMore
set_option linter.unusedVariables false
set_option linter.unusedSimpArgs false
set_option maxHeartbeats 8000000 in
set_option maxRecDepth 100000 in
theorem Owned_callsC (gl n cp : Nat) (V : Nat → Value) (L S : Nat → List Int) (w : World) (base : Nat) (h0 : 0 < n) (hn : n ≤ 1000)
    (hcells : ∀ k, k < n → w.cell? ⟨gl, k, none⟩ = some (V k)) (hown : ∀ k, k < n → RF base w (V k) (L k) (S k)) (hrange : ∀ k, k < n → ∀ x ∈ L k, 0 ≤ x ∧ x < 256)
    (hdist : ∀ i j, i < n → j < n → i ≠ j → (V i).ownBlock = none ∨ (V i).ownBlock ≠ (V j).ownBlock) (hgl : ∀ k, k < n → (V k).ownBlock ≠ some gl) :
    Calls Tryd.prog 34 #[.slice (some ⟨gl, 0, none⟩) n cp] w fun e w' => e = .returned (.bool true) ∧ Below w.heap.size w w' := by
  have HC := Aside0.mk hcells; have HO := Aside0.mk hown; have HX := Aside0.mk hrange; have HD := Aside0.mk hdist; have HG := Aside0.mk hgl
  clear hcells hown hrange hdist hgl
  have HGL : Aside0 (gl < w.heap.size) := ⟨World.block_lt_of_cell? w _ (HC.out 0 h0)⟩
  go_enter Tryd.func34, Tryd.ntmps34
  go_wp2
  go_loopw [3, 4] (fun v vi wr => ∃ i : Int, vi = .int .i64 i ∧ 0 ≤ i ∧ i ≤ (n : Int) ∧ Aside0 (Kd.R Kd.string 9 wr w.heap.size (fun _ => True) v (wasT L i.toNat)) ∧ Aside0 (Below w.heap.size w wr)) (fun _ vi _ => ((n : Int) - intOf vi).toNat)
  case atStart => exact ⟨0, rfl, by omega, by omega, ⟨Kd.R_nil _ _ _ _ _⟩, ⟨Below.refl _ _⟩⟩
  case round =>
    obtain ⟨i, rfl, hi0, hi1, HS, HB⟩ := hrel
    by_cases hx : i < (n : Int)
    · have dx : decide (i < (n : Int)) = true := decide_eq_true hx
      have hk : i.toNat < n := by omega
      obtain ⟨A, c, hv⟩ := Kd.R_slice (HO.out i.toNat hk).R
      have hcell := (HB.out.cell (p := ⟨gl, i.toNat, none⟩) HGL.out).trans (HC.out i.toNat hk)
      have hCr := (Kd.R_reads' (hv ▸ (HO.out i.toNat hk).R)).2.2
      have hconv := Kd.C_string (P := Tryd.prog) Tryd.underlying30 Tryd.underlying5 Tryd.underlying9 (c := c) (Kd.C_below hCr HB.out)
      have hsu := wasT_succ L i.toNat
      have hle := wasT_len L i.toNat
      rw [hv] at hcell
      generalize strOfNums (L i.toNat) = x at hconv hsu
      generalize (L i.toNat).length = m at hcell hconv
      generalize wasT L i.toNat = ws at HS hsu hle
      rw [show i.toNat + 1 = (i + 1).toNat by omega] at hsu
      have HSU := Aside0.mk hsu; have HLE := Aside0.mk hle
      clear hsu hle hCr hv
      go_wp2_with (first | ((with_reducible refine gate_builtin (b := .append) (xs := #[.tmp 16, .tmp 22]) rfl ?_); at_builtin; refine Kd.R_append_rows Kd.string (w0 := w) w.heap.size rfl (.tmp 16) (.tmp 22) 74 9 (.string ByteArray.empty) 16 rfl Tryd.underlying74 infoSt rfl (by decide) (by omega) _ ws [x] _ _ _ (fun _ => True) (fun _ => False) rfl rfl ?aO ?aR (fun _ _ h => h) (fun _ h => h.elim) ?aF ?aB ?aS ?aL ?_; (case aR => exact (C_str1 wr x _)); (case aB => exact below_alloc HB.out _); (case aF => exact (fun _ _ => trivial)); (case aO => exact Kd.R_alloc HS.out _); (case aS => exact (below_size (below_alloc HB.out _))); (case aL => (have := HLE.out; omega)); intro v1 w1 ho hb hg hat; have HS1 := Aside0.mk ho; clear HB HS; have HB := Aside0.mk hb; clear ho hb hg hat))
      exact ⟨⟨i + 1, rfl, by omega, by omega, ⟨by rw [HSU.out]; exact HS1.out⟩, HB⟩, by simp only [intOf]; omega⟩
    · have dx : decide (i < (n : Int)) = false := decide_eq_false hx
      have hie : i.toNat = n := by omega
      rw [hie] at HS
      obtain ⟨gw, cw, hv, hgw, hgw2, _⟩ := Kd.R_form HS.out (by rw [wasT_len]; exact h0)
      rw [wasT_len] at hv
      subst hv
      have HW : Aside0 (∀ k : Nat, k < n → wr.cell? ⟨gw, k, none⟩ = some (.string (strOfNums (L k)))) := ⟨fun k hk => by
        have := (Kd.R_celln ByteArray.empty HS.out (k : Int) (by omega) (by omega)).1
        rw [Int.toNat_natCast, rdOf_wasT L n k hk] at this
        exact this⟩
      have HGW := Aside0.mk hgw; have HGW2 := Aside0.mk hgw2
      clear hgw hgw2 HS
      obtain ⟨W1, hW1⟩ : ∃ W, W = wr := ⟨_, rfl⟩
      subst hW1
      go_wp2
      go_loopw [5] (fun vi wr => ∃ i : Int, vi = .int .i64 i ∧ 0 ≤ i ∧ i ≤ (n : Int) ∧ Aside0 (Below W1.heap.size W1 wr)) (fun vi _ => ((n : Int) - intOf vi).toNat)
      case atStart => exact ⟨0, rfl, by omega, by omega, ⟨Below.refl _ _⟩⟩
      case round =>
        clear dx hx hi0 hi1 hie
        obtain ⟨i, rfl, hi0, hi1, HB2⟩ := hrel
        by_cases hx : i < (n : Int)
        · have dx : decide (i < (n : Int)) = true := decide_eq_true hx
          have hk : i.toNat < n := by omega
          obtain ⟨A, hvi, hA, hSr, hcm⟩ := RF.form (HO.out i.toNat hk)
          have HLT : Aside0 (w.heap.size ≤ W1.heap.size) := ⟨below_size HB.out⟩
          have hcell := (HB2.out.cell (p := ⟨gl, i.toNat, none⟩) (Nat.lt_of_lt_of_le HGL.out HLT.out)).trans ((HB.out.cell (p := ⟨gl, i.toNat, none⟩) HGL.out).trans (HC.out i.toNat hk))
          rw [hvi] at hcell
          have hMr : ∀ x ∈ L i.toNat ++ S i.toNat, 0 ≤ x ∧ x < 256 := fun x hx => (List.mem_append.1 hx).elim (HX.out i.toNat hk x) (hSr x)
          have hml : (L i.toNat).length ≤ (L i.toNat ++ S i.toNat).length := by simp
          have hA1 : (A = none ∧ L i.toNat ++ S i.toNat = []) ∨ ∃ g, A = some ⟨g, 0, none⟩ ∧ W1.heap[g]? = some (.cells ((L i.toNat ++ S i.toNat).map (Value.int .u8)).toArray 5 (0, 0)) := by
            rcases hA with hA | ⟨g, h1, h2⟩
            · exact .inl hA
            · exact .inr ⟨g, h1, by rw [HB.out.block g (Array.getElem?_eq_some_iff.1 h2).1]; exact h2⟩
          have HAlt : Aside0 (∀ b o, A = some ⟨b, o, none⟩ → b < w.heap.size) := ⟨fun b o e => by
            rcases hA with ⟨h1, _⟩ | ⟨g, h1, h2⟩
            · rw [h1] at e; cases e
            · rw [h1] at e; cases e; exact (Array.getElem?_eq_some_iff.1 h2).1⟩
          have HNgl : Aside0 (∀ o, A ≠ some ⟨gl, o, none⟩) := ⟨fun o e => HG.out i.toNat hk (by rw [hvi, e]; rfl)⟩
          have HNrow : Aside0 (∀ j, j < n → j ≠ i.toNat → ∀ b, (V j).ownBlock = some b → ∀ o, A ≠ some ⟨b, o, none⟩) := ⟨fun j hj hne b hb o e => by
            have hb2 : (V i.toNat).ownBlock = some b := by rw [hvi, e]; rfl
            rcases HD.out j i.toNat hj hk hne with h | h
            · rw [h] at hb; cases hb
            · exact h (hb.trans hb2.symm)⟩
          clear hvi hSr hA
          generalize L i.toNat ++ S i.toNat = M at hcell hMr hml hA1 hcm
          generalize (L i.toNat).length = m at hcell hml
          obtain ⟨c, hc⟩ : ∃ c, c = M.length := ⟨_, rfl⟩
          rw [← hc] at hcell hml hcm
          have hcut := cut_cap A m c hml
          have HM := Aside0.mk hMr; have HA1 := Aside0.mk hA1; have HCL := Aside0.mk hc
          clear hMr hA1 hc
          go_wp2
          go_quiet (fail)
          go_wp2
          go_loopw [7] (fun vk wr => ∃ k : Int, vk = .int .i64 k ∧ 0 ≤ k ∧ k ≤ (c : Int) ∧ Aside0 (St W1 A M (Fl M k) wr)) (fun vk _ => ((c : Int) - intOf vk).toNat)
          case atStart => exact ⟨0, rfl, by omega, by omega, ⟨(St.start HB2.out HA1.out).drewN _⟩⟩
          case round =>
            obtain ⟨k, rfl, hk0, hk1, HS⟩ := hrel
            by_cases hy : k < (c : Int)
            · have dy : decide (k < (c : Int)) = true := decide_eq_true hy
              obtain ⟨g, cs, rfl, hgr, hcs, hF⟩ := HS.out.at hk0 (by have := HCL.out; omega)
              have hcl : wr.cell? ⟨g, k.toNat, none⟩ = some (.int .u8 (rd M k)) := by
                rw [blk_cell hcs, hF.2 _ (by have := HCL.out; omega), if_neg (by omega), Int.toNat_of_nonneg hk0]
              have hfr := blk_frozen hcs k.toNat
              obtain ⟨x, hxx⟩ : ∃ x, x = rd M k := ⟨_, rfl⟩
              have hrr := rd_mem HM.out hk0 (by have := HCL.out; omega)
              rw [← hxx] at hcl hrr
              have hxo := xor255 x hrr.1 hrr.2
              have HF := Aside0.mk hF; have HGR := Aside0.mk hgr; have HCS := Aside0.mk hcs; have HXX := Aside0.mk hxx; have HXO := Aside0.mk hxo
              clear hF hgr hcs hxx hxo hrr HS
              go_wp2
              refine ⟨⟨k + 1, rfl, by omega, by omega, ⟨.inr ⟨g, _, rfl, grown_set HGR.out, blk_put HCS.out k.toNat _ rfl, ?_⟩⟩⟩, by simp only [intOf]; omega⟩
              rw [HXO.out, HXX.out]
              exact HF.out.step hk0 (by have := HCL.out; omega)
            · have dy : decide (k < (c : Int)) = false := decide_eq_false hy
              have hkc : k = (c : Int) := by omega
              subst hkc
              go_wp2
              go_loopw [8] (fun vj wr => ∃ j : Int, vj = .int .i64 j ∧ 0 ≤ j ∧ j ≤ (n : Int) ∧ Aside0 (St W1 A M (Fl M (c : Int)) wr)) (fun vj _ => ((n : Int) - intOf vj).toNat)
              case atStart => exact ⟨0, rfl, by omega, by omega, HS⟩
              case round =>
                clear HS
                obtain ⟨j, rfl, hj0, hj1, HS⟩ := hrel
                by_cases hz : j < (n : Int)
                · have dz : decide (j < (n : Int)) = true := decide_eq_true hz
                  by_cases hji : j = i
                  · subst hji
                    have e1 : decide (j = j) = true := decide_eq_true rfl
                    have e2 : decide (j ≠ j) = false := decide_eq_false (by simp)
                    have e3 : (j != j) = false := by simp
                    have e4 : (j == j) = true := by simp
                    go_wp2
                    go_quiet (fail)
                    go_wp2
                    exact ⟨⟨j + 1, rfl, by omega, by omega, ⟨HS.out.drewN _⟩⟩, by simp only [intOf]; omega⟩
                  · have e1 : decide (j = i) = false := decide_eq_false hji
                    have e2 : decide (j ≠ i) = true := decide_eq_true hji
                    have e3 : (j != i) = true := by simp [hji]
                    have e4 : (j == i) = false := by simp [hji]
                    have hjk : j.toNat < n := by omega
                    obtain ⟨B, b, hvj⟩ := Kd.R_slice (HO.out j.toNat hjk).R
                    have hcj : wr.cell? ⟨gl, j.toNat, none⟩ = some (V j.toNat) := by
                      have h1 := HS.out.far (b := gl) (Nat.lt_of_lt_of_le HGL.out HLT.out) HNgl.out
                      rw [World.cell?_of_block (a := ⟨gl, j.toNat, none⟩) h1]
                      exact (HB.out.cell (p := ⟨gl, j.toNat, none⟩) HGL.out).trans (HC.out j.toNat hjk)
                    have hcw : wr.cell? ⟨gw, j.toNat, none⟩ = some (.string (strOfNums (L j.toNat))) := by
                      have h1 := HS.out.far (b := gw) HGW2.out (fun o e => by have := HAlt.out _ _ e; have := HGW.out; omega)
                      rw [World.cell?_of_block (a := ⟨gw, j.toNat, none⟩) h1]
                      exact HW.out j.toNat hjk
                    have hrf := ((HO.out j.toNat hjk).below HB.out).move (w1 := wr) (fun b hb hlt => HS.out.far hlt (HNrow.out j.toNat hjk (by omega) b hb))
                    have hCr := (Kd.R_reads' (hvj ▸ hrf.R)).2.2
                    have hconv := fun q => Kd.C_string (P := Tryd.prog) Tryd.underlying30 Tryd.underlying5 Tryd.underlying9 (c := b) (Kd.C_drewN hCr q)
                    rw [hvj] at hcj
                    clear hrf hCr hvj
                    generalize strOfNums (L j.toNat) = x at hcw hconv
                    generalize (L j.toNat).length = mj at hcj hconv
                    have e6 : decide (x = x) = true := by simp
                    go_wp2
                    go_quiet (fail)
                    go_wp2
                    exact ⟨⟨j + 1, rfl, by omega, by omega, ⟨HS.out.drewN _⟩⟩, by simp only [intOf]; omega⟩
                · have dz : decide (j < (n : Int)) = false := decide_eq_false hz
                  go_wp2
                  go_loopw [9] (fun vk wr => ∃ k : Int, vk = .int .i64 k ∧ 0 ≤ k ∧ k ≤ (c : Int) ∧ Aside0 (St W1 A M (Bk M k) wr)) (fun vk _ => ((c : Int) - intOf vk).toNat)
                  case atStart => exact ⟨0, rfl, by omega, by omega, ⟨HS.out.imp (fun cs h => Bk.start h (by have := HCL.out; omega))⟩⟩
                  case round =>
                    clear HS dy hy hk0 hk1
                    obtain ⟨k, rfl, hk0, hk1, HS⟩ := hrel
                    by_cases hy : k < (c : Int)
                    · have dy : decide (k < (c : Int)) = true := decide_eq_true hy
                      obtain ⟨g, cs, rfl, hgr, hcs, hF⟩ := HS.out.at hk0 (by have := HCL.out; omega)
                      have hcl : wr.cell? ⟨g, k.toNat, none⟩ = some (.int .u8 (255 - rd M k)) := by
                        rw [blk_cell hcs, hF.2 _ (by have := HCL.out; omega), if_neg (by omega), Int.toNat_of_nonneg hk0]
                      have hfr := blk_frozen hcs k.toNat
                      have hrr := rd_mem HM.out hk0 (by have := HCL.out; omega)
                      have hxo := xor255 (255 - rd M k) (by omega) (by omega)
                      rw [show 255 - (255 - rd M k) = rd M k by omega] at hxo
                      obtain ⟨y, hyy⟩ : ∃ y, y = 255 - rd M k := ⟨_, rfl⟩
                      rw [← hyy] at hcl hxo
                      have HF := Aside0.mk hF; have HGR := Aside0.mk hgr; have HCS := Aside0.mk hcs; have HXO := Aside0.mk hxo
                      clear hF hgr hcs hyy hxo hrr HS
                      go_wp2
                      refine ⟨⟨k + 1, rfl, by omega, by omega, ⟨.inr ⟨g, _, rfl, grown_set HGR.out, blk_put HCS.out k.toNat _ rfl, ?_⟩⟩⟩, by simp only [intOf]; omega⟩
                      rw [HXO.out]
                      exact HF.out.step hk0 (by have := HCL.out; omega)
                    · have dy : decide (k < (c : Int)) = false := decide_eq_false hy
                      go_wp2
                      exact ⟨⟨i + 1, rfl, by omega, by omega, ⟨HS.out.back (fun cs h => h.stop (by have := HCL.out; omega)) (fun g e => by
                        rcases HA1.out with ⟨h1, _⟩ | ⟨g2, h1, h2⟩
                        · rw [h1] at e; cases e
                        · rw [h1] at e; cases e; exact h2)⟩⟩, by simp only [intOf]; omega⟩
        · have dx : decide (i < (n : Int)) = false := decide_eq_false hx
          go_wp2
          go_ret
          exact ⟨rfl, below_then HB.out (below_size HB.out) HB2.out⟩
theorem Owned_nil (w : World) : Calls Tryd.prog 34 #[.slice none 0 0] w fun e w' => e = .returned (.bool true) ∧ Below w.heap.size w w' := by
  go_enter Tryd.func34, Tryd.ntmps34
  go_wp2_with fail
  go_loop [4] (fun vi => vi = .int .i64 0) (fun vi => 0)
  case atStart => rfl
  case round =>
    subst hrel
    go_wp2_with fail
    go_loop [5] (fun vi => vi = .int .i64 0) (fun vi => 0)
    case atStart => rfl
    case round =>
      subst hrel
      go_wp2
      go_ret
      exact ⟨rfl, Below.refl _ _⟩
end Go.Proofs.YtbdocgddidcfeaaDoor
namespace Go.Proofs.YtbdocgddidcfeaaDoor
open Go.RowKit Go.Proofs.YtbdocgddidcfeaaDoorW.PrintWords Go.Proofs.YtbdocgddidcfeaaDoorW.PrintLast Go.Proofs.YtbdocgddidcfeaaDoorW.PrintMore
set_option linter.unusedVariables false
set_option linter.unusedSimpArgs false
open PLinkPlays
def trunc (W : World) (G : Nat) : World := { W with heap := W.heap.extract 0 G }
theorem trunc_size {W : World} {G : Nat} (hG : G ≤ W.heap.size) : (trunc W G).heap.size = G := by
  show (W.heap.extract 0 G).size = G
  rw [Array.size_extract]; omega
theorem trunc_get {W : World} {G k : Nat} (hG : G ≤ W.heap.size) (hk : k < G) : (trunc W G).heap[k]? = W.heap[k]? := by
  show (W.heap.extract 0 G)[k]? = _
  rw [Array.getElem?_extract]
  simp only [Nat.sub_zero, Nat.zero_add]
  rw [if_pos (by omega)]
theorem trunc_below {W : World} {G : Nat} (hG : G ≤ W.heap.size) : Below (trunc W G).heap.size (trunc W G) W :=
  ⟨rfl, rfl, rfl, by rw [trunc_size hG]; exact hG, fun k hk => by rw [trunc_size hG] at hk; exact (trunc_get hG hk).symm⟩
theorem trunc_keeps {w W : World} {G : Nat} {L : List Nat} (hG : G ≤ W.heap.size) (hw : w.heap.size ≤ G) (h : Keeps w W L) : Keeps w (trunc W G) L :=
  ⟨h.1, h.2.1, h.2.2.1, by rw [trunc_size hG]; exact hw, fun k hk hn => (trunc_get hG (by omega)).trans (h.2.2.2.2 k hk hn)⟩
def ubs (E : Nat) (ws xs : Nat → List Nat) (v : Nat → Value) : List Nat := (List.range 7).flatMap (ub E ws xs v)
theorem mem_ubs {E : Nat} {ws xs : Nat → List Nat} {v : Nat → Value} {k : Nat} : k ∈ ubs E ws xs v ↔ ∃ a, a < 7 ∧ k ∈ ub E ws xs v a := by
  unfold ubs
  rw [List.mem_flatMap]
  simp only [List.mem_range]
variable {ok : Nat → Prop} {w W W' : World} {L0 : List Nat} {E : Nat} {g h : Nat → Nat} {s r : Nat → LS} {ws xs : Nat → List Nat} {v : Nat → Value} {T : Nat → List Tri} {D : Nat → List (List Int)} {m : Nat}
theorem PW.root (P : PW ok w L0 E g h s r ws xs v T D m W) : PW ok W (ubs E ws xs v) E g h s r ws xs v T D m W :=
  ⟨P.blk, P.link, P.ref, P.rows, P.dlen, P.dg, P.apart, Keeps.refl _ _, fun a ha k hk => .inl (mem_ubs.2 ⟨a, ha, hk⟩), P.small⟩
theorem PW.unroot {s0 r0 : Nat → LS} {ws0 xs0 : Nat → List Nat} {v0 : Nat → Value} {T0 : Nat → List Tri} {D0 : Nat → List (List Int)} {m0 : Nat} {ok0 : Nat → Prop} (P0 : PW ok0 w L0 E g h s0 r0 ws0 xs0 v0 T0 D0 m0 W) (P : PW ok W (ubs E ws0 xs0 v0) E g h s r ws xs v T D m W') : PW ok w L0 E g h s r ws xs v T D m W' := by
  have hsub : ∀ k ∈ ubs E ws0 xs0 v0, k ∈ L0 ∨ w.heap.size ≤ k := fun k hk => by
    obtain ⟨a, ha, hka⟩ := mem_ubs.1 hk
    exact P0.own a ha k hka
  refine ⟨P.blk, P.link, P.ref, P.rows, P.dlen, P.dg, P.apart, P0.kept.trans P.kept hsub, fun a ha k hk => ?_, P.small⟩
  rcases P.own a ha k hk with q | q
  · exact hsub k q
  · exact .inr (Nat.le_trans P0.kept.2.2.2.1 q)
theorem PW.cells (P : PW ok w L0 E g h s r ws xs v T D m W) : W.cell? ⟨E, 0, none⟩ = some (.pointer (some ⟨g 0, 0, none⟩)) ∧ W.cell? ⟨E, 1, none⟩ = some (.pointer (some ⟨g 1, 0, none⟩)) ∧ W.cell? ⟨E, 2, none⟩ = some (.pointer (some ⟨h 0, 0, none⟩)) ∧ W.cell? ⟨E, 3, none⟩ = some (.pointer (some ⟨h 1, 0, none⟩)) ∧ W.cell? ⟨E, 4, none⟩ = some (v 0) ∧ W.cell? ⟨E, 5, none⟩ = some (v 1) ∧ ∀ j, W.frozen? ⟨E, j, none⟩ = false :=
  ⟨(blk_cell P.blk 0).trans rfl, (blk_cell P.blk 1).trans rfl, (blk_cell P.blk 2).trans rfl, (blk_cell P.blk 3).trans rfl, (blk_cell P.blk 4).trans rfl, (blk_cell P.blk 5).trans rfl, fun j => blk_frozen P.blk j⟩
theorem PW.sent' (P : PW ok w L0 E g h s r ws xs v T D m W) {i : Nat} (hi : i < 2) {W1 : World} {v1 : Value} {Tn : List Tri} {Dn : List (List Int)} (hg : W.grownBy W1 (v i).ownBlock) (ho : W1.ownsRow 0 30 1 v1 (T i ++ Tn).length ((T i ++ Tn).map triV))
    (hat : ∀ b, v1.ownBlock = some b → (v i).ownBlock = some b ∨ W.heap.size ≤ b) (hdl : Dn.length = Tn.length) (hdg : ∀ (j : Nat) (t : Tri) (d : List Int), Tn[j]? = some t → Dn[j]? = some d → RS 0 W (triV t) d ∧ (∀ b, (triV t).ownBlock = some b → ok b) ∧ (∀ x ∈ d, 0 ≤ x ∧ x < 256) ∧ d.length ≤ 300) (hsm : (T i ++ Tn).length ≤ 10 * m) :
    PW ok w L0 E g h s r ws xs (upd v i v1) (upd T i (T i ++ Tn)) (upd D i (D i ++ Dn)) m (W1.setCell ⟨E, 4 + i, none⟩ v1) := by
  have hEl := P.lt 6 (by decide) E (by rw [ub_E]; simp)
  have hvE : (v i).ownBlock ≠ some E := fun e => P.apart (i + 4) 6 (by omega) (by decide) (by omega) E (by rw [ub_v hi, e]; simp) (by rw [ub_E]; simp)
  have hv1E : v1.ownBlock ≠ some E := fun e => by
    rcases hat E e with q | q
    · exact hvE q
    · omega
  have hk1 : Keeps W W1 (ub E ws xs v (i + 4)) := Keeps.of_grown' hg (fun b hb => by rw [ub_v hi, hb]; simp)
  obtain ⟨o1, o2⟩ := P.others (a := i + 4) (by omega) hk1
  have hE1 : W1.heap[E]? = some (.cells (endC g h v) 46 (0, 0)) := (o1 6 (by decide) (by omega) E (by rw [ub_E]; simp)).trans P.blk
  have far : ∀ k, k ≠ E → (W1.setCell ⟨E, 4 + i, none⟩ v1).heap[k]? = W1.heap[k]? := fun k hk => Below.heap_setCell W1 ⟨E, 4 + i, none⟩ v1 k hk
  have o1' : ∀ b, b < 6 → b ≠ i + 4 → ∀ k ∈ ub E ws xs v b, (W1.setCell ⟨E, 4 + i, none⟩ v1).heap[k]? = W.heap[k]? := fun b hb hne k hk => (far k (fun e => P.apart b 6 (by omega) (by decide) (by omega) k hk (by rw [ub_E, e]; simp))).trans (o1 b (by omega) hne k hk)
  have o2' : ∀ (k : Nat) (cs : Array Value), W.heap[k]? = some (Obj.cells cs 5 (0, 0)) → (W1.setCell ⟨E, 4 + i, none⟩ v1).heap[k]? = W.heap[k]? := fun k cs hc => (far k (fun e => by rw [e, P.blk] at hc; injection hc with hc; injection hc with _ hc; cases hc)).trans (o2 k cs hc)
  have hub : ∀ a, a ≠ i + 4 → ub E ws xs (upd v i v1) a = ub E ws xs v a := fun a ha => by
    unfold ub
    split
    · rfl
    · split
      · rfl
      · split
        · rw [upd_ne _ _ (by omega)]
        · rfl
  have hui : ub E ws xs (upd v i v1) (i + 4) = v1.ownBlock.toList := by rw [ub_v hi, upd_same]
  have hn : ∀ k ∈ v1.ownBlock.toList, k ∈ ub E ws xs v (i + 4) ∨ W.heap.size ≤ k := fun k hk => by
    rw [Option.mem_toList] at hk
    rcases hat k hk with q | q
    · exact .inl (by rw [ub_v hi, q]; simp)
    · exact .inr q
  have hwsz := P.kept.2.2.2.1
  refine ⟨?_, fun j hj => (P.link j hj).frame (fun k hk2 => o1' j (by omega) (by omega) k (by rw [ub_ws hj]; exact hk2)) (fun b cs _ => o2' b cs), fun j hj => (P.ref j hj).keep (fun k hk2 => o1' (j + 2) (by omega) (by omega) k (by rw [ub_xs hj]; exact hk2)), fun j hj => ?_, fun j hj => ?_, fun j q t d hj ht hd => ?_, fun a b ha hb hne k hka hkb => ?_, ?_, fun a ha k hka => ?_, fun j hj => ?_⟩
  · rw [blk_put hE1 (4 + i) v1 rfl]
    refine congrArg some ?_
    have hi2 : i = 0 ∨ i = 1 := by omega
    rcases hi2 with rfl | rfl <;> rfl
  · by_cases e : j = i
    · subst e
      rw [upd_same, upd_same]
      exact own_move ho (fun k hk => far k (fun e => hv1E (by rw [hk, e])))
    · rw [upd_ne _ _ e, upd_ne _ _ e]
      exact own_move (P.rows j hj) (fun k hk2 => o1' (j + 4) (by omega) (by omega) k (by rw [ub_v hj, hk2]; simp))
  · by_cases e : j = i
    · subst e; rw [upd_same, upd_same, List.length_append, List.length_append, hdl, P.dlen j hj]
    · rw [upd_ne _ _ e, upd_ne _ _ e]; exact P.dlen j hj
  · have fin : ∀ {t : Tri} {d : List Int}, RS 0 W (triV t) d → RS 0 (W1.setCell ⟨E, 4 + i, none⟩ v1) (triV t) d := fun h_ => h_.u8_move (fun k cs _ => o2' k cs)
    by_cases e : j = i
    · subst e
      rw [upd_same] at ht hd
      have hl := P.dlen j hj
      by_cases hq : q < (T j).length
      · rw [List.getElem?_append_left hq] at ht
        rw [List.getElem?_append_left (by omega)] at hd
        obtain ⟨q1, q2⟩ := P.dg j q t d hj ht hd
        exact ⟨fin q1, q2⟩
      · rw [List.getElem?_append_right (by omega)] at ht hd
        rw [hl] at hd
        obtain ⟨q1, q2⟩ := hdg _ t d ht hd
        exact ⟨fin q1, q2⟩
    · rw [upd_ne _ _ e] at ht hd
      obtain ⟨q1, q2⟩ := P.dg j q t d hj ht hd
      exact ⟨fin q1, q2⟩
  · by_cases ea : a = i + 4
    · subst ea
      rw [hui] at hka
      rw [hub b (fun e => hne e.symm)] at hkb
      rcases hn k hka with q | q
      · exact P.apart (i + 4) b ha hb hne k q hkb
      · have := P.lt b hb k hkb; omega
    · rw [hub a ea] at hka
      by_cases eb : b = i + 4
      · subst eb
        rw [hui] at hkb
        rcases hn k hkb with q | q
        · exact P.apart a (i + 4) ha hb hne k hka q
        · have := P.lt a ha k hka; omega
      · rw [hub b eb] at hkb
        exact P.apart a b ha hb hne k hka hkb
  · exact (P.kept.trans hk1 (P.own (i + 4) (by omega))).trans (Keeps.set (List.mem_singleton.2 rfl) (4 + i) v1) (fun k hk => by rw [List.mem_singleton.1 hk]; exact P.own 6 (by decide) E (by rw [ub_E]; simp))
  · by_cases ea : a = i + 4
    · subst ea
      rw [hui] at hka
      rcases hn k hka with q | q
      · exact P.own (i + 4) ha k q
      · exact .inr (by omega)
    · rw [hub a ea] at hka
      exact P.own a ha k hka
  · by_cases e : j = i
    · subst e; rw [upd_same]; exact hsm
    · rw [upd_ne _ _ e]; exact P.small j hj
theorem Tab.keepsL {w W : World} {L : List Nat} (h : Tab w) (hk : Keeps w W L) (h0 : 0 ∉ L) : Tab W := fun i hi =>
  (World.cell?_of_block (a := ⟨0, i, none⟩) (hk.2.2.2.2 0 h.pos h0)).trans (h i hi)
set_option maxHeartbeats 2000000 in
set_option maxRecDepth 100000 in
theorem same_calls (A B : Option Addr) (ca cb n : Nat) (l : List Int) (w : World) (hn : l.length = n) (hA : n = 0 ∨ ∃ ga, A = some ⟨ga, 0, none⟩ ∧ ∀ (i : Nat) x, l[i]? = some x → w.cell? ⟨ga, i, none⟩ = some (.int .i64 x)) (hB : n = 0 ∨ ∃ gb, B = some ⟨gb, 0, none⟩ ∧ ∀ (i : Nat) x, l[i]? = some x → w.cell? ⟨gb, i, none⟩ = some (.int .i64 x)) (hnb : n ≤ 1000) :
    Calls Tryd.prog 21 #[.slice A n ca, .slice B n cb] w fun e w' => e = .returned (.bool true) ∧ ∃ k, w' = w.drewN k := by
  have HN := Aside0.mk hn; have HA := Aside0.mk hA; have HB := Aside0.mk hB
  clear hn hA hB
  go_enter Tryd.func21, Tryd.ntmps21
  go_wp2_with fail
  go_loopw [5] (fun vi wr => ∃ i : Nat, vi = .int .i64 i ∧ Aside0 (i ≤ n) ∧ Aside0 (∃ k, wr = w.drewN k)) (fun vi _ => n - (intOf vi).toNat)
  case atStart => exact ⟨0, rfl, ⟨Nat.zero_le _⟩, ⟨0, rfl⟩⟩
  case round =>
    obtain ⟨i, rfl, HI, HW⟩ := hrel
    have hi := HI.out
    by_cases hlt : i < n
    · have z1 : decide ((i : Int) < (n : Int)) = true := decide_eq_true (by omega)
      have z1n : decide (i < n) = true := decide_eq_true hlt
      have HLT := Aside0.mk hlt
      obtain ⟨ga, rfl, ha⟩ := HA.out.resolve_left (by omega)
      obtain ⟨gb, rfl, hb⟩ := HB.out.resolve_left (by omega)
      obtain ⟨x, hx⟩ : ∃ x, l[i]? = some x := ⟨_, List.getElem?_eq_getElem (by have := HN.out; omega)⟩
      obtain ⟨k, rfl⟩ := HW.out
      have c1 : (w.drewN k).cell? ⟨ga, i, none⟩ = some (.int .i64 x) := ha i x hx
      have c2 : (w.drewN k).cell? ⟨gb, i, none⟩ = some (.int .i64 x) := hb i x hx
      have q1 : (0 ≤ (i : Int)) = True := eq_true (by omega)
      have q2 : ((i : Int) < (n : Int)) = True := eq_true (by omega)
      have d1 : decide (x = x) = true := decide_eq_true rfl
      clear ha hb hx hlt
      generalize hw2 : w.drewN k = w2 at c1 c2 HW ⊢
      have HW2 := Aside0.mk hw2
      clear hw2
      go_wp2_with fail
      go_quiet (fail)
      go_wp2
      exact ⟨⟨i + 1, by rw [Int.natCast_add]; rfl, ⟨HLT.out⟩, ⟨k + nq, by rw [← HW2.out, World.drewN_drewN]⟩⟩, by have := HLT.out; simp only [intOf]; omega⟩
    · have z1 : decide ((i : Int) < (n : Int)) = false := decide_eq_false (by omega)
      have z1n : decide (i < n) = false := decide_eq_false hlt
      clear hlt hi
      go_wp2
      go_ret
      exact ⟨rfl, HW.out⟩
end Go.Proofs.YtbdocgddidcfeaaDoor
namespace Go.Proofs.YtbdocgddidcfeaaDoor
open Go.RowKit Go.Proofs.YtbdocgddidcfeaaDoorW.PrintWords Go.Proofs.YtbdocgddidcfeaaDoorW.PrintLast Go.Proofs.YtbdocgddidcfeaaDoorW.PrintMore
set_option linter.unusedVariables false
set_option linter.unusedSimpArgs false
open PLinkPlays
theorem recv_out (s : LS) (d : List Int) : (recvF s d).2.1 = [] ∨ (recvF s d).2.1 = outF (recvF s d).1 := by
  unfold recvF
  split
  · exact .inl rfl
  · simp only []
    generalize (opF d).1 = b
    generalize rd b 7 * 256 + rd b 8 = N
    by_cases c1 : s.any = true ∧ newerF N s.last = false
    · rw [if_pos c1]; exact .inl rfl
    · rw [if_neg c1]
      by_cases c2 : s.waits = true ∧ N ≠ s.n ∧ newerF N s.n = false
      · rw [if_pos c2]; exact .inl rfl
      · rw [if_neg c2]
        by_cases c3 : s.waits = true ∧ N = s.n
        · simp only [if_pos c3]
          split
          · exact .inl rfl
          · split
            · exact .inl rfl
            · split
              · exact .inl rfl
              · exact .inr rfl
        · simp only [if_neg c3]
          split
          · exact .inl rfl
          · split
            · exact .inl rfl
            · split
              · exact .inl rfl
              · exact .inr rfl
theorem recv_range (s : LS) (d : List Int) (hok : Okay (recvF s d).1) : ∀ x ∈ (recvF s d).2.1, 0 ≤ x ∧ x < 256 := by
  rcases recv_out s d with e | e
  · rw [e]; intro x hx; cases hx
  · rw [e]
    intro x hx
    unfold outF at hx
    obtain ⟨i, _, hi⟩ := List.mem_flatMap.1 hx
    cases hp : pget (i : Int) (recvF s d).1.parts with
    | none => rw [hp] at hi; cases hi
    | some a => rw [hp] at hi; exact (hok.2.2.2.2.2.2.2 _ (pget_mem hp)).2 x hi
theorem lent_C {W : World} {G : Nat} {d : List Int} (hb : W.heap[G]? = some (.cells (d.map (Value.int .u8) ++ [Value.int .u8 77, Value.int .u8 77, Value.int .u8 77]).toArray 5 (0, 0))) (hl : d.length ≤ 140737488351232) : Kd.C (Kd.int .u8) W (some ⟨G, 0, none⟩) d.length d :=
  C_block hb d (fun j x hx => by
    have hj := (List.getElem?_eq_some_iff.1 hx).1
    rw [List.getElem?_toArray, List.getElem?_append_left (by rw [List.length_map]; exact hj), List.getElem?_map, hx]; rfl) (by omega)
theorem recvW (A : Option Addr) (c n : Nat) (d : List Int) (ok : Nat → Prop) (g : Nat) (s : LS) (ws : List Nat) (w : World) (hn : d.length = n) (h : LinkO ok w g s ws) (hC : Kd.C (Kd.int .u8) w A d.length d) (hc : n ≤ c) (hd : ∀ x ∈ d, 0 ≤ x ∧ x < 256) (hl : n ≤ 140737488351232) (hT : Tab w) (hokb : ∀ k, w.heap.size ≤ k → ok k) :
    Calls Tryd.prog 13 #[.pointer (some ⟨g, 0, none⟩), .slice A n c] w fun e w' => ∃ v ws', e = .returned (.tuple #[v, .bool (recvF s d).2.2.1, .int .i64 (recvF s d).2.2.2]) ∧ RS w.heap.size w' v (recvF s d).2.1 ∧ LinkO ok w' g (recvF s d).1 ws' ∧ (∀ k ∈ ws', k ∈ ws ∨ w.heap.size ≤ k) ∧ Keeps w w' ws := by
  subst hn
  exact @Receive_calls ⟨⟨ok⟩⟩ A c d g s ws w h hC hc hd hl hT hokb
theorem rrecvW (A : Option Addr) (c n : Nat) (d : List Int) (g : Nat) (s : LS) (ws : List Nat) (m : Nat) (w : World) (hn : d.length = n) (h : RefM w g s ws m) (hm : m ≤ 100000) (hC : Kd.C (Kd.int .u8) w A d.length d) (hc : n ≤ c) (hd : ∀ x ∈ d, 0 ≤ x ∧ x < 256) (hl : n ≤ 140737488351232) :
    Calls Tryd.prog 35 #[.pointer (some ⟨g, 0, none⟩), .slice A n c] w (RRcv w g ws (recvF s d).1 (recvF s d).2.1 (recvF s d).2.2.1 (recvF s d).2.2.2 m) := by
  subst hn
  exact rReceive_calls A c d g s ws m w h hm hC hc hd hl
theorem lentW (A : Option Addr) (c n : Nat) (d : List Int) (w : World) (hn : d.length = n) (hC : Kd.C (Kd.int .u8) w A d.length d) (hl : n ≤ 140737488351232) :
    Calls Tryd.prog 31 #[.slice A n c] w fun e w' => ∃ G, e = .returned (.slice (some ⟨G, 0, none⟩) n (n + 3)) ∧ w.heap.size ≤ G ∧ w'.heap[G]? = some (.cells (d.map (Value.int .u8) ++ [Value.int .u8 77, Value.int .u8 77, Value.int .u8 77]).toArray 5 (0, 0)) ∧ Below w.heap.size w w' := by
  subst hn
  exact Lent_calls A c d w hC (by omega)
theorem keptW (G : Nat) (A : Option Addr) (c n : Nat) (d : List Int) (w0 w : World) (hn : d.length = n) (hG : w0.heap.size ≤ G) (hGl : G < w.heap.size) (hC : Kd.C (Kd.int .u8) (trunc w G) A d.length d) (hbk : w.heap[G]? = some (.cells (d.map (Value.int .u8) ++ [Value.int .u8 77, Value.int .u8 77, Value.int .u8 77]).toArray 5 (0, 0))) (hl : n ≤ 140737488351232) :
    Calls Tryd.prog 32 #[.slice (some ⟨G, 0, none⟩) n (n + 3), .slice A n c] w fun e w' => e = .returned (.bool true) ∧ w.grownBy w' (some G) := by
  subst hn
  refine (Kept_callsG G A c d (trunc w G) w (by rw [trunc_size (by omega)]; exact Nat.le_refl _) (trunc_below (by omega)) hbk hC (by omega)).mono ?_
  rintro e w' ⟨h1, _, h2⟩
  exact ⟨h1, h2⟩
set_option maxHeartbeats 8000000 in
set_option maxRecDepth 100000 in
theorem receives0 (E : Nat) (g h : Nat → Nat) (s : Nat → LS) (ws xs : Nat → List Nat) (v : Nat → Value) (T : Nat → List Tri) (D : Nat → List (List Int)) (m : Nat) (A : Option Addr) (c n : Nat) (d : List Int) (W : World) (w : World) (L0 : List Nat) (P : PW (fun _ => True) w L0 E g h s s ws xs v T D m W) (hT : Tab W) (h0 : 0 ∉ ubs E ws xs v) (hm : m ≤ 1000) (hn : d.length = n) (hC : ∀ W', Keeps W W' (ubs E ws xs v) → Kd.C (Kd.int .u8) W' A d.length d) (hc : n ≤ c) (hd : ∀ x ∈ d, 0 ≤ x ∧ x < 256) (hl : n ≤ 140737488351232) :
    Calls Tryd.prog 18 #[.pointer (some ⟨E, 0, none⟩), .int .i64 0, .slice A n c] W fun e W' => e = .returned (.bool true) ∧ ∃ ws' xs', PW (fun _ => True) w L0 E g h (upd s 0 (recvF (s 0) d).1) (upd s 0 (recvF (s 0) d).1) (upd ws 0 ws') (upd xs 0 xs') v T D (m + 1) W' := by
  have HP := Aside0.mk P; have HT := Aside0.mk hT; have H0 := Aside0.mk h0; have HN := Aside0.mk hn; have HC := Aside0.mk hC; have HD := Aside0.mk hd
  clear P hT h0 hn hC hd
  go_enter Tryd.func18, Tryd.ntmps18
  go_wp2_with fail
  (with_reducible refine (lentW A c n d W HN.out (HC.out W (Keeps.refl _ _)) hl).mono ?_)
  rintro e_ W1 ⟨G, rfl, hG, hGb, hb1⟩
  have HG := Aside0.mk hG
  have hGl := blk_lt hGb
  have P1 := Aside0.mk ((HP.out.root.reok (ok' := fun k => k ≠ G) (fun b hb _ => by omega)).below hb1)
  have k0 : W1.cell? ⟨E, 0, none⟩ = some (.pointer (some ⟨g 0, 0, none⟩)) := P1.out.cells.1
  have HGB := Aside0.mk hGb; have HGL := Aside0.mk hGl
  have HT1 := Aside0.mk (HT.out.keepsL P1.out.kept H0.out)
  clear hG hGb hb1 hGl
  go_wp2_with fail
  (with_reducible refine (recvW (some ⟨G, 0, none⟩) (n + 3) n d (fun k => k ≠ G) (g 0) (s 0) (ws 0) W1 HN.out (P1.out.link 0 (by decide)) (lent_C HGB.out (by rw [HN.out]; exact hl)) (by omega) HD.out hl HT1.out (fun k hk => by have := HGL.out; omega)).mono ?_)
  rintro e_ W2 ⟨va, ws', rfl, hra, hl2, hn2, hk2⟩
  have P2 := Aside0.mk (P1.out.link' (by decide) hl2 hn2 hk2)
  have HGB2 : Aside0 (W2.heap[G]? = _) := ⟨((P1.out.others (a := 0) (by decide) (by rw [ub_ws (by decide)]; exact hk2)).2 G _ HGB.out).trans HGB.out⟩
  have HRA := Aside0.mk hra
  have HGL2 := Aside0.mk (blk_lt HGB2.out)
  clear hra hl2 hn2 hk2 k0
  obtain ⟨R, hR⟩ : ∃ R, R = recvF (s 0) d := ⟨_, rfl⟩
  rw [← hR] at P2 HRA ⊢
  have HR := Aside0.mk hR
  clear hR
  go_wp2_with fail
  (with_reducible refine (keptW G A c n d W W2 HN.out HG.out HGL2.out (HC.out _ (trunc_keeps (Nat.le_of_lt HGL2.out) HG.out P2.out.kept)) HGB2.out hl).mono ?_)
  rintro e_ W3 ⟨rfl, hgr⟩
  have P3 := Aside0.mk (P2.out.spoil hgr ⟨_, HGB2.out⟩ HG.out)
  have HRA3 : Aside0 (RS W1.heap.size W3 va R.2.1) := ⟨HRA.out.move (fun b hb hlt => hgr.block b hlt (fun e => by
    have h1_ := (HRA.out.own b hb).1
    have h2_ := HGL.out
    injection e with e
    omega))⟩
  clear hgr
  have k2 : W3.cell? ⟨E, 2, none⟩ = some (.pointer (some ⟨h 0, 0, none⟩)) := P3.out.cells.2.2.1
  go_wp2_with fail
  (with_reducible refine (rrecvW A c n d (h 0) (s 0) (xs 0) m W3 HN.out (P3.out.ref 0 (by decide)) (by omega) (HC.out _ P3.out.kept) hc HD.out hl).mono ?_)
  rintro e_ W4 ⟨vb, xs', rfl, hrb, hl4, hn4, hk4⟩
  rw [← HR.out] at hrb hl4 ⊢
  have P4 := Aside0.mk (P3.out.ref' (by decide) hl4 hn4 hk4)
  have HRA4 : Aside0 (RS W1.heap.size W4 va R.2.1) := ⟨HRA3.out.u8_move (fun k cs _ hc_ => (P3.out.others (a := 2) (by decide) (by rw [show (2 : Nat) = 0 + 2 from rfl, ub_xs (by decide)]; exact hk4)).2 k cs hc_)⟩
  have HRB := Aside0.mk hrb
  clear hrb hl4 hn4 hk4 k2
  obtain ⟨Aa, ca, hva, hcva⟩ := bytes_string HRA4.out
  obtain ⟨Ab, cb, hvb, hcvb⟩ := bytes_string HRB.out
  have HVA := Aside0.mk hva
  subst hva; subst hvb
  generalize hna : R.2.1.length = na at hcva hcvb ⊢
  generalize hss : strOfNums R.2.1 = SS at hcva hcvb
  generalize hbb : R.2.2.1 = bb at ⊢
  generalize hee : R.2.2.2 = ee at ⊢
  have e1 : decide (SS = SS) = true := decide_eq_true rfl
  have e3 : (bb == bb) = true := beq_self_eq_true _
  have e4 : decide (ee = ee) = true := decide_eq_true rfl
  have HNA := Aside0.mk hna
  clear hna hss hbb hee
  obtain ⟨sp, hsp⟩ := HRA4.out
  rw [HNA.out] at hsp
  have hown := Owned_callsC W4.heap.size 1 1 (fun _ => .slice Aa na ca) (fun _ => R.2.1) (fun _ => sp) (W4.alloc (.cells #[.slice Aa na ca] 30)) 0 (by decide) (by decide) (fun k hk => by
      obtain rfl : k = 0 := by omega
      exact (blk_cell (blk_new W4 _) 0).trans rfl)
    (fun k hk => (RF.below hsp (below_alloc (Below.refl _ _) _)).lower (Nat.zero_le _)) (fun k hk => by have hok_ := (P4.out.ref 0 (by decide)).okay; rw [upd_same] at hok_; rw [HR.out] at hok_ ⊢; exact recv_range _ _ hok_) (fun i j hi hj hne => by omega) (fun k hk e => by
      have := (RS.own ⟨sp, hsp⟩ W4.heap.size e).2
      omega)
  have HOWN := Aside0.mk hown
  clear hown hsp
  go_wp2_with fail
  (with_reducible refine HOWN.out.mono ?_)
  rintro e_ W5 ⟨rfl, hb5⟩
  have P5 := Aside0.mk (P4.out.below (below_step (below_alloc (Below.refl _ _) _) hb5))
  clear hb5 HOWN hcva hcvb
  go_wp2
  go_ret
  refine ⟨rfl, ws', xs', ?_⟩
  rw [← HR.out]
  exact HP.out.unroot (P5.out.reok (fun _ _ _ => trivial))
set_option maxHeartbeats 8000000 in
set_option maxRecDepth 100000 in
theorem receives1 (E : Nat) (g h : Nat → Nat) (s : Nat → LS) (ws xs : Nat → List Nat) (v : Nat → Value) (T : Nat → List Tri) (D : Nat → List (List Int)) (m : Nat) (A : Option Addr) (c n : Nat) (d : List Int) (W : World) (w : World) (L0 : List Nat) (P : PW (fun _ => True) w L0 E g h s s ws xs v T D m W) (hT : Tab W) (h0 : 0 ∉ ubs E ws xs v) (hm : m ≤ 1000) (hn : d.length = n) (hC : ∀ W', Keeps W W' (ubs E ws xs v) → Kd.C (Kd.int .u8) W' A d.length d) (hc : n ≤ c) (hd : ∀ x ∈ d, 0 ≤ x ∧ x < 256) (hl : n ≤ 140737488351232) :
    Calls Tryd.prog 18 #[.pointer (some ⟨E, 0, none⟩), .int .i64 1, .slice A n c] W fun e W' => e = .returned (.bool true) ∧ ∃ ws' xs', PW (fun _ => True) w L0 E g h (upd s 1 (recvF (s 1) d).1) (upd s 1 (recvF (s 1) d).1) (upd ws 1 ws') (upd xs 1 xs') v T D (m + 1) W' := by
  have HP := Aside0.mk P; have HT := Aside0.mk hT; have H0 := Aside0.mk h0; have HN := Aside0.mk hn; have HC := Aside0.mk hC; have HD := Aside0.mk hd
  clear P hT h0 hn hC hd
  go_enter Tryd.func18, Tryd.ntmps18
  go_wp2_with fail
  (with_reducible refine (lentW A c n d W HN.out (HC.out W (Keeps.refl _ _)) hl).mono ?_)
  rintro e_ W1 ⟨G, rfl, hG, hGb, hb1⟩
  have HG := Aside0.mk hG
  have hGl := blk_lt hGb
  have P1 := Aside0.mk ((HP.out.root.reok (ok' := fun k => k ≠ G) (fun b hb _ => by omega)).below hb1)
  have k0 : W1.cell? ⟨E, 1, none⟩ = some (.pointer (some ⟨g 1, 0, none⟩)) := P1.out.cells.2.1
  have HGB := Aside0.mk hGb; have HGL := Aside0.mk hGl
  have HT1 := Aside0.mk (HT.out.keepsL P1.out.kept H0.out)
  clear hG hGb hb1 hGl
  go_wp2_with fail
  (with_reducible refine (recvW (some ⟨G, 0, none⟩) (n + 3) n d (fun k => k ≠ G) (g 1) (s 1) (ws 1) W1 HN.out (P1.out.link 1 (by decide)) (lent_C HGB.out (by rw [HN.out]; exact hl)) (by omega) HD.out hl HT1.out (fun k hk => by have := HGL.out; omega)).mono ?_)
  rintro e_ W2 ⟨va, ws', rfl, hra, hl2, hn2, hk2⟩
  have P2 := Aside0.mk (P1.out.link' (by decide) hl2 hn2 hk2)
  have HGB2 : Aside0 (W2.heap[G]? = _) := ⟨((P1.out.others (a := 1) (by decide) (by rw [ub_ws (by decide)]; exact hk2)).2 G _ HGB.out).trans HGB.out⟩
  have HRA := Aside0.mk hra
  have HGL2 := Aside0.mk (blk_lt HGB2.out)
  clear hra hl2 hn2 hk2 k0
  obtain ⟨R, hR⟩ : ∃ R, R = recvF (s 1) d := ⟨_, rfl⟩
  rw [← hR] at P2 HRA ⊢
  have HR := Aside0.mk hR
  clear hR
  go_wp2_with fail
  (with_reducible refine (keptW G A c n d W W2 HN.out HG.out HGL2.out (HC.out _ (trunc_keeps (Nat.le_of_lt HGL2.out) HG.out P2.out.kept)) HGB2.out hl).mono ?_)
  rintro e_ W3 ⟨rfl, hgr⟩
  have P3 := Aside0.mk (P2.out.spoil hgr ⟨_, HGB2.out⟩ HG.out)
  have HRA3 : Aside0 (RS W1.heap.size W3 va R.2.1) := ⟨HRA.out.move (fun b hb hlt => hgr.block b hlt (fun e => by
    have h1_ := (HRA.out.own b hb).1
    have h2_ := HGL.out
    injection e with e
    omega))⟩
  clear hgr
  have k2 : W3.cell? ⟨E, 3, none⟩ = some (.pointer (some ⟨h 1, 0, none⟩)) := P3.out.cells.2.2.2.1
  go_wp2_with fail
  (with_reducible refine (rrecvW A c n d (h 1) (s 1) (xs 1) m W3 HN.out (P3.out.ref 1 (by decide)) (by omega) (HC.out _ P3.out.kept) hc HD.out hl).mono ?_)
  rintro e_ W4 ⟨vb, xs', rfl, hrb, hl4, hn4, hk4⟩
  rw [← HR.out] at hrb hl4 ⊢
  have P4 := Aside0.mk (P3.out.ref' (by decide) hl4 hn4 hk4)
  have HRA4 : Aside0 (RS W1.heap.size W4 va R.2.1) := ⟨HRA3.out.u8_move (fun k cs _ hc_ => (P3.out.others (a := 3) (by decide) (by rw [show (3 : Nat) = 1 + 2 from rfl, ub_xs (by decide)]; exact hk4)).2 k cs hc_)⟩
  have HRB := Aside0.mk hrb
  clear hrb hl4 hn4 hk4 k2
  obtain ⟨Aa, ca, hva, hcva⟩ := bytes_string HRA4.out
  obtain ⟨Ab, cb, hvb, hcvb⟩ := bytes_string HRB.out
  have HVA := Aside0.mk hva
  subst hva; subst hvb
  generalize hna : R.2.1.length = na at hcva hcvb ⊢
  generalize hss : strOfNums R.2.1 = SS at hcva hcvb
  generalize hbb : R.2.2.1 = bb at ⊢
  generalize hee : R.2.2.2 = ee at ⊢
  have e1 : decide (SS = SS) = true := decide_eq_true rfl
  have e3 : (bb == bb) = true := beq_self_eq_true _
  have e4 : decide (ee = ee) = true := decide_eq_true rfl
  have HNA := Aside0.mk hna
  clear hna hss hbb hee
  obtain ⟨sp, hsp⟩ := HRA4.out
  rw [HNA.out] at hsp
  have hown := Owned_callsC W4.heap.size 1 1 (fun _ => .slice Aa na ca) (fun _ => R.2.1) (fun _ => sp) (W4.alloc (.cells #[.slice Aa na ca] 30)) 0 (by decide) (by decide) (fun k hk => by
      obtain rfl : k = 0 := by omega
      exact (blk_cell (blk_new W4 _) 0).trans rfl)
    (fun k hk => (RF.below hsp (below_alloc (Below.refl _ _) _)).lower (Nat.zero_le _)) (fun k hk => by have hok_ := (P4.out.ref 1 (by decide)).okay; rw [upd_same] at hok_; rw [HR.out] at hok_ ⊢; exact recv_range _ _ hok_) (fun i j hi hj hne => by omega) (fun k hk e => by
      have := (RS.own ⟨sp, hsp⟩ W4.heap.size e).2
      omega)
  have HOWN := Aside0.mk hown
  clear hown hsp
  go_wp2_with fail
  (with_reducible refine HOWN.out.mono ?_)
  rintro e_ W5 ⟨rfl, hb5⟩
  have P5 := Aside0.mk (P4.out.below (below_step (below_alloc (Below.refl _ _) _) hb5))
  clear hb5 HOWN hcva hcvb
  go_wp2
  go_ret
  refine ⟨rfl, ws', xs', ?_⟩
  rw [← HR.out]
  exact HP.out.unroot (P5.out.reok (fun _ _ _ => trivial))
end Go.Proofs.YtbdocgddidcfeaaDoor
namespace Go.Proofs.YtbdocgddidcfeaaDoor
open Go.RowKit Go.Proofs.YtbdocgddidcfeaaDoorW.PrintWords Go.Proofs.YtbdocgddidcfeaaDoorW.PrintLast Go.Proofs.YtbdocgddidcfeaaDoorW.PrintMore
set_option linter.unusedVariables false
set_option linter.unusedSimpArgs false
open PLinkPlays
theorem DgRows.move {base : Nat} {W W1 : World} {v : Value} {D : Nat → List Int} {T : List Tri} (h : DgRows base W v D T) (hm : ∀ k, base ≤ k → k < W.heap.size → W1.heap[k]? = W.heap[k]?) : DgRows base W1 v D T :=
  ⟨Kd.R_mono (Kd.R_move (Kd.R_bound h.1) (fun k hkk => by obtain ⟨_, hb, hlt, _⟩ := hkk; exact hm k hb hlt)) (fun _ _ => trivial), fun i x hx => (h.2.1 i x hx).move (fun b hb hlt => hm b ((h.2.1 i x hx).own b hb).1 hlt), h.2.2⟩
theorem sendW (A : Option Addr) (c n : Nat) (d : List Int) (ok : Nat → Prop) (g : Nat) (s : LS) (ws : List Nat) (w : World) (hn : d.length = n) (h : LinkO ok w g s ws) (hC : ∀ W', Keeps w W' ws → Kd.C (Kd.int .u8) W' A d.length d) (hc : n ≤ c) (hd : ∀ x ∈ d, 0 ≤ x ∧ x < 256) (hL : n ≤ 2000) (hT : Tab w) (h0 : ∀ k ∈ ws, k ≠ 0) :
    Calls Tryd.prog 12 #[.pointer (some ⟨g, 0, none⟩), .slice A n c] w fun e w' => ∃ v T ws' B, e = .returned (.tuple #[v, .int .i64 s.next, .int .i64 0]) ∧ T.length = manyF n ∧ w.heap.size ≤ B ∧ DgRows B w' v (dgF s s.next d) T ∧ LinkO ok w' g (sendS s) ws' ∧ (∀ k ∈ ws', k ∈ ws ∨ w.heap.size ≤ k) ∧ Keeps w w' ws := by
  subst hn
  refine (@Send_calls ⟨⟨ok⟩⟩ g s ws A c d w h hC hc hd hL hT h0).mono ?_
  rintro e w' ⟨v, T, ws', B, h1, h2, h3, h4, h5, h6, h7, h8⟩
  exact ⟨v, T, ws', B, h1, h2, h3, h5, h6, h7, h8⟩
theorem rsendW (A : Option Addr) (c n : Nat) (d : List Int) (g : Nat) (s : LS) (ws : List Nat) (m : Nat) (w : World) (hn : d.length = n) (h : RefM w g s ws m) (hm : m ≤ 100000) (hC : ∀ W', Keeps w W' ws → Kd.C (Kd.int .u8) W' A d.length d) (hc : n ≤ c) (hd : ∀ x ∈ d, 0 ≤ x ∧ x < 256) (hL : n ≤ 2000) :
    Calls Tryd.prog 33 #[.pointer (some ⟨g, 0, none⟩), .slice A n c] w fun e w' => ∃ v T ws' B, e = .returned (.tuple #[v, .int .i64 s.next, .int .i64 0]) ∧ T.length = manyF n ∧ w.heap.size ≤ B ∧ DgRows B w' v (dgF s s.next d) T ∧ RefM w' g (sendS s) ws' (m + 1) ∧ (∀ k ∈ ws', k ∈ ws ∨ w.heap.size ≤ k) ∧ Keeps w w' ws := by
  subst hn
  refine (rSend_calls g s ws m A c d w h hm hC hc hd hL).mono ?_
  rintro e w' ⟨v, T, ws', B, h1, h2, h3, h4, h5, h6, h7, h8⟩
  exact ⟨v, T, ws', B, h1, h2, h3, h5, h6, h7, h8⟩
theorem PW.mono {ok : Nat → Prop} {w W : World} {L0 : List Nat} {E : Nat} {g h : Nat → Nat} {s r : Nat → LS} {ws xs : Nat → List Nat} {v : Nat → Value} {T : Nat → List Tri} {D : Nat → List (List Int)} {m m' : Nat} (P : PW ok w L0 E g h s r ws xs v T D m W) (hm : m ≤ m') : PW ok w L0 E g h s r ws xs v T D m' W :=
  ⟨P.blk, P.link, fun j hj => (P.ref j hj).mono hm, P.rows, P.dlen, P.dg, P.apart, P.kept, P.own, fun j hj => by have := P.small j hj; omega⟩
theorem many10 {n : Nat} (h : n ≤ 2000) : 1 ≤ manyF n ∧ manyF n ≤ 10 := by unfold manyF; omega
theorem row_R {W : World} {v : Value} {T : List Tri} (h : W.ownsRow 0 30 1 v T.length (T.map triV)) : Kd.R KSl 30 W 0 (fun _ => True) v T := own_R (fun _ => rfl) h
theorem R_row {W : World} {v : Value} {T : List Tri} (h : Kd.R KSl 30 W 0 (fun _ => True) v T) : W.ownsRow 0 30 1 v T.length (T.map triV) := by
  have h_ := R_owns h
  rw [List.length_map] at h_
  exact h_
theorem rows_owned {B gb M cc : Nat} {W : World} {D : Nat → List Int} {T : List Tri} (hD : DgRows B W (.slice (some ⟨gb, 0, none⟩) M cc) D T) (hT : T.length = M) (hM : 1 ≤ M ∧ M ≤ 10) (hr : ∀ k, k < M → ∀ x ∈ D k, 0 ≤ x ∧ x < 256) :
    Calls Tryd.prog 34 #[.slice (some ⟨gb, 0, none⟩) M cc] W fun e w' => e = .returned (.bool true) ∧ Below W.heap.size W w' := by
  have hg : ∀ k, k < M → ∃ t, T[k]? = some t := fun k hk => ⟨_, List.getElem?_eq_getElem (by omega)⟩
  have hS : ∀ k, k < M → ∃ S, RF B W (triV (T.getD k (none, 0, 0))) (D k) S := fun k hk => by
    obtain ⟨t, ht⟩ := hg k hk
    obtain ⟨sp, h⟩ := hD.2.1 k t ht
    exact ⟨sp, by rw [List.getD_eq_getElem?_getD, ht]; exact h⟩
  have hSc : ∃ S : Nat → List Int, ∀ k, k < M → RF B W (triV (T.getD k (none, 0, 0))) (D k) (S k) := ⟨fun k => if h : k < M then (hS k h).choose else [], fun k hk => by dsimp only; rw [dif_pos hk]; exact (hS k hk).choose_spec⟩
  obtain ⟨S, hS⟩ := hSc
  refine Owned_callsC gb M cc (fun k => triV (T.getD k (none, 0, 0))) D S W B (by omega) (by omega) (fun k hk => ?_) hS hr (fun i j hi hj hne => ?_) (fun k hk e => ?_)
  · obtain ⟨t, ht⟩ := hg k hk
    rw [sl_cell hD.1 k t ht, List.getD_eq_getElem?_getD, ht]; rfl
  · obtain ⟨x, hx⟩ := hg i hi
    obtain ⟨y, hy⟩ := hg j hj
    simp only [List.getD_eq_getElem?_getD, hx, hy, Option.getD_some]
    cases e1 : (triV x).ownBlock with
    | none => exact .inl rfl
    | some a =>
      refine .inr (fun e2 => ?_)
      rcases Nat.lt_or_gt_of_ne hne with q | q
      · have := hD.2.2.1 i j x y q hx hy a a e1 e2.symm; omega
      · have := hD.2.2.1 j i y x q hy hx a a e2.symm e1; omega
  · obtain ⟨t, ht⟩ := hg k hk
    simp only [List.getD_eq_getElem?_getD, ht, Option.getD_some] at e
    exact hD.2.2.2 k t ht gb e rfl
theorem row_conv {base : Nat} {W : World} {t : Tri} {l : List Int} (h : RS base W (triV t) l) : ∀ k, (convert 30 9 (.slice t.1 t.2.1 t.2.2)).run Tryd.prog (W.drewN k) = .ok (.string (strOfNums l)) (W.drewN k) := fun k => by
  have h1 := (RS.C h).1
  have hC := (RS.C (h.below (pw_below_drewN (Below.refl _ _) k))).2.2
  rw [h1]
  exact Kd.C_string Tryd.underlying30 Tryd.underlying5 Tryd.underlying9 hC
set_option maxHeartbeats 8000000 in
set_option maxRecDepth 100000 in
theorem sendsS0 (E : Nat) (g h : Nat → Nat) (s : Nat → LS) (ws xs : Nat → List Nat) (v : Nat → Value) (T : Nat → List Tri) (D : Nat → List (List Int)) (m : Nat) (A : Option Addr) (c n : Nat) (d : List Int) (W : World) (w : World) (L0 : List Nat) (P : PW (fun _ => True) w L0 E g h s s ws xs v T D m W) (hT : Tab W) (h0 : 0 ∉ ubs E ws xs v) (hm : m ≤ 1000) (hn : d.length = n) (hC : ∀ W', Keeps W W' (ubs E ws xs v) → Kd.C (Kd.int .u8) W' A d.length d) (hc : n ≤ c) (hd : ∀ x ∈ d, 0 ≤ x ∧ x < 256)  (hL : n ≤ 2000) :
    Calls Tryd.prog 17 #[.pointer (some ⟨E, 0, none⟩), .int .i64 0, .slice A n c] W fun e W' => e = .returned (.bool true) ∧ ∃ ws2_ xs2_ v2_ T2_ D2_, PW (fun _ => True) w L0 E g h (upd s 0 (sendS (s 0))) (upd s 0 (sendS (s 0))) ws2_ xs2_ v2_ T2_ D2_ (m + 1) W' := by
  have HP := Aside0.mk P; have HT := Aside0.mk hT; have H0 := Aside0.mk h0; have HN := Aside0.mk hn; have HC := Aside0.mk hC; have HD := Aside0.mk hd
  have hl : n ≤ 140737488351232 := by omega
  have HZ : Aside0 (∀ a, a < 7 → ∀ k ∈ ub E ws xs v a, k ≠ 0) := ⟨fun a ha k hk e => h0 (mem_ubs.2 ⟨a, ha, by rw [← e]; exact hk⟩)⟩
  clear P hT h0 hn hC hd
  go_enter Tryd.func17, Tryd.ntmps17
  go_wp2_with fail
  (with_reducible refine (lentW A c n d W HN.out (HC.out W (Keeps.refl _ _)) hl).mono ?_)
  rintro e_ W1 ⟨G, rfl, hG, hGb, hb1⟩
  have HG := Aside0.mk hG
  have hGl := blk_lt hGb
  have P1 := Aside0.mk ((HP.out.root.reok (ok' := fun k => k ≠ G) (fun b hb _ => by omega)).below hb1)
  have k0 : W1.cell? ⟨E, 0, none⟩ = some (.pointer (some ⟨g 0, 0, none⟩)) := P1.out.cells.1
  have HGB := Aside0.mk hGb; have HGL := Aside0.mk hGl
  have HT1 := Aside0.mk (HT.out.keepsL P1.out.kept H0.out)
  clear hG hGb hb1 hGl
  go_wp2_with fail
  have hCin : ∀ W', Keeps W1 W' (ws 0) → Kd.C (Kd.int .u8) W' (some ⟨G, 0, none⟩) d.length d := fun W' hk_ => lent_C ((hk_.2.2.2.2 G HGL.out (fun hm_ => by
      have h1_ := HP.out.lt 0 (by decide) G (by rw [ub_ws (by decide)]; exact hm_)
      have h2_ := HG.out
      omega)).trans HGB.out) (by rw [HN.out]; exact hl)
  (with_reducible refine (sendW (some ⟨G, 0, none⟩) (n + 3) n d (fun k => k ≠ G) (g 0) (s 0) (ws 0) W1 HN.out (P1.out.link 0 (by decide)) hCin (by omega) HD.out hL HT1.out (fun k hk => HZ.out 0 (by decide) k (by rw [ub_ws (by decide)]; exact hk))).mono ?_)
  clear hCin
  rintro e_ W2 ⟨v1, T1, ws', B1, rfl, hTl1, hB1, hD1, hl2, hn2, hk2⟩
  have P2 := Aside0.mk (P1.out.link' (by decide) hl2 hn2 hk2)
  have HGB2 : Aside0 (W2.heap[G]? = _) := ⟨((P1.out.others (a := 0) (by decide) (by rw [ub_ws (by decide)]; exact hk2)).2 G _ HGB.out).trans HGB.out⟩
  have HGL2 := Aside0.mk (blk_lt HGB2.out)
  have HD1 := Aside0.mk hD1; have HB1 := Aside0.mk hB1; have HTL1 := Aside0.mk hTl1
  clear hD1 hB1 hTl1 hl2 hn2 hk2 k0
  go_wp2_with fail
  (with_reducible refine (keptW G A c n d W W2 HN.out HG.out HGL2.out (HC.out _ (trunc_keeps (Nat.le_of_lt HGL2.out) HG.out P2.out.kept)) HGB2.out hl).mono ?_)
  rintro e_ W3 ⟨rfl, hgr⟩
  have P3 := Aside0.mk (P2.out.spoil hgr ⟨_, HGB2.out⟩ HG.out)
  have HGL3 : Aside0 (G < W3.heap.size) := ⟨Nat.lt_of_lt_of_le HGL2.out hgr.size⟩
  have HD13 : Aside0 (DgRows B1 W3 v1 (dgF (s 0) (s 0).next d) T1) := ⟨HD1.out.move (fun k hb hlt => hgr.block k hlt (fun e => by
    have h1_ := HB1.out
    have h2_ := HGL.out
    injection e with e
    omega))⟩
  clear hgr
  have k2 : W3.cell? ⟨E, 2, none⟩ = some (.pointer (some ⟨h 0, 0, none⟩)) := P3.out.cells.2.2.1
  go_wp2_with fail
  (with_reducible refine (rsendW A c n d (h 0) (s 0) (xs 0) m W3 HN.out (P3.out.ref 0 (by decide)) (by omega) (fun W' hk_ => HC.out W' (P3.out.kept.trans hk_ (fun k hk => P3.out.own 2 (by decide) k (by rw [show (2 : Nat) = 0 + 2 from rfl, ub_xs (by decide)]; exact hk)))) hc HD.out hL).mono ?_)
  rintro e_ W4 ⟨v2, T2, xs', B2, rfl, hTl2, hB2, hD2, hl4, hn4, hk4⟩
  have P4 := Aside0.mk (P3.out.ref' (by decide) hl4 hn4 hk4)
  have HD14 : Aside0 (DgRows B1 W4 v1 (dgF (s 0) (s 0).next d) T1) := ⟨HD13.out.move (fun k hb hlt => hk4.2.2.2.2 k hlt (fun hm_ => by
    have h1_ := HP.out.lt 2 (by decide) k (by rw [show (2 : Nat) = 0 + 2 from rfl, ub_xs (by decide)]; exact hm_)
    have h2_ := HB1.out
    have h3_ := HGL.out
    have h4_ := HG.out
    omega))⟩
  have hM := many10 hL
  obtain ⟨gb1, cc1, rfl, hgb1, hgl1, hcc1, hat1⟩ := sl_at HD14.out.1 (by rw [HTL1.out]; omega)
  obtain ⟨gb2, cc2, rfl, hgb2, hgl2, hcc2, hat2⟩ := sl_at hD2.1 (by rw [hTl2]; omega)
  have HD2 := Aside0.mk hD2; have HB2 := Aside0.mk hB2; have HTL2 := Aside0.mk hTl2; have HAT1 := Aside0.mk hat1; have HAT2 := Aside0.mk hat2
  clear hD2 hB2 hTl2 hl4 hn4 hk4 k2 hat1 hat2 hgb1 hgl1 hcc1 hgb2 hgl2 hcc2 HD13 HD1
  obtain ⟨M, hMM⟩ : ∃ M, M = manyF n := ⟨_, rfl⟩
  rw [← hMM] at HTL1 HTL2 hM
  rw [HTL1.out] at HD14
  rw [HTL2.out] at HD2
  rw [HTL1.out, HTL2.out]
  have HMM := Aside0.mk hMM
  clear hMM
  obtain ⟨nx, hnx⟩ : ∃ nx, nx = (s 0).next := ⟨_, rfl⟩
  rw [← hnx] at HD14 HD2 ⊢
  have HNX := Aside0.mk hnx
  clear hnx
  have e4 : decide (nx = nx) = true := decide_eq_true rfl
  go_wp2_with fail
  go_loopw [15] (fun vj wr => ∃ j : Nat, vj = .int .i64 j ∧ Aside0 (j ≤ M) ∧ Aside0 (∃ k, wr = W4.drewN k)) (fun vj _ => M - (intOf vj).toNat)
  case atStart => exact ⟨0, rfl, ⟨Nat.zero_le _⟩, ⟨0, rfl⟩⟩
  case round =>
    obtain ⟨j, rfl, HJ, HW⟩ := hrel
    have hj := HJ.out
    obtain ⟨kk, hkk⟩ := HW.out
    have P5 : Aside0 (PW _ _ _ _ _ _ _ _ _ _ _ _ _ _ wr) := ⟨by rw [hkk]; exact P4.out.below (pw_below_drewN (Below.refl _ _) _)⟩
    have HD15 : Aside0 (DgRows B1 wr (.slice (some ⟨gb1, 0, none⟩) M cc1) (dgF (s 0) nx d) T1) := ⟨by rw [hkk]; exact HD14.out.below (pw_below_drewN (Below.refl _ _) _)⟩
    have HD25 : Aside0 (DgRows B2 wr (.slice (some ⟨gb2, 0, none⟩) M cc2) (dgF (s 0) nx d) T2) := ⟨by rw [hkk]; exact HD2.out.below (pw_below_drewN (Below.refl _ _) _)⟩
    clear hkk
    by_cases hlt : j < M
    · have z1 : decide ((j : Int) < (M : Int)) = true := decide_eq_true (by omega)
      have z1n : decide (j < M) = true := decide_eq_true hlt
      have HLT := Aside0.mk hlt
      obtain ⟨⟨A1, n1, c1⟩, ht1⟩ : ∃ t, T1[j]? = some t := ⟨_, List.getElem?_eq_getElem (by rw [HTL1.out]; exact hlt)⟩
      obtain ⟨⟨A2, n2, c2⟩, ht2⟩ : ∃ t, T2[j]? = some t := ⟨_, List.getElem?_eq_getElem (by rw [HTL2.out]; exact hlt)⟩
      have x1 : wr.cell? ⟨gb1, j, none⟩ = some (.slice A1 n1 c1) := sl_cell HD15.out.1 j _ ht1
      have x2 : wr.cell? ⟨gb2, j, none⟩ = some (.slice A2 n2 c2) := sl_cell HD25.out.1 j _ ht2
      have y1 := row_conv (HD15.out.2.1 j _ ht1)
      have y2 := row_conv (HD25.out.2.1 j _ ht2)
      dsimp only at y1 y2
      generalize strOfNums (dgF (s 0) nx d j) = SS at y1 y2
      have e1 : decide (SS = SS) = true := decide_eq_true rfl
      have q1 : (0 ≤ (j : Int)) = True := eq_true (by omega)
      have q2 : ((j : Int) < (M : Int)) = True := eq_true (by omega)
      clear hlt ht1 ht2
      go_wp2_with fail
      go_quiet (fail)
      go_wp2
      exact ⟨⟨j + 1, by rw [Int.natCast_add]; rfl, ⟨HLT.out⟩, ⟨by obtain ⟨k_, hk_⟩ := HW.out; exact ⟨k_ + nq, by rw [hk_, World.drewN_drewN]⟩⟩⟩, by have := HLT.out; simp only [intOf]; omega⟩
    have z1 : decide ((j : Int) < (M : Int)) = false := decide_eq_false (by omega)
    have z1n : decide (j < M) = false := decide_eq_false hlt
    clear hlt hj HW
    obtain ⟨Av, cv, hvv⟩ := Kd.R_slice (row_R (P5.out.rows 0 (by decide)))
    have k4 : wr.drew.cell? ⟨E, 4, none⟩ = some (.slice Av (T 0).length cv) := P5.out.cells.2.2.2.2.1.trans (congrArg some hvv)
    have HVV := Aside0.mk hvv
    clear hvv
    have HLV : Aside0 ((T 0).length ≤ 10 * m) := ⟨HP.out.small 0 (by decide)⟩
    generalize hlv : (T 0).length = lv at k4
    have HLVE := Aside0.mk hlv
    clear hlv
    go_wp2_with fail
    go_region_law (first | (refine Kd.R_append_rows_step KSl (w0 := wr.drew) 0 (by rfl) (.tmp 88) (.tmp 89) 24 30 (.slice none 0 0) 24 rfl Tryd.underlying24 infoSl rfl (by decide) (by omega) (.slice Av lv cv) (T 0) T2 _ _ _ (fun _ => True) (fun _ => False) rfl rfl ?aO ?aR (fun _ _ h => h) (fun _ h => h.elim) ?aF ?aB ?aS ?aL ?_; (case aO => (have h_ := row_R ((P5.out.below (below_drew1 (Below.refl _ _))).rows 0 (by decide)); rw [HVV.out, HLVE.out] at h_; exact h_)); (case aR => exact (by obtain ⟨A_, c_, e_, _, hC_⟩ := Kd.R_reads HD25.out.1; rw [HTL2.out] at e_ hC_; cases e_; exact Kd.C_drew hC_)); (case aF => exact fun _ _ => trivial); (case aB => exact Below.refl _ _); (case aS => exact Nat.zero_le _); (case aL => (have h1_ := HLV.out; (try have h2_ := hM.2); (try simp only [List.length_nil]); omega)); intro v3 w3 ho hb hg hat; obtain ⟨A3_, c3_, hv_⟩ := Kd.R_slice ho; obtain ⟨N3_, hN3_⟩ : ∃ N_, N_ = (T 0 ++ T2).length := ⟨_, rfl⟩; rw [← hN3_] at hv_; subst hv_; have HN3 := Aside0.mk hN3_; clear hN3_; have HO3 := Aside0.mk ho; have HG3 := Aside0.mk hg; have HAT3 := Aside0.mk hat; have c5_ := World.cell?_of_block (w := wr.drew) (w' := w3) (a := ⟨E, 4, none⟩) (hg.block E (blk_lt P5.out.blk) (fun e_ => P5.out.apart 4 6 (by decide) (by decide) (by decide) E (by rw [show (4 : Nat) = 0 + 4 from rfl, ub_v (by decide), HVV.out, HLVE.out]; rw [Option.mem_toList]; exact e_.symm) (by rw [ub_E]; simp))); have f5_ := World.frozen?_of_block (w := wr.drew) (w' := w3) (a := ⟨E, 4, none⟩) (hg.block E (blk_lt P5.out.blk) (fun e_ => P5.out.apart 4 6 (by decide) (by decide) (by decide) E (by rw [show (4 : Nat) = 0 + 4 from rfl, ub_v (by decide), HVV.out, HLVE.out]; rw [Option.mem_toList]; exact e_.symm) (by rw [ub_E]; simp))); rw [k4] at c5_; rw [show wr.drew.frozen? ⟨E, 4, none⟩ = false from P5.out.cells.2.2.2.2.2.2 4] at f5_; clear ho hb hg hat))
    all_goals
      obtain ⟨W6, hW6⟩ : ∃ W6, W6 = w3.setCell ⟨E, 4, none⟩ (.slice A3_ N3_ c3_) := ⟨_, rfl⟩
      rw [← hW6]
      have hgv : wr.drew.grownBy w3 (v 0).ownBlock := by rw [HVV.out, HLVE.out]; exact HG3.out
      have hat_ := hat_new HAT3.out (Nat.le_refl _)
      have hp6 := ((P5.out.below (below_drew1 (Below.refl _ _))).sent' (i := 0) (by decide) (v1 := .slice A3_ N3_ c3_) (Tn := T2) (Dn := (List.range M).map (fun j => dgF (s 0) nx d j)) hgv (R_row HO3.out) (by rw [HVV.out, HLVE.out]; exact hat_) (by rw [List.length_map, List.length_range, HTL2.out]) (fun j t_ d_ ht_ hd_ => by
          have hjl := (List.getElem?_eq_some_iff.1 ht_).1
          rw [HTL2.out] at hjl
          rw [List.getElem?_map, List.getElem?_range hjl] at hd_
          obtain rfl : dgF (s 0) nx d j = d_ := Option.some.inj hd_
          have h1_ := HD25.out.2.1 j t_ ht_
          have hok_ := (HP.out.ref 0 (by decide)).okay
          exact ⟨(h1_.below (below_drew1 (Below.refl _ _))).lower (Nat.zero_le _), fun b_ hb_ => by
            have h2_ := (h1_.own b_ hb_).1
            have h3_ := HB2.out
            have h4_ := HGL3.out
            omega, dg_range hok_ (by rw [HNX.out]; exact hok_.1) HD.out (by rw [HN.out]; exact hL) (by rw [HN.out, ← HMM.out]; exact hjl), Nat.le_trans (dg_small _ _ _ _) (by decide)⟩) (by have h_ := HLV.out; have h2_ := hM.2; have h3_ := HTL2.out; rw [List.length_append]; omega))
      rw [show (4 + 0 : Nat) = 4 from rfl, ← hW6] at hp6
      have P6 := Aside0.mk hp6
      have HD16 : Aside0 (DgRows B1 W6 (.slice (some ⟨gb1, 0, none⟩) M cc1) (dgF (s 0) nx d) T1) := ⟨HD15.out.move (fun k hb_ hlt_ => by
        have h1_ := HB1.out
        have h2_ := HGL.out
        have h3_ := HG.out
        have h4_ := HP.out.lt 6 (by decide) E (by rw [ub_E]; simp)
        have h5_ : (v 0).ownBlock ≠ some k := fun e_ => by
          have := HP.out.lt 4 (by decide) k (by rw [show (4 : Nat) = 0 + 4 from rfl, ub_v (by decide), e_]; simp)
          omega
        rw [hW6]
        exact (Below.heap_setCell w3 ⟨E, 4, none⟩ _ k (show k ≠ E by omega)).trans (hgv.block k hlt_ (fun e_ => h5_ e_.symm)))⟩
      clear hW6 hgv hat_ hp6 k4 c5_ f5_
      go_wp2_with fail
      have hrng : ∀ k, k < M → ∀ x ∈ dgF (s 0) nx d k, 0 ≤ x ∧ x < 256 := fun k hk => dg_range (HP.out.ref 0 (by decide)).okay (by rw [HNX.out]; exact (HP.out.ref 0 (by decide)).okay.1) HD.out (by rw [HN.out]; exact hL) (by rw [HN.out, ← HMM.out]; exact hk)
      (with_reducible refine (rows_owned HD16.out HTL1.out hM hrng).mono ?_)
      rintro e_ W7 ⟨rfl, hb7⟩
      have P7 := Aside0.mk (P6.out.below hb7)
      clear hb7
      go_wp2
      go_ret
      exact ⟨rfl, _, _, _, _, _, HP.out.unroot (P7.out.reok (fun _ _ _ => trivial))⟩
set_option maxHeartbeats 8000000 in
set_option maxRecDepth 100000 in
theorem sendsL0 (E : Nat) (g h : Nat → Nat) (s : Nat → LS) (ws xs : Nat → List Nat) (v : Nat → Value) (T : Nat → List Tri) (D : Nat → List (List Int)) (m : Nat) (A : Option Addr) (c n : Nat) (d : List Int) (W : World) (w : World) (L0 : List Nat) (P : PW (fun _ => True) w L0 E g h s s ws xs v T D m W) (hT : Tab W) (h0 : 0 ∉ ubs E ws xs v) (hm : m ≤ 1000) (hn : d.length = n) (hC : ∀ W', Keeps W W' (ubs E ws xs v) → Kd.C (Kd.int .u8) W' A d.length d) (hc : n ≤ c) (hd : ∀ x ∈ d, 0 ≤ x ∧ x < 256) (hl : n ≤ 140737488351232) (hL : 2000 < n) :
    Calls Tryd.prog 17 #[.pointer (some ⟨E, 0, none⟩), .int .i64 0, .slice A n c] W fun e W' => e = .returned (.bool true) ∧ ∃ v2_ T2_ D2_, PW (fun _ => True) w L0 E g h s s ws xs v2_ T2_ D2_ (m + 1) W' := by
  have HP := Aside0.mk P; have HT := Aside0.mk hT; have H0 := Aside0.mk h0; have HN := Aside0.mk hn; have HC := Aside0.mk hC; have HD := Aside0.mk hd
  have hl : n ≤ 140737488351232 := by omega
  have HZ : Aside0 (∀ a, a < 7 → ∀ k ∈ ub E ws xs v a, k ≠ 0) := ⟨fun a ha k hk e => h0 (mem_ubs.2 ⟨a, ha, by rw [← e]; exact hk⟩)⟩
  clear P hT h0 hn hC hd
  go_enter Tryd.func17, Tryd.ntmps17
  go_wp2_with fail
  (with_reducible refine (lentW A c n d W HN.out (HC.out W (Keeps.refl _ _)) hl).mono ?_)
  rintro e_ W1 ⟨G, rfl, hG, hGb, hb1⟩
  have HG := Aside0.mk hG
  have hGl := blk_lt hGb
  have P1 := Aside0.mk ((HP.out.root.reok (ok' := fun k => k ≠ G) (fun b hb _ => by omega)).below hb1)
  have k0 : W1.cell? ⟨E, 0, none⟩ = some (.pointer (some ⟨g 0, 0, none⟩)) := P1.out.cells.1
  have HGB := Aside0.mk hGb; have HGL := Aside0.mk hGl
  have HT1 := Aside0.mk (HT.out.keepsL P1.out.kept H0.out)
  clear hG hGb hb1 hGl
  go_wp2_with fail
  (with_reducible refine (Send_long (some ⟨g 0, 0, none⟩) (some ⟨G, 0, none⟩) n (n + 3) W1 hL).mono ?_)
  rintro e_ W2 ⟨rfl, rfl⟩
  have P2 := P1; have HGB2 := HGB; have HGL2 := HGL
  clear k0
  go_wp2_with fail
  (with_reducible refine (keptW G A c n d W W2 HN.out HG.out HGL2.out (HC.out _ (trunc_keeps (Nat.le_of_lt HGL2.out) HG.out P2.out.kept)) HGB2.out hl).mono ?_)
  rintro e_ W3 ⟨rfl, hgr⟩
  have P3 := Aside0.mk (P2.out.spoil hgr ⟨_, HGB2.out⟩ HG.out)
  clear hgr
  have k2 : W3.cell? ⟨E, 2, none⟩ = some (.pointer (some ⟨h 0, 0, none⟩)) := P3.out.cells.2.2.1
  go_wp2_with fail
  (with_reducible refine (rSend_long (h 0) A c n W3 hL).mono ?_)
  rintro e_ W4 ⟨rfl, rfl⟩
  have P4 := P3
  clear k2
  go_wp2_with fail
  go_loopw [15] (fun vj wr => vj = .int .i64 0 ∧ Aside0 (wr = W4)) (fun _ _ => 0)
  case atStart => exact ⟨rfl, ⟨rfl⟩⟩
  case round =>
    obtain ⟨rfl, HW⟩ := hrel
    obtain rfl := HW.out
    clear HW
    go_wp2_with fail
    generalize hnl : (.slice none 0 0 : Value) = vnl
    subst hnl
    have P5 := P4
    obtain ⟨Av, cv, hvv⟩ := Kd.R_slice (row_R (P5.out.rows 0 (by decide)))
    have k4 : wr.drew.cell? ⟨E, 4, none⟩ = some (.slice Av (T 0).length cv) := P5.out.cells.2.2.2.2.1.trans (congrArg some hvv)
    have HVV := Aside0.mk hvv
    clear hvv
    have HLV : Aside0 ((T 0).length ≤ 10 * m) := ⟨HP.out.small 0 (by decide)⟩
    generalize hlv : (T 0).length = lv at k4
    have HLVE := Aside0.mk hlv
    clear hlv
    go_wp2_with fail
    go_region_law (first | (refine Kd.R_append_rows_step KSl (w0 := wr.drew) 0 (by rfl) (.tmp 88) (.tmp 89) 24 30 (.slice none 0 0) 24 rfl Tryd.underlying24 infoSl rfl (by decide) (by omega) (.slice Av lv cv) (T 0) [] _ _ _ (fun _ => True) (fun _ => False) rfl rfl ?aO ?aR (fun _ _ h => h) (fun _ h => h.elim) ?aF ?aB ?aS ?aL ?_; (case aO => (have h_ := row_R ((P5.out.below (below_drew1 (Below.refl _ _))).rows 0 (by decide)); rw [HVV.out, HLVE.out] at h_; exact h_)); (case aR => exact Kd.C_nil _ _); (case aF => exact fun _ _ => trivial); (case aB => exact Below.refl _ _); (case aS => exact Nat.zero_le _); (case aL => (have h1_ := HLV.out; (try have h2_ := hM.2); (try simp only [List.length_nil]); omega)); intro v3 w3 ho hb hg hat; obtain ⟨A3_, c3_, hv_⟩ := Kd.R_slice ho; obtain ⟨N3_, hN3_⟩ : ∃ N_, N_ = (T 0 ++ []).length := ⟨_, rfl⟩; rw [← hN3_] at hv_; subst hv_; have HN3 := Aside0.mk hN3_; clear hN3_; have HO3 := Aside0.mk ho; have HG3 := Aside0.mk hg; have HAT3 := Aside0.mk hat; have c5_ := World.cell?_of_block (w := wr.drew) (w' := w3) (a := ⟨E, 4, none⟩) (hg.block E (blk_lt P5.out.blk) (fun e_ => P5.out.apart 4 6 (by decide) (by decide) (by decide) E (by rw [show (4 : Nat) = 0 + 4 from rfl, ub_v (by decide), HVV.out, HLVE.out]; rw [Option.mem_toList]; exact e_.symm) (by rw [ub_E]; simp))); have f5_ := World.frozen?_of_block (w := wr.drew) (w' := w3) (a := ⟨E, 4, none⟩) (hg.block E (blk_lt P5.out.blk) (fun e_ => P5.out.apart 4 6 (by decide) (by decide) (by decide) E (by rw [show (4 : Nat) = 0 + 4 from rfl, ub_v (by decide), HVV.out, HLVE.out]; rw [Option.mem_toList]; exact e_.symm) (by rw [ub_E]; simp))); rw [k4] at c5_; rw [show wr.drew.frozen? ⟨E, 4, none⟩ = false from P5.out.cells.2.2.2.2.2.2 4] at f5_; clear ho hb hg hat))
    all_goals
      obtain ⟨W6, hW6⟩ : ∃ W6, W6 = w3.setCell ⟨E, 4, none⟩ (.slice A3_ N3_ c3_) := ⟨_, rfl⟩
      rw [← hW6]
      have hgv : wr.drew.grownBy w3 (v 0).ownBlock := by rw [HVV.out, HLVE.out]; exact HG3.out
      have hat_ := hat_new HAT3.out (Nat.le_refl _)
      have hp6 := ((P5.out.below (below_drew1 (Below.refl _ _))).sent' (i := 0) (by decide) (v1 := .slice A3_ N3_ c3_) (Tn := []) (Dn := []) hgv (R_row HO3.out) (by rw [HVV.out, HLVE.out]; exact hat_) (by rfl) (fun j t_ d_ ht_ hd_ => by cases ht_) (by have h_ := HLV.out; rw [List.append_nil]; rw [HLVE.out]; rw [HLVE.out] at h_; exact h_))
      rw [show (4 + 0 : Nat) = 4 from rfl, ← hW6] at hp6
      have P6 := Aside0.mk hp6
      clear hW6 hgv hat_ hp6 k4 c5_ f5_
      go_wp2_with fail
      (with_reducible refine (Owned_nil W6).mono ?_)
      rintro e_ W7 ⟨rfl, hb7⟩
      have P7 := Aside0.mk (P6.out.below hb7)
      clear hb7
      go_wp2
      go_ret
      exact ⟨rfl, _, _, _, HP.out.unroot ((P7.out.reok (fun _ _ _ => trivial)).mono (Nat.le_succ m))⟩
set_option maxHeartbeats 8000000 in
set_option maxRecDepth 100000 in
theorem sendsS1 (E : Nat) (g h : Nat → Nat) (s : Nat → LS) (ws xs : Nat → List Nat) (v : Nat → Value) (T : Nat → List Tri) (D : Nat → List (List Int)) (m : Nat) (A : Option Addr) (c n : Nat) (d : List Int) (W : World) (w : World) (L0 : List Nat) (P : PW (fun _ => True) w L0 E g h s s ws xs v T D m W) (hT : Tab W) (h0 : 0 ∉ ubs E ws xs v) (hm : m ≤ 1000) (hn : d.length = n) (hC : ∀ W', Keeps W W' (ubs E ws xs v) → Kd.C (Kd.int .u8) W' A d.length d) (hc : n ≤ c) (hd : ∀ x ∈ d, 0 ≤ x ∧ x < 256)  (hL : n ≤ 2000) :
    Calls Tryd.prog 17 #[.pointer (some ⟨E, 0, none⟩), .int .i64 1, .slice A n c] W fun e W' => e = .returned (.bool true) ∧ ∃ ws2_ xs2_ v2_ T2_ D2_, PW (fun _ => True) w L0 E g h (upd s 1 (sendS (s 1))) (upd s 1 (sendS (s 1))) ws2_ xs2_ v2_ T2_ D2_ (m + 1) W' := by
  have HP := Aside0.mk P; have HT := Aside0.mk hT; have H0 := Aside0.mk h0; have HN := Aside0.mk hn; have HC := Aside0.mk hC; have HD := Aside0.mk hd
  have hl : n ≤ 140737488351232 := by omega
  have HZ : Aside0 (∀ a, a < 7 → ∀ k ∈ ub E ws xs v a, k ≠ 0) := ⟨fun a ha k hk e => h0 (mem_ubs.2 ⟨a, ha, by rw [← e]; exact hk⟩)⟩
  clear P hT h0 hn hC hd
  go_enter Tryd.func17, Tryd.ntmps17
  go_wp2_with fail
  (with_reducible refine (lentW A c n d W HN.out (HC.out W (Keeps.refl _ _)) hl).mono ?_)
  rintro e_ W1 ⟨G, rfl, hG, hGb, hb1⟩
  have HG := Aside0.mk hG
  have hGl := blk_lt hGb
  have P1 := Aside0.mk ((HP.out.root.reok (ok' := fun k => k ≠ G) (fun b hb _ => by omega)).below hb1)
  have k0 : W1.cell? ⟨E, 1, none⟩ = some (.pointer (some ⟨g 1, 0, none⟩)) := P1.out.cells.2.1
  have HGB := Aside0.mk hGb; have HGL := Aside0.mk hGl
  have HT1 := Aside0.mk (HT.out.keepsL P1.out.kept H0.out)
  clear hG hGb hb1 hGl
  go_wp2_with fail
  have hCin : ∀ W', Keeps W1 W' (ws 1) → Kd.C (Kd.int .u8) W' (some ⟨G, 0, none⟩) d.length d := fun W' hk_ => lent_C ((hk_.2.2.2.2 G HGL.out (fun hm_ => by
      have h1_ := HP.out.lt 1 (by decide) G (by rw [ub_ws (by decide)]; exact hm_)
      have h2_ := HG.out
      omega)).trans HGB.out) (by rw [HN.out]; exact hl)
  (with_reducible refine (sendW (some ⟨G, 0, none⟩) (n + 3) n d (fun k => k ≠ G) (g 1) (s 1) (ws 1) W1 HN.out (P1.out.link 1 (by decide)) hCin (by omega) HD.out hL HT1.out (fun k hk => HZ.out 1 (by decide) k (by rw [ub_ws (by decide)]; exact hk))).mono ?_)
  clear hCin
  rintro e_ W2 ⟨v1, T1, ws', B1, rfl, hTl1, hB1, hD1, hl2, hn2, hk2⟩
  have P2 := Aside0.mk (P1.out.link' (by decide) hl2 hn2 hk2)
  have HGB2 : Aside0 (W2.heap[G]? = _) := ⟨((P1.out.others (a := 1) (by decide) (by rw [ub_ws (by decide)]; exact hk2)).2 G _ HGB.out).trans HGB.out⟩
  have HGL2 := Aside0.mk (blk_lt HGB2.out)
  have HD1 := Aside0.mk hD1; have HB1 := Aside0.mk hB1; have HTL1 := Aside0.mk hTl1
  clear hD1 hB1 hTl1 hl2 hn2 hk2 k0
  go_wp2_with fail
  (with_reducible refine (keptW G A c n d W W2 HN.out HG.out HGL2.out (HC.out _ (trunc_keeps (Nat.le_of_lt HGL2.out) HG.out P2.out.kept)) HGB2.out hl).mono ?_)
  rintro e_ W3 ⟨rfl, hgr⟩
  have P3 := Aside0.mk (P2.out.spoil hgr ⟨_, HGB2.out⟩ HG.out)
  have HGL3 : Aside0 (G < W3.heap.size) := ⟨Nat.lt_of_lt_of_le HGL2.out hgr.size⟩
  have HD13 : Aside0 (DgRows B1 W3 v1 (dgF (s 1) (s 1).next d) T1) := ⟨HD1.out.move (fun k hb hlt => hgr.block k hlt (fun e => by
    have h1_ := HB1.out
    have h2_ := HGL.out
    injection e with e
    omega))⟩
  clear hgr
  have k2 : W3.cell? ⟨E, 3, none⟩ = some (.pointer (some ⟨h 1, 0, none⟩)) := P3.out.cells.2.2.2.1
  go_wp2_with fail
  (with_reducible refine (rsendW A c n d (h 1) (s 1) (xs 1) m W3 HN.out (P3.out.ref 1 (by decide)) (by omega) (fun W' hk_ => HC.out W' (P3.out.kept.trans hk_ (fun k hk => P3.out.own 3 (by decide) k (by rw [show (3 : Nat) = 1 + 2 from rfl, ub_xs (by decide)]; exact hk)))) hc HD.out hL).mono ?_)
  rintro e_ W4 ⟨v2, T2, xs', B2, rfl, hTl2, hB2, hD2, hl4, hn4, hk4⟩
  have P4 := Aside0.mk (P3.out.ref' (by decide) hl4 hn4 hk4)
  have HD14 : Aside0 (DgRows B1 W4 v1 (dgF (s 1) (s 1).next d) T1) := ⟨HD13.out.move (fun k hb hlt => hk4.2.2.2.2 k hlt (fun hm_ => by
    have h1_ := HP.out.lt 3 (by decide) k (by rw [show (3 : Nat) = 1 + 2 from rfl, ub_xs (by decide)]; exact hm_)
    have h2_ := HB1.out
    have h3_ := HGL.out
    have h4_ := HG.out
    omega))⟩
  have hM := many10 hL
  obtain ⟨gb1, cc1, rfl, hgb1, hgl1, hcc1, hat1⟩ := sl_at HD14.out.1 (by rw [HTL1.out]; omega)
  obtain ⟨gb2, cc2, rfl, hgb2, hgl2, hcc2, hat2⟩ := sl_at hD2.1 (by rw [hTl2]; omega)
  have HD2 := Aside0.mk hD2; have HB2 := Aside0.mk hB2; have HTL2 := Aside0.mk hTl2; have HAT1 := Aside0.mk hat1; have HAT2 := Aside0.mk hat2
  clear hD2 hB2 hTl2 hl4 hn4 hk4 k2 hat1 hat2 hgb1 hgl1 hcc1 hgb2 hgl2 hcc2 HD13 HD1
  obtain ⟨M, hMM⟩ : ∃ M, M = manyF n := ⟨_, rfl⟩
  rw [← hMM] at HTL1 HTL2 hM
  rw [HTL1.out] at HD14
  rw [HTL2.out] at HD2
  rw [HTL1.out, HTL2.out]
  have HMM := Aside0.mk hMM
  clear hMM
  obtain ⟨nx, hnx⟩ : ∃ nx, nx = (s 1).next := ⟨_, rfl⟩
  rw [← hnx] at HD14 HD2 ⊢
  have HNX := Aside0.mk hnx
  clear hnx
  have e4 : decide (nx = nx) = true := decide_eq_true rfl
  go_wp2_with fail
  go_loopw [15] (fun vj wr => ∃ j : Nat, vj = .int .i64 j ∧ Aside0 (j ≤ M) ∧ Aside0 (∃ k, wr = W4.drewN k)) (fun vj _ => M - (intOf vj).toNat)
  case atStart => exact ⟨0, rfl, ⟨Nat.zero_le _⟩, ⟨0, rfl⟩⟩
  case round =>
    obtain ⟨j, rfl, HJ, HW⟩ := hrel
    have hj := HJ.out
    obtain ⟨kk, hkk⟩ := HW.out
    have P5 : Aside0 (PW _ _ _ _ _ _ _ _ _ _ _ _ _ _ wr) := ⟨by rw [hkk]; exact P4.out.below (pw_below_drewN (Below.refl _ _) _)⟩
    have HD15 : Aside0 (DgRows B1 wr (.slice (some ⟨gb1, 0, none⟩) M cc1) (dgF (s 1) nx d) T1) := ⟨by rw [hkk]; exact HD14.out.below (pw_below_drewN (Below.refl _ _) _)⟩
    have HD25 : Aside0 (DgRows B2 wr (.slice (some ⟨gb2, 0, none⟩) M cc2) (dgF (s 1) nx d) T2) := ⟨by rw [hkk]; exact HD2.out.below (pw_below_drewN (Below.refl _ _) _)⟩
    clear hkk
    by_cases hlt : j < M
    · have z1 : decide ((j : Int) < (M : Int)) = true := decide_eq_true (by omega)
      have z1n : decide (j < M) = true := decide_eq_true hlt
      have HLT := Aside0.mk hlt
      obtain ⟨⟨A1, n1, c1⟩, ht1⟩ : ∃ t, T1[j]? = some t := ⟨_, List.getElem?_eq_getElem (by rw [HTL1.out]; exact hlt)⟩
      obtain ⟨⟨A2, n2, c2⟩, ht2⟩ : ∃ t, T2[j]? = some t := ⟨_, List.getElem?_eq_getElem (by rw [HTL2.out]; exact hlt)⟩
      have x1 : wr.cell? ⟨gb1, j, none⟩ = some (.slice A1 n1 c1) := sl_cell HD15.out.1 j _ ht1
      have x2 : wr.cell? ⟨gb2, j, none⟩ = some (.slice A2 n2 c2) := sl_cell HD25.out.1 j _ ht2
      have y1 := row_conv (HD15.out.2.1 j _ ht1)
      have y2 := row_conv (HD25.out.2.1 j _ ht2)
      dsimp only at y1 y2
      generalize strOfNums (dgF (s 1) nx d j) = SS at y1 y2
      have e1 : decide (SS = SS) = true := decide_eq_true rfl
      have q1 : (0 ≤ (j : Int)) = True := eq_true (by omega)
      have q2 : ((j : Int) < (M : Int)) = True := eq_true (by omega)
      clear hlt ht1 ht2
      go_wp2_with fail
      go_quiet (fail)
      go_wp2
      exact ⟨⟨j + 1, by rw [Int.natCast_add]; rfl, ⟨HLT.out⟩, ⟨by obtain ⟨k_, hk_⟩ := HW.out; exact ⟨k_ + nq, by rw [hk_, World.drewN_drewN]⟩⟩⟩, by have := HLT.out; simp only [intOf]; omega⟩
    have z1 : decide ((j : Int) < (M : Int)) = false := decide_eq_false (by omega)
    have z1n : decide (j < M) = false := decide_eq_false hlt
    clear hlt hj HW
    obtain ⟨Av, cv, hvv⟩ := Kd.R_slice (row_R (P5.out.rows 1 (by decide)))
    have k4 : wr.drew.cell? ⟨E, 5, none⟩ = some (.slice Av (T 1).length cv) := P5.out.cells.2.2.2.2.2.1.trans (congrArg some hvv)
    have HVV := Aside0.mk hvv
    clear hvv
    have HLV : Aside0 ((T 1).length ≤ 10 * m) := ⟨HP.out.small 1 (by decide)⟩
    generalize hlv : (T 1).length = lv at k4
    have HLVE := Aside0.mk hlv
    clear hlv
    go_wp2_with fail
    go_region_law (first | (refine Kd.R_append_rows_step KSl (w0 := wr.drew) 0 (by rfl) (.tmp 88) (.tmp 89) 24 30 (.slice none 0 0) 24 rfl Tryd.underlying24 infoSl rfl (by decide) (by omega) (.slice Av lv cv) (T 1) T2 _ _ _ (fun _ => True) (fun _ => False) rfl rfl ?aO ?aR (fun _ _ h => h) (fun _ h => h.elim) ?aF ?aB ?aS ?aL ?_; (case aO => (have h_ := row_R ((P5.out.below (below_drew1 (Below.refl _ _))).rows 1 (by decide)); rw [HVV.out, HLVE.out] at h_; exact h_)); (case aR => exact (by obtain ⟨A_, c_, e_, _, hC_⟩ := Kd.R_reads HD25.out.1; rw [HTL2.out] at e_ hC_; cases e_; exact Kd.C_drew hC_)); (case aF => exact fun _ _ => trivial); (case aB => exact Below.refl _ _); (case aS => exact Nat.zero_le _); (case aL => (have h1_ := HLV.out; (try have h2_ := hM.2); (try simp only [List.length_nil]); omega)); intro v3 w3 ho hb hg hat; obtain ⟨A3_, c3_, hv_⟩ := Kd.R_slice ho; obtain ⟨N3_, hN3_⟩ : ∃ N_, N_ = (T 1 ++ T2).length := ⟨_, rfl⟩; rw [← hN3_] at hv_; subst hv_; have HN3 := Aside0.mk hN3_; clear hN3_; have HO3 := Aside0.mk ho; have HG3 := Aside0.mk hg; have HAT3 := Aside0.mk hat; have c5_ := World.cell?_of_block (w := wr.drew) (w' := w3) (a := ⟨E, 5, none⟩) (hg.block E (blk_lt P5.out.blk) (fun e_ => P5.out.apart 5 6 (by decide) (by decide) (by decide) E (by rw [show (5 : Nat) = 1 + 4 from rfl, ub_v (by decide), HVV.out, HLVE.out]; rw [Option.mem_toList]; exact e_.symm) (by rw [ub_E]; simp))); have f5_ := World.frozen?_of_block (w := wr.drew) (w' := w3) (a := ⟨E, 5, none⟩) (hg.block E (blk_lt P5.out.blk) (fun e_ => P5.out.apart 5 6 (by decide) (by decide) (by decide) E (by rw [show (5 : Nat) = 1 + 4 from rfl, ub_v (by decide), HVV.out, HLVE.out]; rw [Option.mem_toList]; exact e_.symm) (by rw [ub_E]; simp))); rw [k4] at c5_; rw [show wr.drew.frozen? ⟨E, 5, none⟩ = false from P5.out.cells.2.2.2.2.2.2 5] at f5_; clear ho hb hg hat))
    all_goals
      obtain ⟨W6, hW6⟩ : ∃ W6, W6 = w3.setCell ⟨E, 5, none⟩ (.slice A3_ N3_ c3_) := ⟨_, rfl⟩
      rw [← hW6]
      have hgv : wr.drew.grownBy w3 (v 1).ownBlock := by rw [HVV.out, HLVE.out]; exact HG3.out
      have hat_ := hat_new HAT3.out (Nat.le_refl _)
      have hp6 := ((P5.out.below (below_drew1 (Below.refl _ _))).sent' (i := 1) (by decide) (v1 := .slice A3_ N3_ c3_) (Tn := T2) (Dn := (List.range M).map (fun j => dgF (s 1) nx d j)) hgv (R_row HO3.out) (by rw [HVV.out, HLVE.out]; exact hat_) (by rw [List.length_map, List.length_range, HTL2.out]) (fun j t_ d_ ht_ hd_ => by
          have hjl := (List.getElem?_eq_some_iff.1 ht_).1
          rw [HTL2.out] at hjl
          rw [List.getElem?_map, List.getElem?_range hjl] at hd_
          obtain rfl : dgF (s 1) nx d j = d_ := Option.some.inj hd_
          have h1_ := HD25.out.2.1 j t_ ht_
          have hok_ := (HP.out.ref 1 (by decide)).okay
          exact ⟨(h1_.below (below_drew1 (Below.refl _ _))).lower (Nat.zero_le _), fun b_ hb_ => by
            have h2_ := (h1_.own b_ hb_).1
            have h3_ := HB2.out
            have h4_ := HGL3.out
            omega, dg_range hok_ (by rw [HNX.out]; exact hok_.1) HD.out (by rw [HN.out]; exact hL) (by rw [HN.out, ← HMM.out]; exact hjl), Nat.le_trans (dg_small _ _ _ _) (by decide)⟩) (by have h_ := HLV.out; have h2_ := hM.2; have h3_ := HTL2.out; rw [List.length_append]; omega))
      rw [show (4 + 1 : Nat) = 5 from rfl, ← hW6] at hp6
      have P6 := Aside0.mk hp6
      have HD16 : Aside0 (DgRows B1 W6 (.slice (some ⟨gb1, 0, none⟩) M cc1) (dgF (s 1) nx d) T1) := ⟨HD15.out.move (fun k hb_ hlt_ => by
        have h1_ := HB1.out
        have h2_ := HGL.out
        have h3_ := HG.out
        have h4_ := HP.out.lt 6 (by decide) E (by rw [ub_E]; simp)
        have h5_ : (v 1).ownBlock ≠ some k := fun e_ => by
          have := HP.out.lt 5 (by decide) k (by rw [show (5 : Nat) = 1 + 4 from rfl, ub_v (by decide), e_]; simp)
          omega
        rw [hW6]
        exact (Below.heap_setCell w3 ⟨E, 5, none⟩ _ k (show k ≠ E by omega)).trans (hgv.block k hlt_ (fun e_ => h5_ e_.symm)))⟩
      clear hW6 hgv hat_ hp6 k4 c5_ f5_
      go_wp2_with fail
      have hrng : ∀ k, k < M → ∀ x ∈ dgF (s 1) nx d k, 0 ≤ x ∧ x < 256 := fun k hk => dg_range (HP.out.ref 1 (by decide)).okay (by rw [HNX.out]; exact (HP.out.ref 1 (by decide)).okay.1) HD.out (by rw [HN.out]; exact hL) (by rw [HN.out, ← HMM.out]; exact hk)
      (with_reducible refine (rows_owned HD16.out HTL1.out hM hrng).mono ?_)
      rintro e_ W7 ⟨rfl, hb7⟩
      have P7 := Aside0.mk (P6.out.below hb7)
      clear hb7
      go_wp2
      go_ret
      exact ⟨rfl, _, _, _, _, _, HP.out.unroot (P7.out.reok (fun _ _ _ => trivial))⟩
set_option maxHeartbeats 8000000 in
set_option maxRecDepth 100000 in
theorem sendsL1 (E : Nat) (g h : Nat → Nat) (s : Nat → LS) (ws xs : Nat → List Nat) (v : Nat → Value) (T : Nat → List Tri) (D : Nat → List (List Int)) (m : Nat) (A : Option Addr) (c n : Nat) (d : List Int) (W : World) (w : World) (L0 : List Nat) (P : PW (fun _ => True) w L0 E g h s s ws xs v T D m W) (hT : Tab W) (h0 : 0 ∉ ubs E ws xs v) (hm : m ≤ 1000) (hn : d.length = n) (hC : ∀ W', Keeps W W' (ubs E ws xs v) → Kd.C (Kd.int .u8) W' A d.length d) (hc : n ≤ c) (hd : ∀ x ∈ d, 0 ≤ x ∧ x < 256) (hl : n ≤ 140737488351232) (hL : 2000 < n) :
    Calls Tryd.prog 17 #[.pointer (some ⟨E, 0, none⟩), .int .i64 1, .slice A n c] W fun e W' => e = .returned (.bool true) ∧ ∃ v2_ T2_ D2_, PW (fun _ => True) w L0 E g h s s ws xs v2_ T2_ D2_ (m + 1) W' := by
  have HP := Aside0.mk P; have HT := Aside0.mk hT; have H0 := Aside0.mk h0; have HN := Aside0.mk hn; have HC := Aside0.mk hC; have HD := Aside0.mk hd
  have hl : n ≤ 140737488351232 := by omega
  have HZ : Aside0 (∀ a, a < 7 → ∀ k ∈ ub E ws xs v a, k ≠ 0) := ⟨fun a ha k hk e => h0 (mem_ubs.2 ⟨a, ha, by rw [← e]; exact hk⟩)⟩
  clear P hT h0 hn hC hd
  go_enter Tryd.func17, Tryd.ntmps17
  go_wp2_with fail
  (with_reducible refine (lentW A c n d W HN.out (HC.out W (Keeps.refl _ _)) hl).mono ?_)
  rintro e_ W1 ⟨G, rfl, hG, hGb, hb1⟩
  have HG := Aside0.mk hG
  have hGl := blk_lt hGb
  have P1 := Aside0.mk ((HP.out.root.reok (ok' := fun k => k ≠ G) (fun b hb _ => by omega)).below hb1)
  have k0 : W1.cell? ⟨E, 1, none⟩ = some (.pointer (some ⟨g 1, 0, none⟩)) := P1.out.cells.2.1
  have HGB := Aside0.mk hGb; have HGL := Aside0.mk hGl
  have HT1 := Aside0.mk (HT.out.keepsL P1.out.kept H0.out)
  clear hG hGb hb1 hGl
  go_wp2_with fail
  (with_reducible refine (Send_long (some ⟨g 1, 0, none⟩) (some ⟨G, 0, none⟩) n (n + 3) W1 hL).mono ?_)
  rintro e_ W2 ⟨rfl, rfl⟩
  have P2 := P1; have HGB2 := HGB; have HGL2 := HGL
  clear k0
  go_wp2_with fail
  (with_reducible refine (keptW G A c n d W W2 HN.out HG.out HGL2.out (HC.out _ (trunc_keeps (Nat.le_of_lt HGL2.out) HG.out P2.out.kept)) HGB2.out hl).mono ?_)
  rintro e_ W3 ⟨rfl, hgr⟩
  have P3 := Aside0.mk (P2.out.spoil hgr ⟨_, HGB2.out⟩ HG.out)
  clear hgr
  have k2 : W3.cell? ⟨E, 3, none⟩ = some (.pointer (some ⟨h 1, 0, none⟩)) := P3.out.cells.2.2.2.1
  go_wp2_with fail
  (with_reducible refine (rSend_long (h 1) A c n W3 hL).mono ?_)
  rintro e_ W4 ⟨rfl, rfl⟩
  have P4 := P3
  clear k2
  go_wp2_with fail
  go_loopw [15] (fun vj wr => vj = .int .i64 0 ∧ Aside0 (wr = W4)) (fun _ _ => 0)
  case atStart => exact ⟨rfl, ⟨rfl⟩⟩
  case round =>
    obtain ⟨rfl, HW⟩ := hrel
    obtain rfl := HW.out
    clear HW
    go_wp2_with fail
    generalize hnl : (.slice none 0 0 : Value) = vnl
    subst hnl
    have P5 := P4
    obtain ⟨Av, cv, hvv⟩ := Kd.R_slice (row_R (P5.out.rows 1 (by decide)))
    have k4 : wr.drew.cell? ⟨E, 5, none⟩ = some (.slice Av (T 1).length cv) := P5.out.cells.2.2.2.2.2.1.trans (congrArg some hvv)
    have HVV := Aside0.mk hvv
    clear hvv
    have HLV : Aside0 ((T 1).length ≤ 10 * m) := ⟨HP.out.small 1 (by decide)⟩
    generalize hlv : (T 1).length = lv at k4
    have HLVE := Aside0.mk hlv
    clear hlv
    go_wp2_with fail
    go_region_law (first | (refine Kd.R_append_rows_step KSl (w0 := wr.drew) 0 (by rfl) (.tmp 88) (.tmp 89) 24 30 (.slice none 0 0) 24 rfl Tryd.underlying24 infoSl rfl (by decide) (by omega) (.slice Av lv cv) (T 1) [] _ _ _ (fun _ => True) (fun _ => False) rfl rfl ?aO ?aR (fun _ _ h => h) (fun _ h => h.elim) ?aF ?aB ?aS ?aL ?_; (case aO => (have h_ := row_R ((P5.out.below (below_drew1 (Below.refl _ _))).rows 1 (by decide)); rw [HVV.out, HLVE.out] at h_; exact h_)); (case aR => exact Kd.C_nil _ _); (case aF => exact fun _ _ => trivial); (case aB => exact Below.refl _ _); (case aS => exact Nat.zero_le _); (case aL => (have h1_ := HLV.out; (try have h2_ := hM.2); (try simp only [List.length_nil]); omega)); intro v3 w3 ho hb hg hat; obtain ⟨A3_, c3_, hv_⟩ := Kd.R_slice ho; obtain ⟨N3_, hN3_⟩ : ∃ N_, N_ = (T 1 ++ []).length := ⟨_, rfl⟩; rw [← hN3_] at hv_; subst hv_; have HN3 := Aside0.mk hN3_; clear hN3_; have HO3 := Aside0.mk ho; have HG3 := Aside0.mk hg; have HAT3 := Aside0.mk hat; have c5_ := World.cell?_of_block (w := wr.drew) (w' := w3) (a := ⟨E, 5, none⟩) (hg.block E (blk_lt P5.out.blk) (fun e_ => P5.out.apart 5 6 (by decide) (by decide) (by decide) E (by rw [show (5 : Nat) = 1 + 4 from rfl, ub_v (by decide), HVV.out, HLVE.out]; rw [Option.mem_toList]; exact e_.symm) (by rw [ub_E]; simp))); have f5_ := World.frozen?_of_block (w := wr.drew) (w' := w3) (a := ⟨E, 5, none⟩) (hg.block E (blk_lt P5.out.blk) (fun e_ => P5.out.apart 5 6 (by decide) (by decide) (by decide) E (by rw [show (5 : Nat) = 1 + 4 from rfl, ub_v (by decide), HVV.out, HLVE.out]; rw [Option.mem_toList]; exact e_.symm) (by rw [ub_E]; simp))); rw [k4] at c5_; rw [show wr.drew.frozen? ⟨E, 5, none⟩ = false from P5.out.cells.2.2.2.2.2.2 5] at f5_; clear ho hb hg hat))
    all_goals
      obtain ⟨W6, hW6⟩ : ∃ W6, W6 = w3.setCell ⟨E, 5, none⟩ (.slice A3_ N3_ c3_) := ⟨_, rfl⟩
      rw [← hW6]
      have hgv : wr.drew.grownBy w3 (v 1).ownBlock := by rw [HVV.out, HLVE.out]; exact HG3.out
      have hat_ := hat_new HAT3.out (Nat.le_refl _)
      have hp6 := ((P5.out.below (below_drew1 (Below.refl _ _))).sent' (i := 1) (by decide) (v1 := .slice A3_ N3_ c3_) (Tn := []) (Dn := []) hgv (R_row HO3.out) (by rw [HVV.out, HLVE.out]; exact hat_) (by rfl) (fun j t_ d_ ht_ hd_ => by cases ht_) (by have h_ := HLV.out; rw [List.append_nil]; rw [HLVE.out]; rw [HLVE.out] at h_; exact h_))
      rw [show (4 + 1 : Nat) = 5 from rfl, ← hW6] at hp6
      have P6 := Aside0.mk hp6
      clear hW6 hgv hat_ hp6 k4 c5_ f5_
      go_wp2_with fail
      (with_reducible refine (Owned_nil W6).mono ?_)
      rintro e_ W7 ⟨rfl, hb7⟩
      have P7 := Aside0.mk (P6.out.below hb7)
      clear hb7
      go_wp2
      go_ret
      exact ⟨rfl, _, _, _, HP.out.unroot ((P7.out.reok (fun _ _ _ => trivial)).mono (Nat.le_succ m))⟩
end Go.Proofs.YtbdocgddidcfeaaDoor
namespace Go.Proofs.YtbdocgddidcfeaaDoor
open Go.RowKit Go.Proofs.YtbdocgddidcfeaaDoorW.PrintWords Go.Proofs.YtbdocgddidcfeaaDoorW.PrintLast Go.Proofs.YtbdocgddidcfeaaDoorW.PrintMore
set_option linter.unusedVariables false
set_option linter.unusedSimpArgs false
open PLinkPlays
def p2 {α : Type} (a b : α) (i : Nat) : α := if i = 0 then a else b
theorem PW.init {w W : World} {E g0 g1 h0 h1 : Nat} {ws0 ws1 xs0 xs1 : List Nat} {a b : LS} (hblk : W.heap[E]? = some (.cells #[.pointer (some ⟨g0, 0, none⟩), .pointer (some ⟨g1, 0, none⟩), .pointer (some ⟨h0, 0, none⟩), .pointer (some ⟨h1, 0, none⟩), .slice none 0 0, .slice none 0 0] 46 (0, 0)))
    (hl0 : LinkO (fun _ => True) W g0 a ws0) (hl1 : LinkO (fun _ => True) W g1 b ws1) (hr0 : RefM W h0 a xs0 0) (hr1 : RefM W h1 b xs1 0) (S1 S2 S3 S4 : Nat) (a0 : w.heap.size ≤ E) (a1 : E < S1) (a2 : ∀ k ∈ ws0, S1 ≤ k ∧ k < S2) (a3 : ∀ k ∈ ws1, S2 ≤ k ∧ k < S3) (a4 : ∀ k ∈ xs0, S3 ≤ k ∧ k < S4) (a5 : ∀ k ∈ xs1, S4 ≤ k) (hs : S1 ≤ S2 ∧ S2 ≤ S3 ∧ S3 ≤ S4) (hb : Below w.heap.size w W) :
    PW (fun _ => True) w [] E (p2 g0 g1) (p2 h0 h1) (p2 a b) (p2 a b) (p2 ws0 ws1) (p2 xs0 xs1) (fun _ => .slice none 0 0) (fun _ => []) (fun _ => []) 0 W := by
  have two : ∀ {i : Nat}, i < 2 → i = 0 ∨ i = 1 := fun h => by omega
  have key : ∀ q, q < 7 → ∀ k ∈ ub E (p2 ws0 ws1) (p2 xs0 xs1) (fun _ => .slice none 0 0) q, (q = 0 ∧ S1 ≤ k ∧ k < S2) ∨ (q = 1 ∧ S2 ≤ k ∧ k < S3) ∨ (q = 2 ∧ S3 ≤ k ∧ k < S4) ∨ (q = 3 ∧ S4 ≤ k) ∨ (q = 6 ∧ k < S1 ∧ w.heap.size ≤ k) := by
    intro q hq k hk
    have h7 : q = 0 ∨ q = 1 ∨ q = 2 ∨ q = 3 ∨ q = 4 ∨ q = 5 ∨ q = 6 := by omega
    rcases h7 with rfl | rfl | rfl | rfl | rfl | rfl | rfl
    · exact .inl ⟨rfl, a2 k hk⟩
    · exact .inr (.inl ⟨rfl, a3 k hk⟩)
    · exact .inr (.inr (.inl ⟨rfl, a4 k hk⟩))
    · exact .inr (.inr (.inr (.inl ⟨rfl, a5 k hk⟩)))
    · cases hk
    · cases hk
    · rw [ub_E, List.mem_singleton] at hk
      subst hk
      exact .inr (.inr (.inr (.inr ⟨rfl, a1, a0⟩)))
  refine ⟨hblk, fun i hi => ?_, fun i hi => ?_, fun i hi => ⟨rfl, .inl ⟨rfl, rfl⟩⟩, fun i hi => rfl, fun i j t d hi ht hd => (by cases ht), fun p q hp hq hne k hkp hkq => ?_, Keeps.of_below hb [], fun q hq k hk => .inr ?_, fun i hi => Nat.zero_le _⟩
  · rcases two hi with rfl | rfl
    · exact hl0
    · exact hl1
  · rcases two hi with rfl | rfl
    · exact hr0
    · exact hr1
  · have h1 := key p hp k hkp
    have h2 := key q hq k hkq
    omega
  · have h1 := key q hq k hk
    omega
theorem link_set2 {W : World} {E gg : Nat} {s : LS} {ws : List Nat} {cs : Array Value} (h : LinkO (fun _ => True) W gg s ws) (hn : E ∉ ws) (hE : W.heap[E]? = some (.cells cs 46 (0, 0))) (i j : Nat) (u v : Value) : LinkO (fun _ => True) ((W.setCell ⟨E, i, none⟩ u).setCell ⟨E, j, none⟩ v) gg s ws := by
  have far : ∀ k, k ≠ E → ((W.setCell ⟨E, i, none⟩ u).setCell ⟨E, j, none⟩ v).heap[k]? = W.heap[k]? := fun k hk => (Below.heap_setCell _ ⟨E, j, none⟩ v k hk).trans (Below.heap_setCell W ⟨E, i, none⟩ u k hk)
  exact h.frame (fun k hk => far k (fun e => hn (by rw [← e]; exact hk))) (fun k c _ hc => far k (fun e => by rw [e, hE] at hc; injection hc with hc; injection hc with _ hc; cases hc))
theorem ref_set2 {W : World} {E gg : Nat} {s : LS} {ws : List Nat} {m : Nat} (h : RefM W gg s ws m) (hn : E ∉ ws) (i j : Nat) (u v : Value) : RefM ((W.setCell ⟨E, i, none⟩ u).setCell ⟨E, j, none⟩ v) gg s ws m :=
  h.keep (fun k hk => (Below.heap_setCell _ ⟨E, j, none⟩ v k (show k ≠ E from fun e => hn (by rw [← e]; exact hk))).trans (Below.heap_setCell W ⟨E, i, none⟩ u k (show k ≠ E from fun e => hn (by rw [← e]; exact hk))))
theorem PW.zero {ok : Nat → Prop} {w W : World} {E : Nat} {g h : Nat → Nat} {s r : Nat → LS} {ws xs : Nat → List Nat} {v : Nat → Value} {T : Nat → List Tri} {D : Nat → List (List Int)} {m : Nat} (P : PW ok w [] E g h s r ws xs v T D m W) (hT : Tab w) : 0 ∉ ubs E ws xs v := fun h => by
  obtain ⟨a, ha, hk⟩ := mem_ubs.1 h
  rcases P.own a ha 0 hk with q | q
  · cases q
  · have := hT.pos; omega
theorem PW.ownw {ok : Nat → Prop} {w W : World} {E : Nat} {g h : Nat → Nat} {s r : Nat → LS} {ws xs : Nat → List Nat} {v : Nat → Value} {T : Nat → List Tri} {D : Nat → List (List Int)} {m : Nat} (P : PW ok w [] E g h s r ws xs v T D m W) : ∀ k ∈ ubs E ws xs v, w.heap.size ≤ k := fun k hk => by
  obtain ⟨a, ha, hk⟩ := mem_ubs.1 hk
  rcases P.own a ha k hk with q | q
  · cases q
  · exact q
theorem PW.read {ok : Nat → Prop} {w W : World} {L0 : List Nat} {E : Nat} {g h : Nat → Nat} {s r : Nat → LS} {ws xs : Nat → List Nat} {v : Nat → Value} {T : Nat → List Tri} {D : Nat → List (List Int)} {m : Nat} (P : PW ok w L0 E g h s r ws xs v T D m W) {i j : Nat} (hi : i < 2) (hj : j < (T i).length) :
    ∃ A n c d, (T i)[j]? = some (A, n, c) ∧ d.length = n ∧ n ≤ c ∧ (∀ W', Keeps W W' (ubs E ws xs v) → Kd.C (Kd.int .u8) W' A d.length d) ∧ (∀ x ∈ d, 0 ≤ x ∧ x < 256) ∧ n ≤ 140737488351232 := by
  obtain ⟨⟨A, n, c⟩, ht⟩ : ∃ t, (T i)[j]? = some t := ⟨_, List.getElem?_eq_getElem hj⟩
  obtain ⟨d, hd⟩ : ∃ d, (D i)[j]? = some d := ⟨_, List.getElem?_eq_getElem (by rw [P.dlen i hi]; exact hj)⟩
  obtain ⟨h1, _, h3, h4⟩ := P.dg i j _ d hi ht hd
  obtain ⟨e1, e2, _⟩ := RS.C h1
  change n = d.length at e1
  change d.length ≤ c at e2
  refine ⟨A, n, c, d, ht, e1.symm, by omega, fun W' hk => ?_, h3, by omega⟩
  exact (RS.C (h1.u8_move (fun k cs _ hc => hk.2.2.2.2 k (blk_lt hc) (fun hm => by
    obtain ⟨a, ha, hka⟩ := mem_ubs.1 hm
    exact P.noU8 a ha k hka cs hc)))).2.2
theorem ackedW (g : Nat) (s : LS) (ws : List Nat) (w : World) (h : LinkO (fun _ => True) w g s ws) : Calls Tryd.prog 14 #[.pointer (some ⟨g, 0, none⟩)] w
    fun e w' => ∃ v, e = .returned v ∧ Kd.R (Kd.int .i64) 3 w' w.heap.size (fun _ => True) v (ackedF s) ∧ Below w.heap.size w w' := @Acked_calls ⟨⟨fun _ => True⟩⟩ g s ws w h
theorem int_form {W : World} {base : Nat} {ok : Nat → Prop} {A : Option Addr} {c : Nat} {l : List Int} (h : Kd.R (Kd.int .i64) 3 W base ok (.slice A l.length c) l) : l.length = 0 ∨ ∃ ga, A = some ⟨ga, 0, none⟩ ∧ ∀ (i : Nat) x, l[i]? = some x → W.cell? ⟨ga, i, none⟩ = some (.int .i64 x) := by
  by_cases h0 : l.length = 0
  · exact .inl h0
  · refine .inr ?_
    obtain ⟨ga, ca, hv, _, _, _⟩ := Kd.R_form h (by omega)
    cases hv
    refine ⟨ga, rfl, fun i x hx => ?_⟩
    obtain ⟨ad, hA, hc⟩ := Kd.at_int (Kd.R_reads' h).2.2 (i : Int) (by omega) (by have := (List.getElem?_eq_some_iff.1 hx).1; omega)
    cases hA
    rw [Int.toNat_natCast, add_plain] at hc
    have hl := (List.getElem?_eq_some_iff.1 hx).1
    rw [hc, rd_get' hl]
    have := (List.getElem?_eq_some_iff.1 hx).2
    rw [this]
theorem and_1 (z : Int) : bits .and .i64 z 1 = z % 2 := by
  show IntKind.i64.wrap (((BitVec.ofInt 64 z) &&& (BitVec.ofInt 64 1)).toNat : Int) = z % 2
  rw [BitVec.toNat_and, show (BitVec.ofInt 64 1).toNat = 2 ^ 1 - 1 by decide, Nat.and_two_pow_sub_one_eq_mod, IntKind.wrap_i64, BitVec.toNat_ofInt]
  have h : (((z % (2 ^ 64 : Nat)).toNat % 2 ^ 1 : Nat) : Int) = z % 2 := by
    have : (0 : Int) ≤ z % (2 ^ 64 : Nat) := Int.emod_nonneg _ (by decide)
    rw [Int.natCast_emod, Int.toNat_of_nonneg this]
    show z % 18446744073709551616 % 2 = z % 2
    omega
  rw [h]
  omega
set_option maxHeartbeats 8000000 in
set_option maxRecDepth 100000 in
theorem LinkPlays_calls (first other : Int) (A : Option Addr) (c : Nat) (X : List ActD) (w : World) (hT : Tab w) (hR : ActsIn w A c X) (h1 : w64 first) (h2 : w64 other) :
    Calls Tryd.prog 6 #[.int .i64 first, .int .i64 other, .slice A X.length c] w fun e w' => e = .returned (.bool true) ∧ Below w.heap.size w w' := by
  have HT := Aside0.mk hT; have HR := Aside0.mk hR; have H1 : Aside0 (-9223372036854775808 ≤ first ∧ first ≤ 9223372036854775807) := ⟨h1⟩; have H2 : Aside0 (-9223372036854775808 ≤ other ∧ other ≤ 9223372036854775807) := ⟨h2⟩
  have hsm := hR.small
  obtain ⟨n, hn⟩ : ∃ n, n = X.length := ⟨_, rfl⟩
  rw [← hn] at hsm ⊢
  have HN := Aside0.mk hn
  clear hT hR hn h1 h2
  go_enter Tryd.func6, Tryd.ntmps6
  go_wp2_with fail
  ((with_reducible refine (awake_calls w HT.out).mono ?_); rintro e_ W1 ⟨rfl, hb1⟩)
  have HB := Aside0.mk hb1
  clear hb1
  go_wp2_with fail
  obtain ⟨E, hE⟩ : ∃ E, E = W1.heap.size := ⟨_, rfl⟩
  obtain ⟨W2, hW2⟩ : ∃ W2, W2 = W1.alloc (.cells #[.pointer none, .pointer none, .pointer none, .pointer none, .slice none 0 0, .slice none 0 0] 46) := ⟨_, rfl⟩
  rw [← hW2, ← hE]
  have HB2 : Aside0 (Below w.heap.size w W2) := ⟨by rw [hW2]; exact HB.out.alloc HB.out.size _⟩
  have HE2 : Aside0 (W2.heap[E]? = some (.cells #[.pointer none, .pointer none, .pointer none, .pointer none, .slice none 0 0, .slice none 0 0] 46 (0, 0))) := ⟨by rw [hW2, hE]; exact blk_new W1 _⟩
  have HEw : Aside0 (w.heap.size ≤ E) := ⟨by rw [hE]; exact HB.out.size⟩
  clear hE hW2 HB
  ((with_reducible refine (New_calls first W2).mono ?_); rintro e_ W3 ⟨g0, ws0, rfl, hl0, ho0, hb3⟩)
  have HL0 := Aside0.mk hl0; have HO0 := Aside0.mk ho0; have HB3 := Aside0.mk hb3
  clear hl0 ho0 hb3
  go_wp2_with fail
  ((with_reducible refine (New_calls other W3).mono ?_); rintro e_ W4 ⟨g1, ws1, rfl, hl1, ho1, hb4⟩)
  have HL1 := Aside0.mk hl1; have HO1 := Aside0.mk ho1; have HB4 := Aside0.mk hb4
  clear hl1 ho1 hb4
  have hE4 : W4.heap[E]? = _ := (HB4.out.block E (by have := blk_lt HE2.out; have := below_size HB3.out; omega)).trans ((HB3.out.block E (blk_lt HE2.out)).trans HE2.out)
  have x0 : W4.cell? ⟨E, 0, none⟩ = some (.pointer none) := (blk_cell hE4 0).trans rfl
  have x1 : W4.cell? ⟨E, 1, none⟩ = some (.pointer none) := (blk_cell hE4 1).trans rfl
  have f0 : W4.frozen? ⟨E, 0, none⟩ = false := blk_frozen hE4 0
  have f1 : W4.frozen? ⟨E, 1, none⟩ = false := blk_frozen hE4 1
  have HE4 := Aside0.mk hE4
  clear hE4
  go_wp2_with fail
  obtain ⟨W5, hW5⟩ : ∃ W5, W5 = (W4.setCell ⟨E, 0, none⟩ (.pointer (some ⟨g0, 0, none⟩))).setCell ⟨E, 1, none⟩ (.pointer (some ⟨g1, 0, none⟩)) := ⟨_, rfl⟩
  rw [← hW5]
  have hz5 : W5.heap.size = W4.heap.size := by rw [hW5, World.size_setCell, World.size_setCell]
  have HE5 : Aside0 (W5.heap[E]? = some (.cells #[.pointer (some ⟨g0, 0, none⟩), .pointer (some ⟨g1, 0, none⟩), .pointer none, .pointer none, .slice none 0 0, .slice none 0 0] 46 (0, 0))) := ⟨by rw [hW5]; exact blk_put (blk_put HE4.out 0 _ rfl) 1 _ rfl⟩
  have HE0 : Aside0 (E < W2.heap.size) := ⟨blk_lt HE2.out⟩
  have HN0 : Aside0 (E ∉ ws0) := ⟨fun h => by have := HO0.out E h; have := HE0.out; omega⟩
  have HN1 : Aside0 (E ∉ ws1) := ⟨fun h => by have := HO1.out E h; have := HE0.out; have := below_size HB3.out; omega⟩
  have HL05 : Aside0 (LinkO (fun _ => True) W5 g0 (newS first) ws0) := ⟨by rw [hW5]; exact link_set2 (HL0.out.below HB4.out) HN0.out HE4.out _ _ _ _⟩
  have HL15 : Aside0 (LinkO (fun _ => True) W5 g1 (newS other) ws1) := ⟨by rw [hW5]; exact link_set2 HL1.out HN1.out HE4.out _ _ _ _⟩
  have HB5 : Aside0 (Below w.heap.size w W5) := ⟨by rw [hW5]; exact ((below_step (below_step HB2.out HB3.out) HB4.out).setCell (p := ⟨E, 0, none⟩) HEw.out _).setCell (p := ⟨E, 1, none⟩) HEw.out _⟩
  have HZ5 := Aside0.mk hz5
  clear hW5 x0 x1 f0 f1 hz5
  ((with_reducible refine (rNew_calls first W5 H1.out.1 H1.out.2).mono ?_); rintro e_ W6 ⟨h0, xs0, rfl, hr0, hq0, hb6⟩)
  have HR0 := Aside0.mk hr0; have HQ0 := Aside0.mk hq0; have HB6 := Aside0.mk hb6
  clear hr0 hq0 hb6
  go_wp2_with fail
  ((with_reducible refine (rNew_calls other W6 H2.out.1 H2.out.2).mono ?_); rintro e_ W7 ⟨h1, xs1, rfl, hr1, hq1, hb7⟩)
  have HR1 := Aside0.mk hr1; have HQ1 := Aside0.mk hq1; have HB7 := Aside0.mk hb7
  clear hr1 hq1 hb7
  have hE7 : W7.heap[E]? = _ := (HB7.out.block E (by have := blk_lt HE5.out; have := below_size HB6.out; omega)).trans ((HB6.out.block E (blk_lt HE5.out)).trans HE5.out)
  have x2 : W7.cell? ⟨E, 2, none⟩ = some (.pointer none) := (blk_cell hE7 2).trans rfl
  have x3 : W7.cell? ⟨E, 3, none⟩ = some (.pointer none) := (blk_cell hE7 3).trans rfl
  have f2 : W7.frozen? ⟨E, 2, none⟩ = false := blk_frozen hE7 2
  have f3 : W7.frozen? ⟨E, 3, none⟩ = false := blk_frozen hE7 3
  have HE7 := Aside0.mk hE7
  clear hE7
  go_upto_region 5 with fail
  obtain ⟨W8, hW8⟩ : ∃ W8, W8 = (W7.setCell ⟨E, 2, none⟩ (.pointer (some ⟨h0, 0, none⟩))).setCell ⟨E, 3, none⟩ (.pointer (some ⟨h1, 0, none⟩)) := ⟨_, rfl⟩
  rw [← hW8]
  have HM0 : Aside0 (E ∉ xs0) := ⟨fun h => by have := HQ0.out E h; have := blk_lt HE5.out; omega⟩
  have HM1 : Aside0 (E ∉ xs1) := ⟨fun h => by have := HQ1.out E h; have := blk_lt HE5.out; have := below_size HB6.out; omega⟩
  have hp8 := PW.init (w := w) (W := W8) (E := E) (g0 := g0) (g1 := g1) (h0 := h0) (h1 := h1) (ws0 := ws0) (ws1 := ws1) (xs0 := xs0) (xs1 := xs1) (a := newS first) (b := newS other)
    (by rw [hW8]; exact blk_put (blk_put HE7.out 2 _ rfl) 3 _ rfl)
    (by rw [hW8]; exact link_set2 ((HL05.out.below HB6.out).below HB7.out) HN0.out HE7.out _ _ _ _) (by rw [hW8]; exact link_set2 ((HL15.out.below HB6.out).below HB7.out) HN1.out HE7.out _ _ _ _)
    (by rw [hW8]; exact ref_set2 (HR0.out.below HB7.out) HM0.out _ _ _ _) (by rw [hW8]; exact ref_set2 HR1.out HM1.out _ _ _ _)
    W2.heap.size W3.heap.size W4.heap.size W6.heap.size HEw.out HE0.out (fun k hk => ⟨HO0.out k hk, HL0.out.lt k hk⟩) (fun k hk => ⟨HO1.out k hk, HL1.out.lt k hk⟩) (fun k hk => ⟨by rw [← HZ5.out]; exact HQ0.out k hk, HR0.out.lt k hk⟩) (fun k hk => HQ1.out k hk)
    ⟨below_size HB3.out, below_size HB4.out, by rw [← HZ5.out]; exact below_size HB6.out⟩
    (by rw [hW8]; exact ((below_step (below_step HB5.out HB6.out) HB7.out).setCell (p := ⟨E, 2, none⟩) HEw.out _).setCell (p := ⟨E, 3, none⟩) HEw.out _)
  have HP8 := Aside0.mk hp8
  clear hW8 x2 x3 f2 f3 hp8 HB7 HB6 HE5 HE7 HR0 HR1 HQ0 HQ1 HL05 HL15 HL0 HL1 HB5 HZ5 HE4 HB3 HB4 HO0 HO1 HE2 HE0 HN0 HN1 HM0 HM1 HB2
  have k0 : W8.cell? ⟨E, 0, none⟩ = some (.pointer (some ⟨g0, 0, none⟩)) := HP8.out.cells.1
  have k1 : W8.cell? ⟨E, 1, none⟩ = some (.pointer (some ⟨g1, 0, none⟩)) := HP8.out.cells.2.1
  go_wp2_with fail
  ((with_reducible refine (Newer_calls first other W8).mono ?_); rintro e_ W9 ⟨rfl, rfl⟩)
  go_wp2_with fail
  have hnf := newer_f first other H1.out.1 H1.out.2 H2.out.1 H2.out.2
  ((with_reducible refine (tiltyardref07_Newer.calls first other _ W9 hnf).mono ?_); rintro e_ W10 ⟨rfl, hd10⟩)
  have HP10 := Aside0.mk (HP8.out.below hd10.below)
  clear hnf hd10 HP8 k0 k1
  generalize newerF first other = bb
  have e1 : (bb == bb) = true := beq_self_eq_true _
  have e2 : (bb != bb) = false := bne_self_eq_false _
  go_wp2_with fail
  clear e1 e2
  obtain ⟨g, hg_⟩ : ∃ g, g = p2 g0 g1 := ⟨_, rfl⟩
  obtain ⟨h, hh_⟩ : ∃ h, h = p2 h0 h1 := ⟨_, rfl⟩
  rw [← hg_, ← hh_] at HP10
  clear hg_ hh_
  go_loopw [9] (fun vi wr => ∃ (k : Nat) (s : Nat → LS) (ws xs : Nat → List Nat) (v : Nat → Value) (T : Nat → List Tri) (D : Nat → List (List Int)), vi = .int .i64 k ∧ Aside0 (k ≤ n ∧ k ≤ 300) ∧ Aside0 (PW (fun _ => True) w [] E g h s s ws xs v T D k wr)) (fun vi _ => n - (intOf vi).toNat)
  case atStart => exact ⟨0, _, _, _, _, _, _, rfl, ⟨Nat.zero_le _, Nat.zero_le _⟩, HP10⟩
  case round =>
    clear HP10
    obtain ⟨k, s, ws, xs, v, T, D, rfl, HK, HP⟩ := hrel
    have hk := HK.out
    have HBE : Aside0 (Below w.heap.size w wr) := ⟨HP.out.kept.below (Nat.le_refl _) (fun k hk => by cases hk)⟩
    by_cases hx : k < n
    · have dx : decide (k < n) = true := decide_eq_true hx
      have dx' : decide ((k : Int) < (n : Int)) = true := decide_eq_true (by omega)
      by_cases hy : k < 300
      · have dy : decide (k < 300) = true := decide_eq_true hy
        have dy' : decide ((k : Int) < 300) = true := decide_eq_true (by omega)
        obtain ⟨ab, ao, what, who, which, A2, c2, l, rfl, hX, hc0, hc1, hc2, hc3, hby, hw0, hw1, hw2⟩ := (HR.out.below HBE.out).at k (by have := HN.out; omega)
        have hby0 := (HR.out.each k _ hX).1
        have hcap : l.length ≤ c2 := hby0.cap
        have hsml : l.length ≤ 140737488351232 := hby0.small
        obtain ⟨m, hm⟩ : ∃ m, m = l.length := ⟨_, rfl⟩
        rw [← hm] at hc3 hcap hsml
        have HM := Aside0.mk hm; have HBY := Aside0.mk hby0; have HHK := Aside0.mk (⟨hx, hy⟩ : k < n ∧ k < 300)
        have q1 : (0 ≤ (k : Int)) = True := eq_true (by omega)
        have q2 : ((k : Int) < (n : Int)) = True := eq_true (by omega)
        clear hm hby hby0 hX hw0 hw1 hw2 hk hx hy
        have hand := and_1 who
        obtain ⟨b, hb⟩ : ∃ b, b = who % 2 := ⟨_, rfl⟩
        have hb2 : b = 0 ∨ b = 1 := by omega
        rw [← hb] at hand
        have HB2 := Aside0.mk hb2
        clear hb hb2
        go_upto_block 2 with (fail)
        go_cut [12] (fun v12 wc => v12 = .bool true ∧ ∃ (s' : Nat → LS) (ws' xs' : Nat → List Nat) (v' : Nat → Value) (T' : Nat → List Tri) (D' : Nat → List (List Int)), Aside0 (PW (fun _ => True) w [] E g h s' s' ws' xs' v' T' D' (k + 1) wc))
        case first =>
          obtain ⟨WA, hWA⟩ : ∃ WA, WA = wr.alloc (.cells #[.int .i64 what, .int .i64 who, .int .i64 which, .slice A2 m c2] 35) := ⟨_, rfl⟩
          rw [← hWA]
          have HPA : Aside0 (PW (fun _ => True) w [] E g h s s ws xs v T D k WA) := ⟨by rw [hWA]; exact HP.out.below (below_alloc (Below.refl _ _) _)⟩
          have hblk : WA.heap[wr.heap.size]? = some (.cells #[.int .i64 what, .int .i64 who, .int .i64 which, .slice A2 m c2] 35 (0, 0)) := by rw [hWA]; exact blk_new wr _
          have a0 : WA.cell? ⟨wr.heap.size, 0, none⟩ = some (.int .i64 what) := (blk_cell hblk 0).trans rfl
          have a2 : WA.cell? ⟨wr.heap.size, 2, none⟩ = some (.int .i64 which) := (blk_cell hblk 2).trans rfl
          have a3 : WA.cell? ⟨wr.heap.size, 3, none⟩ = some (.slice A2 m c2) := (blk_cell hblk 3).trans rfl
          have HBA : Aside0 (Below w.heap.size w WA) := ⟨HPA.out.kept.below (Nat.le_refl _) (fun k hk => by cases hk)⟩
          have hk300 : k ≤ 300 := by have := HHK.out.2; omega
          clear hc0 hc1 hc2 hc3 hWA hblk HBE HP hand dx dx' dy dy' q1 q2
          rcases HB2.out with rfl | rfl
          · by_cases h0 : what = 0
            · have d0 : (what == 0) = true := beq_iff_eq.2 h0
              have d0' : decide (what = 0) = true := decide_eq_true h0
              clear h0
              by_cases hz : m ≤ 2000
              · have hcall := sendsS0 E g h s ws xs v T D k A2 c2 m l WA w [] HPA.out (HT.out.below HBA.out) (HPA.out.zero HT.out) (by omega) HM.out.symm (HBY.out.kept HBA.out HPA.out.ownw) hcap HBY.out.byte hz
                go_wp2_with fail
                (with_reducible refine hcall.mono ?_)
                rintro e_ W3 ⟨rfl, ws2_, xs2_, v2_, T2_, D2_, hp⟩
                have HP3 := Aside0.mk hp
                clear hp hcall
                go_wp2
                go_meet
                exact ⟨rfl, _, _, _, _, _, _, HP3⟩
              · have hcall := sendsL0 E g h s ws xs v T D k A2 c2 m l WA w [] HPA.out (HT.out.below HBA.out) (HPA.out.zero HT.out) (by omega) HM.out.symm (HBY.out.kept HBA.out HPA.out.ownw) hcap HBY.out.byte hsml (by omega)
                go_wp2_with fail
                (with_reducible refine hcall.mono ?_)
                rintro e_ W3 ⟨rfl, v2_, T2_, D2_, hp⟩
                have HP3 := Aside0.mk hp
                clear hp hcall
                go_wp2
                go_meet
                exact ⟨rfl, _, _, _, _, _, _, HP3⟩
            · have d0 : (what == 0) = false := beq_eq_false_iff_ne.2 h0
              have d0' : decide (what = 0) = false := decide_eq_false h0
              by_cases h1 : what = 1
              · have d1 : (what == 1) = true := beq_iff_eq.2 h1
                have d1' : decide (what = 1) = true := decide_eq_true h1
                clear h0 h1
                obtain ⟨Av, cv, hvv⟩ := Kd.R_slice (row_R (HPA.out.rows 1 (by decide)))
                have kv : WA.cell? ⟨E, 5, none⟩ = some (.slice Av (T 1).length cv) := HPA.out.cells.2.2.2.2.2.1.trans (congrArg some hvv)
                have hlv := HPA.out.small 1 (by decide)
                by_cases hl0 : (T 1).length = 0
                · rw [hl0] at kv
                  have HP3 := Aside0.mk (HPA.out.mono (Nat.le_succ k))
                  clear hl0 hlv hvv
                  go_wp2
                  go_meet
                  exact ⟨rfl, _, _, _, _, _, _, HP3⟩
                · have hand2 := and_65535 which
                  obtain ⟨lv, hlve⟩ : ∃ lv, lv = (T 1).length := ⟨_, rfl⟩
                  rw [← hlve] at kv hlv hl0
                  obtain ⟨y, hyw⟩ : ∃ y, y = which % 65536 := ⟨_, rfl⟩
                  have hyr : 0 ≤ y ∧ y < 65536 := by omega
                  rw [← hyw] at hand2
                  have hmodr : 0 ≤ y % (lv : Int) ∧ y % (lv : Int) < (lv : Int) := ⟨Int.emod_nonneg _ (by omega), Int.emod_lt_of_pos _ (by omega)⟩
                  obtain ⟨ix, hix⟩ : ∃ ix : Nat, y % (lv : Int) = (ix : Int) := ⟨(y % (lv : Int)).toNat, by omega⟩
                  rw [hix] at hmodr
                  have htm : Int.tmod y (lv : Int) = (ix : Int) := by rw [Int.tmod_eq_emod_of_nonneg hyr.1, hix]
                  obtain ⟨A3, n3, c3, d3, ht3, hn3, hc3_, hC3, hr3, hl3⟩ := HPA.out.read (i := 1) (j := ix) (by decide) (by rw [← hlve]; omega)
                  obtain ⟨gb, cc, hgb, _, _, _, hat⟩ := sl_at (row_R (HPA.out.rows 1 (by decide))) (by rw [← hlve]; omega)
                  rw [hvv, ← hlve] at hgb
                  cases hgb
                  have x3 : WA.cell? ⟨gb, ix, none⟩ = some (.slice A3 n3 c3) := hat ix _ ht3
                  have hcall := receives0 E g h s ws xs v T D k A3 c3 n3 d3 WA w [] HPA.out (HT.out.below HBA.out) (HPA.out.zero HT.out) (by omega) hn3 hC3 hc3_ hr3 hl3
                  have g0 : decide ((lv : Int) > 0) = true := decide_eq_true (by omega)
                  have g0' : decide ((0 : Int) < (lv : Int)) = true := decide_eq_true (by omega)
                  have g0n : decide (0 < lv) = true := decide_eq_true (by omega)
                  have g0p : (0 < lv) = True := eq_true (by omega)
                  have g1 : ((lv : Int) == 0) = false := beq_eq_false_iff_ne.2 (by omega)
                  have g1n : (lv == 0) = false := beq_eq_false_iff_ne.2 hl0
                  have g1p : (lv = 0) = False := eq_false hl0
                  have g2 : (0 ≤ (ix : Int)) = True := eq_true (by omega)
                  have g3 : ((ix : Int) < (lv : Int)) = True := eq_true (by omega)
                  have g3n : (ix < lv) = True := eq_true (by omega)
                  have g4 : IntKind.i64.wrap (ix : Int) = (ix : Int) := wrapI_small ix (by omega)
                  have HCALL := Aside0.mk hcall
                  clear hcall hvv hat ht3 hn3 hC3 hr3 hix hmodr hyw hlve hl3 hc3_
                  go_wp2_with fail
                  (with_reducible refine HCALL.out.mono ?_)
                  rintro e_ W3 ⟨rfl, ws2_, xs2_, hp⟩
                  have HP3 := Aside0.mk hp
                  clear hp HCALL
                  go_wp2
                  go_meet
                  exact ⟨rfl, _, _, _, _, _, _, HP3⟩
              · have d1 : (what == 1) = false := beq_eq_false_iff_ne.2 h1
                have d1' : decide (what = 1) = false := decide_eq_false h1
                by_cases h2 : what = 2
                · have d2 : (what == 2) = true := beq_iff_eq.2 h2
                  have d2' : decide (what = 2) = true := decide_eq_true h2
                  have hcall := receives0 E g h s ws xs v T D k A2 c2 m l WA w [] HPA.out (HT.out.below HBA.out) (HPA.out.zero HT.out) (by omega) HM.out.symm (HBY.out.kept HBA.out HPA.out.ownw) hcap HBY.out.byte hsml
                  clear h0 h1 h2
                  go_wp2_with fail
                  (with_reducible refine hcall.mono ?_)
                  rintro e_ W3 ⟨rfl, ws2_, xs2_, hp⟩
                  have HP3 := Aside0.mk hp
                  clear hp hcall
                  go_wp2
                  go_meet
                  exact ⟨rfl, _, _, _, _, _, _, HP3⟩
                · have d2 : (what == 2) = false := beq_eq_false_iff_ne.2 h2
                  have d2' : decide (what = 2) = false := decide_eq_false h2
                  have HP3 := Aside0.mk (HPA.out.mono (Nat.le_succ k))
                  clear h0 h1 h2
                  go_wp2
                  go_meet
                  exact ⟨rfl, _, _, _, _, _, _, HP3⟩
          · by_cases h0 : what = 0
            · have d0 : (what == 0) = true := beq_iff_eq.2 h0
              have d0' : decide (what = 0) = true := decide_eq_true h0
              clear h0
              by_cases hz : m ≤ 2000
              · have hcall := sendsS1 E g h s ws xs v T D k A2 c2 m l WA w [] HPA.out (HT.out.below HBA.out) (HPA.out.zero HT.out) (by omega) HM.out.symm (HBY.out.kept HBA.out HPA.out.ownw) hcap HBY.out.byte hz
                go_wp2_with fail
                (with_reducible refine hcall.mono ?_)
                rintro e_ W3 ⟨rfl, ws2_, xs2_, v2_, T2_, D2_, hp⟩
                have HP3 := Aside0.mk hp
                clear hp hcall
                go_wp2
                go_meet
                exact ⟨rfl, _, _, _, _, _, _, HP3⟩
              · have hcall := sendsL1 E g h s ws xs v T D k A2 c2 m l WA w [] HPA.out (HT.out.below HBA.out) (HPA.out.zero HT.out) (by omega) HM.out.symm (HBY.out.kept HBA.out HPA.out.ownw) hcap HBY.out.byte hsml (by omega)
                go_wp2_with fail
                (with_reducible refine hcall.mono ?_)
                rintro e_ W3 ⟨rfl, v2_, T2_, D2_, hp⟩
                have HP3 := Aside0.mk hp
                clear hp hcall
                go_wp2
                go_meet
                exact ⟨rfl, _, _, _, _, _, _, HP3⟩
            · have d0 : (what == 0) = false := beq_eq_false_iff_ne.2 h0
              have d0' : decide (what = 0) = false := decide_eq_false h0
              by_cases h1 : what = 1
              · have d1 : (what == 1) = true := beq_iff_eq.2 h1
                have d1' : decide (what = 1) = true := decide_eq_true h1
                clear h0 h1
                obtain ⟨Av, cv, hvv⟩ := Kd.R_slice (row_R (HPA.out.rows 0 (by decide)))
                have kv : WA.cell? ⟨E, 4, none⟩ = some (.slice Av (T 0).length cv) := HPA.out.cells.2.2.2.2.1.trans (congrArg some hvv)
                have hlv := HPA.out.small 0 (by decide)
                by_cases hl0 : (T 0).length = 0
                · rw [hl0] at kv
                  have HP3 := Aside0.mk (HPA.out.mono (Nat.le_succ k))
                  clear hl0 hlv hvv
                  go_wp2
                  go_meet
                  exact ⟨rfl, _, _, _, _, _, _, HP3⟩
                · have hand2 := and_65535 which
                  obtain ⟨lv, hlve⟩ : ∃ lv, lv = (T 0).length := ⟨_, rfl⟩
                  rw [← hlve] at kv hlv hl0
                  obtain ⟨y, hyw⟩ : ∃ y, y = which % 65536 := ⟨_, rfl⟩
                  have hyr : 0 ≤ y ∧ y < 65536 := by omega
                  rw [← hyw] at hand2
                  have hmodr : 0 ≤ y % (lv : Int) ∧ y % (lv : Int) < (lv : Int) := ⟨Int.emod_nonneg _ (by omega), Int.emod_lt_of_pos _ (by omega)⟩
                  obtain ⟨ix, hix⟩ : ∃ ix : Nat, y % (lv : Int) = (ix : Int) := ⟨(y % (lv : Int)).toNat, by omega⟩
                  rw [hix] at hmodr
                  have htm : Int.tmod y (lv : Int) = (ix : Int) := by rw [Int.tmod_eq_emod_of_nonneg hyr.1, hix]
                  obtain ⟨A3, n3, c3, d3, ht3, hn3, hc3_, hC3, hr3, hl3⟩ := HPA.out.read (i := 0) (j := ix) (by decide) (by rw [← hlve]; omega)
                  obtain ⟨gb, cc, hgb, _, _, _, hat⟩ := sl_at (row_R (HPA.out.rows 0 (by decide))) (by rw [← hlve]; omega)
                  rw [hvv, ← hlve] at hgb
                  cases hgb
                  have x3 : WA.cell? ⟨gb, ix, none⟩ = some (.slice A3 n3 c3) := hat ix _ ht3
                  have hcall := receives1 E g h s ws xs v T D k A3 c3 n3 d3 WA w [] HPA.out (HT.out.below HBA.out) (HPA.out.zero HT.out) (by omega) hn3 hC3 hc3_ hr3 hl3
                  have g0 : decide ((lv : Int) > 0) = true := decide_eq_true (by omega)
                  have g0' : decide ((0 : Int) < (lv : Int)) = true := decide_eq_true (by omega)
                  have g0n : decide (0 < lv) = true := decide_eq_true (by omega)
                  have g0p : (0 < lv) = True := eq_true (by omega)
                  have g1 : ((lv : Int) == 0) = false := beq_eq_false_iff_ne.2 (by omega)
                  have g1n : (lv == 0) = false := beq_eq_false_iff_ne.2 hl0
                  have g1p : (lv = 0) = False := eq_false hl0
                  have g2 : (0 ≤ (ix : Int)) = True := eq_true (by omega)
                  have g3 : ((ix : Int) < (lv : Int)) = True := eq_true (by omega)
                  have g3n : (ix < lv) = True := eq_true (by omega)
                  have g4 : IntKind.i64.wrap (ix : Int) = (ix : Int) := wrapI_small ix (by omega)
                  have HCALL := Aside0.mk hcall
                  clear hcall hvv hat ht3 hn3 hC3 hr3 hix hmodr hyw hlve hl3 hc3_
                  go_wp2_with fail
                  (with_reducible refine HCALL.out.mono ?_)
                  rintro e_ W3 ⟨rfl, ws2_, xs2_, hp⟩
                  have HP3 := Aside0.mk hp
                  clear hp HCALL
                  go_wp2
                  go_meet
                  exact ⟨rfl, _, _, _, _, _, _, HP3⟩
              · have d1 : (what == 1) = false := beq_eq_false_iff_ne.2 h1
                have d1' : decide (what = 1) = false := decide_eq_false h1
                by_cases h2 : what = 2
                · have d2 : (what == 2) = true := beq_iff_eq.2 h2
                  have d2' : decide (what = 2) = true := decide_eq_true h2
                  have hcall := receives1 E g h s ws xs v T D k A2 c2 m l WA w [] HPA.out (HT.out.below HBA.out) (HPA.out.zero HT.out) (by omega) HM.out.symm (HBY.out.kept HBA.out HPA.out.ownw) hcap HBY.out.byte hsml
                  clear h0 h1 h2
                  go_wp2_with fail
                  (with_reducible refine hcall.mono ?_)
                  rintro e_ W3 ⟨rfl, ws2_, xs2_, hp⟩
                  have HP3 := Aside0.mk hp
                  clear hp hcall
                  go_wp2
                  go_meet
                  exact ⟨rfl, _, _, _, _, _, _, HP3⟩
                · have d2 : (what == 2) = false := beq_eq_false_iff_ne.2 h2
                  have d2' : decide (what = 2) = false := decide_eq_false h2
                  have HP3 := Aside0.mk (HPA.out.mono (Nat.le_succ k))
                  clear h0 h1 h2
                  go_wp2
                  go_meet
                  exact ⟨rfl, _, _, _, _, _, _, HP3⟩
        case rest =>
          obtain ⟨rfl, s', ws', xs', v', T', D', HP5⟩ := hcut
          clear hcap hsml hc0 hc1 hc2 hc3 HBE HP hand dx dx' dy dy' q1 q2 HBY
          have hk300 : k ≤ 300 := by have := HHK.out.2; omega
          go_wp2_with fail
          go_loopw [14] (fun vj W6 => ∃ j : Nat, vj = .int .i64 j ∧ j ≤ 2 ∧ Aside0 (PW (fun _ => True) w [] E g h s' s' ws' xs' v' T' D' (k + 1) W6)) (fun vj _ => 2 - (intOf vj).toNat)
          case atStart => exact ⟨0, rfl, by omega, HP5⟩
          case round =>
            clear HP5
            obtain ⟨j, rfl, hj, HP6⟩ := hrel
            by_cases hj2 : j = 2
            · subst hj2
              go_wp2
              exact ⟨⟨k + 1, s', ws', xs', v', T', D', by rw [Int.natCast_add]; rfl, ⟨by have := HHK.out; omega⟩, HP6⟩, by have := HHK.out; simp only [intOf]; omega⟩
            · have hj3 : j = 0 ∨ j = 1 := by omega
              rcases hj3 with rfl | rfl
              · have kg : wr.cell? ⟨E, 0, none⟩ = some (.pointer (some ⟨g 0, 0, none⟩)) := HP6.out.cells.1
                have kh : wr.cell? ⟨E, 2, none⟩ = some (.pointer (some ⟨h 0, 0, none⟩)) := HP6.out.cells.2.2.1
                have hla := @Last_calls okAll (g 0) (s' 0) (ws' 0) wr (HP6.out.link 0 (by decide))
                go_wp2_with fail
                (with_reducible refine hla.mono ?_)
                rintro e_ W7 ⟨rfl, nq_, hw7⟩
                have HP7 : Aside0 (PW (fun _ => True) w [] E g h s' s' ws' xs' v' T' D' (k + 1) W7) := ⟨by rw [hw7]; exact HP6.out.below (pw_below_drewN (Below.refl _ _) _)⟩
                have kg7 : W7.cell? ⟨E, 0, none⟩ = some (.pointer (some ⟨g 0, 0, none⟩)) := HP7.out.cells.1
                have kh7 : W7.cell? ⟨E, 2, none⟩ = some (.pointer (some ⟨h 0, 0, none⟩)) := HP7.out.cells.2.2.1
                clear hla hw7 kg kh
                have hlb := rLast_calls (h 0) (s' 0) (xs' 0) (k + 1) W7 (HP7.out.ref 0 (by decide)) (by omega)
                go_wp2_with fail
                (with_reducible refine hlb.mono ?_)
                rintro e_ W8 ⟨rfl, hb8⟩
                have HP8 := Aside0.mk (HP7.out.below hb8)
                clear hlb hb8 kg7 kh7
                generalize (s' 0).last = la
                generalize (s' 0).any = an
                have kg8 : W8.cell? ⟨E, 0, none⟩ = some (.pointer (some ⟨g 0, 0, none⟩)) := HP8.out.cells.1
                have kh8 : W8.cell? ⟨E, 2, none⟩ = some (.pointer (some ⟨h 0, 0, none⟩)) := HP8.out.cells.2.2.1
                have e1 : decide (la = la) = true := decide_eq_true rfl
                have e2 : (an == an) = true := beq_self_eq_true _
                have e3 : (an != an) = false := bne_self_eq_false _
                go_wp2_with fail
                go_upto_region 29 with fail
                go_cut [19] (fun v19 wc => v19 = .bool true ∧ Aside0 (PW (fun _ => True) w [] E g h s' s' ws' xs' v' T' D' (k + 1) wc))
                case first =>
                  have HLK : Aside0 (∀ W, Below W8.heap.size W8 W → LinkO (fun _ => True) W (g 0) (s' 0) (ws' 0)) := ⟨fun W hb => (HP8.out.below hb).link 0 (by decide)⟩
                  have HRK : Aside0 (∀ W, Below W8.heap.size W8 W → RefM W (h 0) (s' 0) (xs' 0) (k + 1)) := ⟨fun W hb => (HP8.out.below hb).ref 0 (by decide)⟩
                  have hal := acked_len (HP8.out.ref 0 (by decide)).okay
                  have HEL : Aside0 (E < W8.heap.size) := ⟨blk_lt HP8.out.blk⟩
                  have KG := Aside0.mk kg8; have KH := Aside0.mk kh8
                  have hm1 : k + 1 ≤ 1000000 := by omega
                  obtain ⟨l, hl⟩ : ∃ l, l = ackedF (s' 0) := ⟨_, rfl⟩
                  rw [← hl] at hal
                  have HL := Aside0.mk hl; have HAL := Aside0.mk hal
                  clear hl hal
                  go_region_held3 (fun w' => w'.cell? ⟨E, 0, none⟩ = some (.pointer (some ⟨g 0, 0, none⟩)) ∧ w'.cell? ⟨E, 2, none⟩ = some (.pointer (some ⟨h 0, 0, none⟩))) (first | exact ⟨kg8, kh8⟩ | go_keep) (first | (go_at_call 14; (with_reducible refine (ackedW (g 0) (s' 0) (ws' 0) _ (HLK.out _ (by first | exact Below.refl _ _ | exact below_drew1 (Below.refl _ _)))).mono ?_); rintro e_ W9 ⟨va, rfl, hra, hb9⟩; rw [← HL.out] at hra; have HB9 : Aside0 (Below W8.heap.size W8 W9) := ⟨by first | exact below_step (below_drew1 (Below.refl _ _)) hb9 | exact hb9⟩; obtain ⟨Aa, ca, hva⟩ := Kd.R_slice hra; subst hva; have HRA := Aside0.mk hra; have kg9 : W9.cell? ⟨E, 0, none⟩ = some (.pointer (some ⟨g 0, 0, none⟩)) := (HB9.out.cell (p := ⟨E, 0, none⟩) HEL.out).trans KG.out; have kh9 : W9.cell? ⟨E, 2, none⟩ = some (.pointer (some ⟨h 0, 0, none⟩)) := (HB9.out.cell (p := ⟨E, 2, none⟩) HEL.out).trans KH.out; clear hra hb9 kg8 kh8) | (go_at_call 22; (with_reducible refine (rAcked_calls (h 0) (s' 0) (xs' 0) (k + 1) _ (HRK.out _ (by first | exact HB9.out | exact below_drew1 HB9.out)) hm1).mono ?_); rintro e_ W10 ⟨vb, rfl, hrb, hb10⟩; rw [← HL.out] at hrb; have HB10 : Aside0 (Below W8.heap.size W8 W10) := ⟨below_step HB9.out hb10⟩; have HRA10 := Aside0.mk (Kd.R_below HRA.out hb10); obtain ⟨Ab, cb, hvb⟩ := Kd.R_slice hrb; subst hvb; have HRB := Aside0.mk hrb; have kg10 : W10.cell? ⟨E, 0, none⟩ = some (.pointer (some ⟨g 0, 0, none⟩)) := (HB10.out.cell (p := ⟨E, 0, none⟩) HEL.out).trans KG.out; have kh10 : W10.cell? ⟨E, 2, none⟩ = some (.pointer (some ⟨h 0, 0, none⟩)) := (HB10.out.cell (p := ⟨E, 2, none⟩) HEL.out).trans KH.out; clear hrb hb10 kg9 kh9) | (go_at_call 21; (with_reducible refine (same_calls Aa Ab ca cb l.length l W10 rfl (int_form HRA10.out) (int_form HRB.out) (Nat.le_trans HAL.out (by decide))).mono ?_); rintro e_ W11 ⟨rfl, kq, hw11⟩; have HP11 : Aside0 (PW (fun _ => True) w [] E g h s' s' ws' xs' v' T' D' (k + 1) W11) := ⟨by rw [hw11]; exact (HP8.out.below HB10.out).below (pw_below_drewN (Below.refl _ _) _)⟩; have kg11 : W11.cell? ⟨E, 0, none⟩ = some (.pointer (some ⟨g 0, 0, none⟩)) := (by rw [hw11]; first | done | exact kg10); have kh11 : W11.cell? ⟨E, 2, none⟩ = some (.pointer (some ⟨h 0, 0, none⟩)) := (by rw [hw11]; first | done | exact kh10); clear hw11 kg10 kh10))
                  all_goals
                    go_wp2
                    go_meet
                    exact ⟨rfl, HP11⟩
                case rest =>
                  obtain ⟨rfl, HP9⟩ := hcut
                  clear kg8 kh8 HP8 HP7 HP6
                  go_wp2
                  exact ⟨⟨0 + 1, rfl, by omega, HP9⟩, by simp only [intOf]; omega⟩
              · have kg : wr.cell? ⟨E, 1, none⟩ = some (.pointer (some ⟨g 1, 0, none⟩)) := HP6.out.cells.2.1
                have kh : wr.cell? ⟨E, 3, none⟩ = some (.pointer (some ⟨h 1, 0, none⟩)) := HP6.out.cells.2.2.2.1
                have hla := @Last_calls okAll (g 1) (s' 1) (ws' 1) wr (HP6.out.link 1 (by decide))
                go_wp2_with fail
                (with_reducible refine hla.mono ?_)
                rintro e_ W7 ⟨rfl, nq_, hw7⟩
                have HP7 : Aside0 (PW (fun _ => True) w [] E g h s' s' ws' xs' v' T' D' (k + 1) W7) := ⟨by rw [hw7]; exact HP6.out.below (pw_below_drewN (Below.refl _ _) _)⟩
                have kg7 : W7.cell? ⟨E, 1, none⟩ = some (.pointer (some ⟨g 1, 0, none⟩)) := HP7.out.cells.2.1
                have kh7 : W7.cell? ⟨E, 3, none⟩ = some (.pointer (some ⟨h 1, 0, none⟩)) := HP7.out.cells.2.2.2.1
                clear hla hw7 kg kh
                have hlb := rLast_calls (h 1) (s' 1) (xs' 1) (k + 1) W7 (HP7.out.ref 1 (by decide)) (by omega)
                go_wp2_with fail
                (with_reducible refine hlb.mono ?_)
                rintro e_ W8 ⟨rfl, hb8⟩
                have HP8 := Aside0.mk (HP7.out.below hb8)
                clear hlb hb8 kg7 kh7
                generalize (s' 1).last = la
                generalize (s' 1).any = an
                have kg8 : W8.cell? ⟨E, 1, none⟩ = some (.pointer (some ⟨g 1, 0, none⟩)) := HP8.out.cells.2.1
                have kh8 : W8.cell? ⟨E, 3, none⟩ = some (.pointer (some ⟨h 1, 0, none⟩)) := HP8.out.cells.2.2.2.1
                have e1 : decide (la = la) = true := decide_eq_true rfl
                have e2 : (an == an) = true := beq_self_eq_true _
                have e3 : (an != an) = false := bne_self_eq_false _
                go_wp2_with fail
                go_upto_region 29 with fail
                go_cut [19] (fun v19 wc => v19 = .bool true ∧ Aside0 (PW (fun _ => True) w [] E g h s' s' ws' xs' v' T' D' (k + 1) wc))
                case first =>
                  have HLK : Aside0 (∀ W, Below W8.heap.size W8 W → LinkO (fun _ => True) W (g 1) (s' 1) (ws' 1)) := ⟨fun W hb => (HP8.out.below hb).link 1 (by decide)⟩
                  have HRK : Aside0 (∀ W, Below W8.heap.size W8 W → RefM W (h 1) (s' 1) (xs' 1) (k + 1)) := ⟨fun W hb => (HP8.out.below hb).ref 1 (by decide)⟩
                  have hal := acked_len (HP8.out.ref 1 (by decide)).okay
                  have HEL : Aside0 (E < W8.heap.size) := ⟨blk_lt HP8.out.blk⟩
                  have KG := Aside0.mk kg8; have KH := Aside0.mk kh8
                  have hm1 : k + 1 ≤ 1000000 := by omega
                  obtain ⟨l, hl⟩ : ∃ l, l = ackedF (s' 1) := ⟨_, rfl⟩
                  rw [← hl] at hal
                  have HL := Aside0.mk hl; have HAL := Aside0.mk hal
                  clear hl hal
                  go_region_held3 (fun w' => w'.cell? ⟨E, 1, none⟩ = some (.pointer (some ⟨g 1, 0, none⟩)) ∧ w'.cell? ⟨E, 3, none⟩ = some (.pointer (some ⟨h 1, 0, none⟩))) (first | exact ⟨kg8, kh8⟩ | go_keep) (first | (go_at_call 14; (with_reducible refine (ackedW (g 1) (s' 1) (ws' 1) _ (HLK.out _ (by first | exact Below.refl _ _ | exact below_drew1 (Below.refl _ _)))).mono ?_); rintro e_ W9 ⟨va, rfl, hra, hb9⟩; rw [← HL.out] at hra; have HB9 : Aside0 (Below W8.heap.size W8 W9) := ⟨by first | exact below_step (below_drew1 (Below.refl _ _)) hb9 | exact hb9⟩; obtain ⟨Aa, ca, hva⟩ := Kd.R_slice hra; subst hva; have HRA := Aside0.mk hra; have kg9 : W9.cell? ⟨E, 1, none⟩ = some (.pointer (some ⟨g 1, 0, none⟩)) := (HB9.out.cell (p := ⟨E, 1, none⟩) HEL.out).trans KG.out; have kh9 : W9.cell? ⟨E, 3, none⟩ = some (.pointer (some ⟨h 1, 0, none⟩)) := (HB9.out.cell (p := ⟨E, 3, none⟩) HEL.out).trans KH.out; clear hra hb9 kg8 kh8) | (go_at_call 22; (with_reducible refine (rAcked_calls (h 1) (s' 1) (xs' 1) (k + 1) _ (HRK.out _ (by first | exact HB9.out | exact below_drew1 HB9.out)) hm1).mono ?_); rintro e_ W10 ⟨vb, rfl, hrb, hb10⟩; rw [← HL.out] at hrb; have HB10 : Aside0 (Below W8.heap.size W8 W10) := ⟨below_step HB9.out hb10⟩; have HRA10 := Aside0.mk (Kd.R_below HRA.out hb10); obtain ⟨Ab, cb, hvb⟩ := Kd.R_slice hrb; subst hvb; have HRB := Aside0.mk hrb; have kg10 : W10.cell? ⟨E, 1, none⟩ = some (.pointer (some ⟨g 1, 0, none⟩)) := (HB10.out.cell (p := ⟨E, 1, none⟩) HEL.out).trans KG.out; have kh10 : W10.cell? ⟨E, 3, none⟩ = some (.pointer (some ⟨h 1, 0, none⟩)) := (HB10.out.cell (p := ⟨E, 3, none⟩) HEL.out).trans KH.out; clear hrb hb10 kg9 kh9) | (go_at_call 21; (with_reducible refine (same_calls Aa Ab ca cb l.length l W10 rfl (int_form HRA10.out) (int_form HRB.out) (Nat.le_trans HAL.out (by decide))).mono ?_); rintro e_ W11 ⟨rfl, kq, hw11⟩; have HP11 : Aside0 (PW (fun _ => True) w [] E g h s' s' ws' xs' v' T' D' (k + 1) W11) := ⟨by rw [hw11]; exact (HP8.out.below HB10.out).below (pw_below_drewN (Below.refl _ _) _)⟩; have kg11 : W11.cell? ⟨E, 1, none⟩ = some (.pointer (some ⟨g 1, 0, none⟩)) := (by rw [hw11]; first | done | exact kg10); have kh11 : W11.cell? ⟨E, 3, none⟩ = some (.pointer (some ⟨h 1, 0, none⟩)) := (by rw [hw11]; first | done | exact kh10); clear hw11 kg10 kh10))
                  all_goals
                    go_wp2
                    go_meet
                    exact ⟨rfl, HP11⟩
                case rest =>
                  obtain ⟨rfl, HP9⟩ := hcut
                  clear kg8 kh8 HP8 HP7 HP6
                  go_wp2
                  exact ⟨⟨1 + 1, rfl, by omega, HP9⟩, by simp only [intOf]; omega⟩
      · have dx : decide (k < n) = true := decide_eq_true hx
        have dx' : decide ((k : Int) < (n : Int)) = true := decide_eq_true (by omega)
        have dy : decide (k < 300) = false := decide_eq_false hy
        have dy' : decide ((k : Int) < 300) = false := decide_eq_false (by omega)
        go_wp2
        go_ret
        exact ⟨rfl, HBE.out⟩
    · have dx : decide (k < n) = false := decide_eq_false hx
      have dx' : decide ((k : Int) < (n : Int)) = false := decide_eq_false (by omega)
      go_wp2
      go_ret
      exact ⟨rfl, HBE.out⟩
