/- WireTells. -/
import Derived.Test.YtcgjaobbjeagoaaDoorWireBA
import Derived.Test.YtcgjaobbjeagoaaDoorWireZ
namespace Go.Proofs.YtcgjaobbjeagoaaDoor
open Go.RowKit Go.Proofs.YtcgjaobbjeagoaaDoorW.PrintWords Go.Proofs.YtcgjaobbjeagoaaDoorW.PrintLast Go.Proofs.YtcgjaobbjeagoaaDoorW.PrintMore
set_option linter.unusedVariables false
set_option linter.unusedSimpArgs false

/-- One byte turned. -/
def tb (a y : Int) : Int := bits .xor .u8 a y
theorem tb_range (a y : Int) (ha : 0 ≤ a ∧ a < 256) (hy : 0 ≤ y ∧ y < 256) : 0 ≤ tb a y ∧ tb a y < 256 := by
  obtain ⟨a, rfl⟩ : ∃ n : Nat, a = (n : Int) := ⟨a.toNat, by omega⟩
  obtain ⟨y, rfl⟩ : ∃ n : Nat, y = (n : Int) := ⟨y.toNat, by omega⟩
  unfold tb
  rw [u8_xor_nat a y (by omega) (by omega)]
  have : a ^^^ y < 256 := Nat.xor_lt_two_pow (n := 8) (by omega) (by omega)
  omega
theorem tb_same (a y : Int) (ha : 0 ≤ a ∧ a < 256) (hy : 0 ≤ y ∧ y < 256) : a = tb a y ↔ y = 0 := by
  obtain ⟨a, rfl⟩ : ∃ n : Nat, a = (n : Int) := ⟨a.toNat, by omega⟩
  obtain ⟨y, rfl⟩ : ∃ n : Nat, y = (n : Int) := ⟨y.toNat, by omega⟩
  unfold tb
  rw [u8_xor_nat a y (by omega) (by omega)]
  constructor
  · intro h
    have h2 : a ^^^ 0 = a ^^^ y := by rw [Nat.xor_zero]; omega
    have := xor_cancel_left h2
    omega
  · intro h
    have : y = 0 := by omega
    subst this
    rw [Nat.xor_zero]
/-- The cells while bytes k .. k + i - 1 are turned. -/
def Tw (M Y : List Int) (k i : Int) (cs : Array Value) : Prop := cs.size = M.length ∧ ∀ j : Nat, j < M.length → cs[j]? = some (.int .u8 (if k ≤ (j : Int) ∧ (j : Int) < k + i then tb (rd M (j : Int)) (rd Y ((j : Int) - k)) else rd M (j : Int)))
theorem Tw.start (M Y : List Int) (k : Int) : Tw M Y k 0 (M.map (Value.int .u8)).toArray := ⟨by simp, fun j hj => by
  rw [if_neg (by omega)]
  simp [rd_get' hj, hj]⟩
theorem Tw.step {M Y : List Int} {k i : Int} {cs : Array Value} (h : Tw M Y k i cs) (h0 : 0 ≤ k) (hi : 0 ≤ i) (h1 : k + i < M.length) :
    Tw M Y k (i + 1) (cs.setIfInBounds (k + i).toNat (.int .u8 (tb (rd M (k + i)) (rd Y i)))) := by
  refine ⟨by simpa using h.1, fun j hj => ?_⟩
  by_cases e : j = (k + i).toNat
  · subst e
    rw [Array.getElem?_setIfInBounds_self_of_lt (by rw [h.1]; exact hj), if_pos (by omega), Int.toNat_of_nonneg (by omega), show k + i - k = i by omega]
  · rw [Array.getElem?_setIfInBounds_ne (by omega), h.2 j hj]
    by_cases hk : k ≤ (j : Int) ∧ (j : Int) < k + i
    · rw [if_pos hk, if_pos (by omega)]
    · rw [if_neg hk, if_neg (by omega)]
/-- Was one of the first i other than nothing? -/
def tnd (Y : List Int) (i : Nat) : Bool := (Y.take i).any (fun y => y != 0)
theorem tnd_succ (Y : List Int) (i : Nat) (h : i < Y.length) : tnd Y (i + 1) = (tnd Y i || rd Y (i : Int) != 0) := by
  unfold tnd
  rw [List.take_succ_eq_append_getElem h, List.any_append, rd_get' h]
  simp
theorem tnd_four (y0 y1 y2 y3 : Int) : tnd [y0, y1, y2, y3] 4 = !decide (y0 = 0 ∧ y1 = 0 ∧ y2 = 0 ∧ y3 = 0) := by
  unfold tnd
  by_cases h0 : y0 = 0 <;> by_cases h1 : y1 = 0 <;> by_cases h2 : y2 = 0 <;> by_cases h3 : y3 = 0 <;> simp [h0, h1, h2, h3]
theorem rd_left {a b : List Int} {j : Nat} (h : j < a.length) : rd (a ++ b) (j : Int) = rd a (j : Int) := by
  rw [rd_get' h, rd_get' (by simp; omega), List.getElem_append_left h]
theorem rd_right {a b : List Int} {j : Nat} (h : a.length ≤ j) : rd (a ++ b) (j : Int) = rd b ((j - a.length : Nat) : Int) := by
  unfold rd
  rw [Int.toNat_natCast, Int.toNat_natCast, List.getD_eq_getElem?_getD, List.getD_eq_getElem?_getD, List.getElem?_append_right h]
/-- Behind the four rounds the cells hold the turned frame. -/
theorem Tw.stop {F S pre suf : List Int} {a b c d y0 y1 y2 y3 : Int} {cs : Array Value} (hF : F = pre ++ (a :: b :: c :: d :: suf)) (h : Tw (F ++ S) [y0, y1, y2, y3] (pre.length : Int) 4 cs) :
    ∀ (j : Nat) (x : Int), (pre ++ (tb a y0 :: tb b y1 :: tb c y2 :: tb d y3 :: suf))[j]? = some x → cs[j]? = some (.int .u8 x) := by
  intro j x hx
  have hj := (List.getElem?_eq_some_iff.1 hx).1
  have hv := (List.getElem?_eq_some_iff.1 hx).2
  have hl : (pre ++ (tb a y0 :: tb b y1 :: tb c y2 :: tb d y3 :: suf)).length = F.length := by rw [hF]; simp
  have hjF : j < F.length := by omega
  rw [h.2 j (by rw [List.length_append]; omega), rd_left hjF]
  rw [← rd_get' hj] at hv
  rw [← hv]
  congr 2
  rcases Nat.lt_or_ge j pre.length with hlt | hge
  · rw [if_neg (by omega), hF, rd_left hlt, rd_left hlt]
  · rw [hF, rd_right hge, rd_right hge, show (j : Int) - (pre.length : Int) = ((j - pre.length : Nat) : Int) by omega]
    obtain ⟨m, hm⟩ : ∃ m, m = j - pre.length := ⟨_, rfl⟩
    rw [← hm]
    by_cases h4 : m < 4
    · rw [if_pos (by omega)]
      have : m = 0 ∨ m = 1 ∨ m = 2 ∨ m = 3 := by omega
      rcases this with rfl | rfl | rfl | rfl <;> rfl
    · rw [if_neg (by omega)]
      obtain ⟨q, rfl⟩ : ∃ q, m = q + 4 := ⟨m - 4, by omega⟩
      unfold rd
      rw [Int.toNat_natCast]
      simp
theorem split_four (F : List Int) (k : Nat) (h : k + 4 ≤ F.length) : ∃ a b c d suf, F = F.take k ++ (a :: b :: c :: d :: suf) := by
  have h1 : F = F.take k ++ F.drop k := (List.take_append_drop k F).symm
  have hl : 4 ≤ (F.drop k).length := by rw [List.length_drop]; omega
  generalize F.drop k = D at h1 hl
  match D, hl with
  | a :: b :: c :: d :: suf, _ => exact ⟨a, b, c, d, suf, h1⟩

set_option maxHeartbeats 8000000 in
set_option maxRecDepth 100000 in
theorem WireTells_calls (A0 : Option Addr) (c0 : Nat) (l0 : List Int) (at_ y0 y1 y2 y3 : Int) (w : World) (hT : Tab w)
    (hr0 : Kd.C (Kd.int .u8) w A0 l0.length l0) (hc0 : l0.length ≤ c0) (hb : ∀ x ∈ l0, 0 ≤ x ∧ x < 256) (hl : l0.length ≤ 140737488351232)
    (ha1 : -9223372036854775808 ≤ at_) (ha2 : at_ ≤ 9223372036854775807) (hy0 : 0 ≤ y0 ∧ y0 < 256) (hy1 : 0 ≤ y1 ∧ y1 < 256) (hy2 : 0 ≤ y2 ∧ y2 < 256) (hy3 : 0 ≤ y3 ∧ y3 < 256) :
    Calls Tryd.prog 9 #[.slice A0 l0.length c0, .int .i64 at_, .agg #[.int .u8 y0, .int .u8 y1, .int .u8 y2, .int .u8 y3]] w fun e w' => e = .returned (.bool true) ∧ Below w.heap.size w w' := by
  have HT := Aside0.mk hT; have HR := Aside0.mk hr0; have HX := Aside0.mk hb
  clear hT hr0 hb
  obtain ⟨n, hn⟩ : ∃ n, n = l0.length := ⟨_, rfl⟩
  have hF := fun W (h : Kd.C (Kd.int .u8) W A0 l0.length l0) (hT : Tab W) => Frame_callsF A0 c0 l0 W h (by omega) hT
  have hfl := frameF_len l0
  have hfr := frameF_range l0 HX.out
  have hof := opF_frame l0
  obtain ⟨Fr, hFr⟩ : ∃ F, F = frameF l0 := ⟨_, rfl⟩
  rw [← hFr] at hF hfl hfr hof
  have hO := fun A c W (h : Kd.C (Kd.int .u8) W A Fr.length Fr) (hc : Fr.length ≤ c) (hT : Tab W) => Open_callsF A c Fr W h hc (by omega) hT
  rw [hof] at hO
  rw [← hn] at hF hfl hl hc0 ⊢
  have hR2 : Kd.C (Kd.int .u8) w A0 n l0 := by rw [hn]; exact HR.out
  rw [hfl] at hO
  have HR2 := Aside0.mk hR2; have HN := Aside0.mk hn; have HFR := Aside0.mk hFr; have HFL := Aside0.mk hfl; have HRA := Aside0.mk hfr
  clear hR2 hn hFr hfl hfr hof HR
  go_enter Tryd.func9, Tryd.ntmps9
  go_wp2_with fail
  have hba := below_alloc (Below.refl w.heap.size w) (.cells #[.int .u8 y0, .int .u8 y1, .int .u8 y2, .int .u8 y3] 49)
  ((with_reducible refine (awake_calls _ (HT.out.below hba)).mono ?_); rintro e_ W1 ⟨rfl, hb_⟩)
  have HB := Aside0.mk (below_step hba hb_)
  have HBX : Aside0 (W1.heap[w.heap.size]? = some (.cells #[.int .u8 y0, .int .u8 y1, .int .u8 y2, .int .u8 y3] 49 (0, 0))) := ⟨by
    rw [hb_.block w.heap.size (by simp)]
    exact (MapKept.heap_alloc w _).1⟩
  clear hba hb_
  have HGB : Aside0 (w.heap.size < W1.heap.size) := ⟨(Array.getElem?_eq_some_iff.1 HBX.out).1⟩
  go_wp2_with fail
  ((with_reducible refine (hF _ (Kd.C_below HR2.out HB.out) (HT.out.below HB.out)).mono ?_); rintro e_ W2 ⟨v0, rfl, ⟨sp, ho_⟩, hb_⟩)
  clear hF
  obtain ⟨Af, hv, hA, hsr, hcm⟩ := ho_.form
  have hcl : (Fr ++ sp).length = n + 4 + sp.length := by rw [List.length_append, HFL.out]
  rw [HFL.out] at hv
  rcases hA with ⟨_, hnil⟩ | ⟨gf, hgf, hbk⟩
  · have : (Fr ++ sp).length = 0 := by rw [hnil]; rfl
    omega
  subst hgf
  subst hv
  rw [hcl] at hcm ⊢
  have hgb := ho_.base gf rfl
  have HGF : Aside0 (w.heap.size < gf) := ⟨Nat.lt_of_lt_of_le HGB.out hgb⟩
  have HBX2 : Aside0 (W2.heap[w.heap.size]? = some (.cells #[.int .u8 y0, .int .u8 y1, .int .u8 y2, .int .u8 y3] 49 (0, 0))) := ⟨by
    rw [hb_.block w.heap.size HGB.out]; exact HBX.out⟩
  have HBn := Aside0.mk (below_step HB.out hb_); clear HB HBX; have HB := HBn; clear HBn
  have BK := Aside0.mk hbk; have HSR := Aside0.mk hsr
  have hCf := (Kd.R_reads' ho_.R).2.2
  rw [HFL.out] at hCf
  have HCF := Aside0.mk hCf
  clear hbk hgb hsr hb_ ho_ hCf hcl
  go_wp2_with fail
  ((with_reducible refine (hO _ _ _ HCF.out (by omega) (HT.out.below HB.out)).mono ?_); rintro e_ W3 ⟨v0, rfl, ho_, hb_⟩)
  clear hO
  obtain ⟨Ax, cx, hv⟩ := Kd.R_slice (RS.R ho_)
  subst hv
  have HBX3 : Aside0 (W3.heap[w.heap.size]? = some (.cells #[.int .u8 y0, .int .u8 y1, .int .u8 y2, .int .u8 y3] 49 (0, 0))) := ⟨by
    rw [hb_.block w.heap.size (Array.getElem?_eq_some_iff.1 HBX2.out).1]; exact HBX2.out⟩
  have BK3 : Aside0 (W3.heap[gf]? = some (.cells ((Fr ++ sp).map (Value.int .u8)).toArray 5 (0, 0))) := ⟨by
    rw [hb_.block gf (Array.getElem?_eq_some_iff.1 BK.out).1]; exact BK.out⟩
  have HBn := Aside0.mk (below_step HB.out hb_); clear HB HBX2 BK HCF; have HB := HBn; clear HBn
  have cvx := Kd.C_string (P := Tryd.prog) (c := cx) Tryd.underlying23 Tryd.underlying5 Tryd.underlying9 (Kd.R_reads' (RS.R ho_)).2.2
  have cvb := Kd.C_string (P := Tryd.prog) (c := c0) Tryd.underlying23 Tryd.underlying5 Tryd.underlying9 (Kd.C_below HR2.out HB.out)
  rw [← HN.out] at cvx ⊢
  clear ho_ hb_
  generalize strOfNums l0 = s0 at cvx cvb
  have e4 : decide (((n + 4 : Nat) : Int) < 4) = false := decide_eq_false (by omega)
  have e5 : decide ((n : Int) + 4 < 4) = false := decide_eq_false (by omega)
  by_cases hneg : at_ < 0
  · have dn : decide (at_ < 0) = true := decide_eq_true hneg
    go_wp2
    go_ret
    exact ⟨rfl, HB.out⟩
  · have dn : decide (at_ < 0) = false := decide_eq_false hneg
    obtain ⟨kk, hkk⟩ : ∃ kk : Nat, at_ % ((n : Int) + 1) = (kk : Int) := ⟨(at_ % ((n : Int) + 1)).toNat, by have := Int.emod_nonneg at_ (show (n : Int) + 1 ≠ 0 by omega); omega⟩
    have hkl : kk ≤ n := by have := Int.emod_lt_of_pos at_ (show (0 : Int) < (n : Int) + 1 by omega); omega
    have t1 : Int.tmod at_ ((n : Int) + 1) = (kk : Int) := by rw [Int.tmod_eq_emod_of_nonneg (by omega)]; exact hkk
    have t2 : ((n : Int) + 4 - 3) = (n : Int) + 1 := by omega
    clear hkk
    go_wp2
    obtain ⟨Y, hY⟩ : ∃ Y, Y = [y0, y1, y2, y3] := ⟨_, rfl⟩
    have hYl : Y.length = 4 := by rw [hY]; rfl
    have hYr : ∀ y ∈ Y, 0 ≤ y ∧ y < 256 := by
      rw [hY]
      intro y hy
      simp only [List.mem_cons, List.not_mem_nil, or_false] at hy
      rcases hy with rfl | rfl | rfl | rfl <;> assumption
    have hYc : ∀ i : Nat, i < 4 → (#[Value.int .u8 y0, .int .u8 y1, .int .u8 y2, .int .u8 y3] : Array Value)[i]? = some (.int .u8 (rd Y (i : Int))) := by
      intro i hi
      have : i = 0 ∨ i = 1 ∨ i = 2 ∨ i = 3 := by omega
      rw [hY]
      rcases this with rfl | rfl | rfl | rfl <;> rfl
    have HY := Aside0.mk hY; have HYL := Aside0.mk hYl; have HYR := Aside0.mk hYr; have HYC := Aside0.mk hYc
    clear hY hYl hYr hYc
    go_loopw [11, 13] (fun vt vi wr => ∃ i : Int, vi = .int .i64 i ∧ vt = .bool (tnd Y i.toNat) ∧ 0 ≤ i ∧ i ≤ 4 ∧ Aside0 (W3.grownBy wr (some gf)) ∧ Aside0 (∃ cs, wr.heap[gf]? = some (.cells cs 5 (0, 0)) ∧ Tw (Fr ++ sp) Y (kk : Int) i cs) ∧ Aside0 (Below w.heap.size w wr)) (fun _ vi _ => (4 - intOf vi).toNat)
    case atStart => exact ⟨0, rfl, rfl, by omega, by omega, ⟨World.grownBy.refl _ _⟩, ⟨_, BK3.out, Tw.start _ _ _⟩, HB⟩
    case round =>
      obtain ⟨i, rfl, rfl, hi0, hi1, HGR, HTW, HBw⟩ := hrel
      have HMX : Aside0 (∀ x ∈ Fr ++ sp, 0 ≤ x ∧ x < 256) := ⟨fun x hx => (List.mem_append.1 hx).elim (HRA.out x) (HSR.out x)⟩
      have HML : Aside0 ((Fr ++ sp).length = n + 4 + sp.length) := ⟨by rw [List.length_append, HFL.out]⟩
      by_cases hx : i < 4
      · have dx : decide (i < 4) = true := decide_eq_true hx
        obtain ⟨cs, hcs, htw⟩ := HTW.out
        obtain ⟨x, hxx⟩ : ∃ x, x = rd (Fr ++ sp) ((kk : Int) + i) := ⟨_, rfl⟩
        obtain ⟨y, hyy⟩ : ∃ y, y = rd Y i := ⟨_, rfl⟩
        have hcl : wr.cell? ⟨gf, ((kk : Int) + i).toNat, none⟩ = some (.int .u8 x) := by
          rw [blk_cell hcs, htw.2 _ (by have := HML.out; omega), if_neg (by omega), Int.toNat_of_nonneg (by omega), hxx]
        have hfrz := blk_frozen hcs ((kk : Int) + i).toNat
        have hbx : wr.cell? ⟨w.heap.size, i.toNat, none⟩ = some (.int .u8 y) := by
          have hb1 : wr.heap[w.heap.size]? = W3.heap[w.heap.size]? := HGR.out.block _ (Array.getElem?_eq_some_iff.1 HBX3.out).1 (fun e => by injection e with e; have := HGF.out; omega)
          have hb2 := hb1.trans HBX3.out
          rw [blk_cell hb2, HYC.out i.toNat (by omega), Int.toNat_of_nonneg hi0, hyy]
        have hbx2 : ∀ v, (wr.setCell ⟨gf, ((kk : Int) + i).toNat, none⟩ v).drew.cell? ⟨w.heap.size, i.toNat, none⟩ = some (.int .u8 y) := by
          intro v
          rw [← hbx]
          refine World.cell?_of_block (a := ⟨w.heap.size, i.toNat, none⟩) ?_
          exact Below.heap_setCell wr ⟨gf, ((kk : Int) + i).toNat, none⟩ v w.heap.size (by have := HGF.out; show w.heap.size ≠ gf; omega)
        have hts := tnd_succ Y i.toNat (by have := HYL.out; omega)
        rw [Int.toNat_of_nonneg hi0, ← hyy, show i.toNat + 1 = (i + 1).toNat by omega] at hts
        have hstep := htw.step (by omega) hi0 (by have := HML.out; omega)
        rw [← hxx, ← hyy] at hstep
        have HST := Aside0.mk hstep; have HCS := Aside0.mk hcs
        clear hcs htw hstep hxx hyy HTW
        generalize tnd Y i.toNat = tv at hts ⊢
        cases tv with
        | true =>
          have HTS := Aside0.mk hts; clear hts
          go_wp2
          go_region
          go_wp2
          refine ⟨⟨i + 1, rfl, by rw [HTS.out]; rfl, by omega, by omega, ⟨grown_drewN (grown_set HGR.out) 1⟩, ⟨_, blk_put HCS.out _ _ rfl, HST.out⟩, ⟨below_drew1 (Below.setCell HBw.out (Nat.le_of_lt HGF.out) _)⟩⟩, by simp only [intOf]; omega⟩
        | false =>
          by_cases hz : y = 0
          · subst hz
            have HTS := Aside0.mk hts; clear hts
            go_wp2
            go_region
            go_wp2
            refine ⟨⟨i + 1, rfl, by rw [HTS.out]; rfl, by omega, by omega, ⟨grown_drewN (grown_set HGR.out) 1⟩, ⟨_, blk_put HCS.out _ _ rfl, HST.out⟩, ⟨below_drew1 (Below.setCell HBw.out (Nat.le_of_lt HGF.out) _)⟩⟩, by simp only [intOf]; omega⟩
          · have z1 : decide (y = 0) = false := decide_eq_false hz
            have z2 : (y != 0) = true := bne_iff_ne.mpr hz
            have z3 : (y == 0) = false := beq_eq_false_iff_ne.mpr hz
            have HTS := Aside0.mk hts; clear hts
            go_wp2
            go_region
            go_wp2
            refine ⟨⟨i + 1, rfl, by rw [HTS.out]; simp [z2], by omega, by omega, ⟨grown_drewN (grown_set HGR.out) 1⟩, ⟨_, blk_put HCS.out _ _ rfl, HST.out⟩, ⟨below_drew1 (Below.setCell HBw.out (Nat.le_of_lt HGF.out) _)⟩⟩, by simp only [intOf]; omega⟩
      · have dx : decide (i < 4) = false := decide_eq_false hx
        have hi4 : i = 4 := by omega
        subst hi4
        obtain ⟨cs, hcs, htw⟩ := HTW.out
        obtain ⟨a, b, c, d, suf, hsp⟩ := split_four Fr kk (by have := HFL.out; omega)
        have hpl : (Fr.take kk).length = kk := by rw [List.length_take]; have := HFL.out; omega
        have hsp2 := hsp
        rw [HFR.out] at hsp2
        rw [← HFR.out] at hsp2
        obtain ⟨pre, hpre⟩ : ∃ pre, pre = Fr.take kk := ⟨_, rfl⟩
        rw [← hpre] at hpl hsp2
        have hmem : ∀ x ∈ a :: b :: c :: d :: suf, 0 ≤ x ∧ x < 256 := fun x hx => HRA.out x (by rw [hsp2]; exact List.mem_append_right _ hx)
        have q0 := hmem a (by simp); have q1 := hmem b (by simp); have q2 := hmem c (by simp); have q3 := hmem d (by simp)
        rw [← hpl, HY.out] at htw
        have hst := Tw.stop hsp2 htw
        have hot := opF_turned (a' := tb a y0) (b' := tb b y1) (c' := tb c y2) (d' := tb d y3) (HFR.out.symm.trans hsp2) HX.out (tb_range a y0 q0 hy0) (tb_range b y1 q1 hy1) (tb_range c y2 q2 hy2) (tb_range d y3 q3 hy3)
        have hiff : (a = tb a y0 ∧ b = tb b y1 ∧ c = tb c y2 ∧ d = tb d y3) ↔ (y0 = 0 ∧ y1 = 0 ∧ y2 = 0 ∧ y3 = 0) := by
          rw [tb_same a y0 q0 hy0, tb_same b y1 q1 hy1, tb_same c y2 q2 hy2, tb_same d y3 q3 hy3]
        rw [decide_eq_decide.2 hiff] at hot
        have hF4 : (pre ++ (tb a y0 :: tb b y1 :: tb c y2 :: tb d y3 :: suf)).length = n + 4 := by
          have := HFL.out
          rw [hsp2] at this
          simp at this ⊢
          exact this
        obtain ⟨G, hG⟩ : ∃ G, G = pre ++ (tb a y0 :: tb b y1 :: tb c y2 :: tb d y3 :: suf) := ⟨_, rfl⟩
        rw [← hG] at hst hot hF4
        have hCG : Kd.C (Kd.int .u8) wr (some ⟨gf, 0, none⟩) G.length G := C_of_cells (by omega) (fun j x hx => by rw [blk_cell hcs]; exact hst j x hx)
        have hO2 := Open_callsF (some ⟨gf, 0, none⟩) (n + 4 + sp.length) G wr hCG (by omega) (by omega) (HT.out.below HBw.out)
        rw [hot, hF4] at hO2
        have htn := tnd_four y0 y1 y2 y3
        rw [← HY.out] at htn
        have htn2 : tnd Y (4 : Int).toNat = !decide (y0 = 0 ∧ y1 = 0 ∧ y2 = 0 ∧ y3 = 0) := htn
        rw [htn2]
        generalize decide (y0 = 0 ∧ y1 = 0 ∧ y2 = 0 ∧ y3 = 0) = zz at hO2 ⊢
        have HO2 := Aside0.mk hO2
        clear hcs htw hsp hpl hsp2 hpre hmem q0 q1 q2 q3 hst hot hiff hF4 hG hCG hO2 htn htn2
        go_wp2_with fail
        ((with_reducible refine HO2.out.mono ?_); rintro e_ W5 ⟨v0, rfl, _, hb_⟩)
        cases zz with
        | true =>
          go_wp2
          go_ret
          exact ⟨rfl, below_step HBw.out hb_⟩
        | false =>
          go_wp2
          go_ret
          exact ⟨rfl, below_step HBw.out hb_⟩
end Go.Proofs.YtcgjaobbjeagoaaDoor
