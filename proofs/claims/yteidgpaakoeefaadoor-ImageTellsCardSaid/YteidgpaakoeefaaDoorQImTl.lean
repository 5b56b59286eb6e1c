/- Out of a text of this seat: what the proof names. -/
import Derived.Test.YteidgpaakoeefaaDoorQ6
namespace Go.Proofs.YteidgpaakoeefaaDoor
open Go.RowKit Go.Proofs.YteidgpaakoeefaaDoorW.PrintWords Go.Proofs.YteidgpaakoeefaaDoorW.PrintLast Go.Proofs.YteidgpaakoeefaaDoorW.PrintMore
set_option linter.unusedVariables false
set_option linter.unusedSimpArgs false
open PIm
def tb (a y : Int) : Int := bits .xor .u8 a y
theorem tb_range (a y : Int) (ha : 0 ≤ a ∧ a < 256) (hy : 0 ≤ y ∧ y < 256) : 0 ≤ tb a y ∧ tb a y < 256 := by
  obtain ⟨a, rfl⟩ : ∃ n : Nat, a = (n : Int) := ⟨a.toNat, by omega⟩
  obtain ⟨y, rfl⟩ : ∃ n : Nat, y = (n : Int) := ⟨y.toNat, by omega⟩
  unfold tb
  rw [u8_xor_nat a y (by omega) (by omega)]
  have : a ^^^ y < 256 := Nat.xor_lt_two_pow (n := 8) (by omega) (by omega)
  omega
theorem tb_same (a y : Int) (ha : 0 ≤ a ∧ a < 256) (hy : 0 ≤ y ∧ y < 256) : a = tb a y ↔ y = 0 := by
  obtain ⟨a, rfl⟩ : ∃ n : Nat, a = (n : Int) := ⟨a.toNat, by omega⟩
  obtain ⟨y, rfl⟩ : ∃ n : Nat, y = (n : Int) := ⟨y.toNat, by omega⟩
  unfold tb
  rw [u8_xor_nat a y (by omega) (by omega)]
  constructor
  · intro h
    have h2 : a ^^^ 0 = a ^^^ y := by rw [Nat.xor_zero]; omega
    have := xor_cancel_left h2
    omega
  · intro h
    have : y = 0 := by omega
    subst this
    rw [Nat.xor_zero]
def tnd (Y : List Int) (i : Nat) : Bool := (Y.take i).any (fun y => y != 0)
theorem tnd_succ (Y : List Int) (i : Nat) (h : i < Y.length) : tnd Y (i + 1) = (tnd Y i || rd Y (i : Int) != 0) := by
  unfold tnd
  rw [List.take_succ_eq_append_getElem h, List.any_append, rd_get' h]
  simp
theorem tnd_four (y0 y1 y2 y3 : Int) : tnd [y0, y1, y2, y3] 4 = !decide (y0 = 0 ∧ y1 = 0 ∧ y2 = 0 ∧ y3 = 0) := by
  unfold tnd
  by_cases h0 : y0 = 0 <;> by_cases h1 : y1 = 0 <;> by_cases h2 : y2 = 0 <;> by_cases h3 : y3 = 0 <;> simp [h0, h1, h2, h3]
theorem rd_right {a b : List Int} {j : Nat} (h : a.length ≤ j) : rd (a ++ b) (j : Int) = rd b ((j - a.length : Nat) : Int) := by
  unfold rd
  rw [Int.toNat_natCast, Int.toNat_natCast, List.getD_eq_getElem?_getD, List.getD_eq_getElem?_getD, List.getElem?_append_right h]
theorem split_four (F : List Int) (k : Nat) (h : k + 4 ≤ F.length) : ∃ a b c d suf, F = F.take k ++ (a :: b :: c :: d :: suf) := by
  have h1 : F = F.take k ++ F.drop k := (List.take_append_drop k F).symm
  have hl : 4 ≤ (F.drop k).length := by rw [List.length_drop]; omega
  generalize F.drop k = D at h1 hl
  match D, hl with
  | a :: b :: c :: d :: suf, _ => exact ⟨a, b, c, d, suf, h1⟩
def twL (F Y : List Int) (k : Nat) : Nat → List Int
  | 0 => F
  | i + 1 => (twL F Y k i).set (k + i) (tb (rd F ((k + i : Nat) : Int)) (rd Y (i : Int)))
theorem twL_len (F Y : List Int) (k : Nat) : ∀ i, (twL F Y k i).length = F.length
  | 0 => rfl
  | i + 1 => by rw [twL, List.length_set, twL_len F Y k i]
theorem twL_get (F Y : List Int) (k : Nat) : ∀ (i j : Nat), i ≤ j → (twL F Y k i)[k + j]? = F[k + j]?
  | 0, j, _ => rfl
  | i + 1, j, h => by rw [twL, List.getElem?_set_ne (by omega), twL_get F Y k i j (by omega)]
theorem twL_four {pre suf : List Int} {a b c d y0 y1 y2 y3 : Int} : twL (pre ++ (a :: b :: c :: d :: suf)) [y0, y1, y2, y3] pre.length 4 = pre ++ (tb a y0 :: tb b y1 :: tb c y2 :: tb d y3 :: suf) := by
  have g : ∀ j : Nat, rd (pre ++ (a :: b :: c :: d :: suf)) ((pre.length + j : Nat) : Int) = rd (a :: b :: c :: d :: suf) (j : Int) := fun j => by
    rw [rd_right (by omega), show pre.length + j - pre.length = j by omega]
  simp only [twL, g]
  simp only [List.set_append_right _ _ (Nat.le_add_right _ _), Nat.add_sub_cancel_left]
  rfl
theorem tells_dec {gs : List S48} {fs : List S54} (hok : okF gs fs = true) (hr : rngA gs fs) (hl : ¬ 1048576 < (frameF (bodyF gs fs)).length) {k : Nat} (hk : k + 4 ≤ (frameF (bodyF gs fs)).length) {y0 y1 y2 y3 : Int}
    (hy0 : 0 ≤ y0 ∧ y0 < 256) (hy1 : 0 ≤ y1 ∧ y1 < 256) (hy2 : 0 ≤ y2 ∧ y2 < 256) (hy3 : 0 ≤ y3 ∧ y3 < 256) :
    Bytes (twL (frameF (bodyF gs fs)) [y0, y1, y2, y3] k 4) ∧ (((decF (twL (frameF (bodyF gs fs)) [y0, y1, y2, y3] k 4)).2.2 == 150) = tnd [y0, y1, y2, y3] 4) := by
  have hB := frame_b gs fs
  obtain ⟨a, b, c, d, suf, hsp⟩ := split_four (frameF (bodyF gs fs)) k hk
  have hpl : ((frameF (bodyF gs fs)).take k).length = k := by rw [List.length_take]; omega
  obtain ⟨pre, hpre⟩ : ∃ pre, pre = (frameF (bodyF gs fs)).take k := ⟨_, rfl⟩
  rw [← hpre] at hpl hsp
  have hmem : ∀ x ∈ a :: b :: c :: d :: suf, 0 ≤ x ∧ x < 256 := fun x hx => hB x (by rw [hsp]; exact List.mem_append_right _ hx)
  have q0 := hmem a (by simp); have q1 := hmem b (by simp); have q2 := hmem c (by simp); have q3 := hmem d (by simp)
  have t0 := tb_range a y0 q0 hy0; have t1 := tb_range b y1 q1 hy1; have t2 := tb_range c y2 q2 hy2; have t3 := tb_range d y3 q3 hy3
  have hot := opF_turned (a' := tb a y0) (b' := tb b y1) (c' := tb c y2) (d' := tb d y3) hsp (body_b gs fs) t0 t1 t2 t3
  have hiff : (a = tb a y0 ∧ b = tb b y1 ∧ c = tb c y2 ∧ d = tb d y3) ↔ (y0 = 0 ∧ y1 = 0 ∧ y2 = 0 ∧ y3 = 0) := by
    rw [tb_same a y0 q0 hy0, tb_same b y1 q1 hy1, tb_same c y2 q2 hy2, tb_same d y3 q3 hy3]
  have h4 : twL (frameF (bodyF gs fs)) [y0, y1, y2, y3] k 4 = pre ++ (tb a y0 :: tb b y1 :: tb c y2 :: tb d y3 :: suf) := by
    rw [hsp, ← hpl]; exact twL_four
  have hlen : (pre ++ (tb a y0 :: tb b y1 :: tb c y2 :: tb d y3 :: suf)).length = (frameF (bodyF gs fs)).length := by rw [hsp]; simp
  rw [h4]
  refine ⟨fun x hx => ?_, ?_⟩
  · rcases List.mem_append.1 hx with hx | hx
    · exact hB x (by rw [hsp]; exact List.mem_append_left _ hx)
    · simp only [List.mem_cons] at hx
      rcases hx with rfl | rfl | rfl | rfl | hx
      · exact t0
      · exact t1
      · exact t2
      · exact t3
      · exact hmem x (by simp [hx])
  · rw [tnd_four]
    by_cases hz : y0 = 0 ∧ y1 = 0 ∧ y2 = 0 ∧ y3 = 0
    · have hs : pre ++ (tb a y0 :: tb b y1 :: tb c y2 :: tb d y3 :: suf) = frameF (bodyF gs fs) := by
        obtain ⟨e0, e1, e2, e3⟩ := hiff.2 hz
        rw [hsp, ← e0, ← e1, ← e2, ← e3]
      rw [hs, there hok hr hl, decide_eq_true hz]; rfl
    · have ho : (opF (pre ++ (tb a y0 :: tb b y1 :: tb c y2 :: tb d y3 :: suf))).2 = false := by
        rw [hot]; exact decide_eq_false (fun h => hz (hiff.1 h))
      unfold decF
      rw [if_neg (by rw [hlen]; exact hl), if_pos (.inl ho), decide_eq_false hz]; rfl
set_option maxHeartbeats 8000000 in
set_option maxRecDepth 100000 in
theorem ImageTells_calls (AG : Option Addr) (cG : Nat) (gs : List S48) (AF : Option Addr) (cF : Nat) (fs : List S54) (at_ y0 y1 y2 y3 : Int) (w : World) (hT : Tab w) (hG : Kd.C k48 w AG gs.length gs) (hGc : gs.length ≤ cG) (hF : Kd.C k54 w AF fs.length fs) (hFc : fs.length ≤ cF) (hArg : argA gs fs) (ha1 : -9223372036854775808 ≤ at_) (ha2 : at_ ≤ 9223372036854775807) (hy0 : 0 ≤ y0 ∧ y0 < 256) (hy1 : 0 ≤ y1 ∧ y1 < 256) (hy2 : 0 ≤ y2 ∧ y2 < 256) (hy3 : 0 ≤ y3 ∧ y3 < 256) :
    Calls Tryd.prog 6 #[.agg #[.slice AG gs.length cG, .slice AF fs.length cF], .int .i64 at_, .agg #[.int .u8 y0, .int .u8 y1, .int .u8 y2, .int .u8 y3]] w
      fun e w' => e = .returned (.bool true) ∧ Below w.heap.size w w' := by
  have HB := Aside0.mk (Below.refl w.heap.size w)
  have hu25 := Tryd.underlying25
  obtain ⟨ka, haw⟩ := awake_true
  have haw2 : tiltyardlaw15_awake.f ka = some true := haw ka (Nat.le_refl _)
  have henc := enc_args hArg
  obtain ⟨r1, r2, hr12⟩ : ∃ a b, encF gs fs = (a, b) := ⟨_, _, rfl⟩
  rw [hr12] at henc
  have HT := Aside0.mk hT; have HG := Aside0.mk hG; have HGC := Aside0.mk hGc; have HF := Aside0.mk hF; have HFC := Aside0.mk hFc; have HARG := Aside0.mk hArg; have HAW := Aside0.mk haw2; have HENC := Aside0.mk henc; have HR12 := Aside0.mk hr12
  have HY0 := Aside0.mk hy0; have HY1 := Aside0.mk hy1; have HY2 := Aside0.mk hy2; have HY3 := Aside0.mk hy3; have HA1 := Aside0.mk ha1; have HA2 := Aside0.mk ha2
  clear hT hG hGc hF hFc hArg haw haw2 henc hr12 hy0 hy1 hy2 hy3 ha1 ha2
  go_enter Tryd.func6, Tryd.ntmps6
  go_wp2_with (first | ((with_reducible refine gate_dst (N := 3) rfl ?_); refine box_event ?hg (N := 3) ?hd (cs := #[.slice AG gs.length cG, .slice AF fs.length cF]) (t := 25) ?hr ?_; (case hd => rfl); (case hg => rfl); (case hr => first | (go_simp; done) | (go_simp; rfl)); intro gi hg_ W1 hbox_ hb_; have GEgi := Aside0.mk ((by rw [hg_]; exact (below_size HB.out)) : w.heap.size ≤ gi); clear hg_; have n_ := Aside0.mk (below_step HB.out hb_); clear HB; have HB := n_; clear n_; have BKgi := Aside0.mk hbox_; clear hbox_ hb_; have hcgi_0 : W1.cell? ⟨gi, 0, none⟩ = some (.slice AG gs.length cG) := (blk_cell BKgi.out 0).trans rfl; have hfgi_0 := blk_frozen BKgi.out 0; have hcgi_1 : W1.cell? ⟨gi, 1, none⟩ = some (.slice AF fs.length cF) := (blk_cell BKgi.out 1).trans rfl; have hfgi_1 := blk_frozen BKgi.out 1) | ((with_reducible refine gate_dst (N := 5) rfl ?_); refine box_event ?hg (N := 5) ?hd (cs := #[.int .u8 y0, .int .u8 y1, .int .u8 y2, .int .u8 y3]) (t := 44) ?hr ?_; (case hd => rfl); (case hg => rfl); (case hr => first | (go_simp; done) | (go_simp; rfl)); intro gy hg_ W2 hbox_ hb_; have GEgy := Aside0.mk ((by rw [hg_]; exact (below_size HB.out)) : w.heap.size ≤ gy); have NBgi_gy : gi ≠ gy := (by rw [hg_]; exact Nat.ne_of_lt (blk_lt BKgi.out)); have NBgy_gi : gy ≠ gi := Ne.symm NBgi_gy; clear hg_; have n_ := Aside0.mk (blk_below BKgi.out hb_); clear BKgi; have BKgi := n_; clear n_; clear hcgi_0 hfgi_0; clear hcgi_1 hfgi_1; have n_ := Aside0.mk (below_step HB.out hb_); clear HB; have HB := n_; clear n_; have BKgy := Aside0.mk hbox_; clear hbox_ hb_; have hcgi_0 : W2.cell? ⟨gi, 0, none⟩ = some (.slice AG gs.length cG) := (blk_cell BKgi.out 0).trans rfl; have hfgi_0 := blk_frozen BKgi.out 0; have hcgi_1 : W2.cell? ⟨gi, 1, none⟩ = some (.slice AF fs.length cF) := (blk_cell BKgi.out 1).trans rfl; have hfgi_1 := blk_frozen BKgi.out 1; have hcgy_0 : W2.cell? ⟨gy, 0, none⟩ = some (.int .u8 y0) := (blk_cell BKgy.out 0).trans rfl; have hfgy_0 := blk_frozen BKgy.out 0; have hcgy_1 : W2.cell? ⟨gy, 1, none⟩ = some (.int .u8 y1) := (blk_cell BKgy.out 1).trans rfl; have hfgy_1 := blk_frozen BKgy.out 1; have hcgy_2 : W2.cell? ⟨gy, 2, none⟩ = some (.int .u8 y2) := (blk_cell BKgy.out 2).trans rfl; have hfgy_2 := blk_frozen BKgy.out 2; have hcgy_3 : W2.cell? ⟨gy, 3, none⟩ = some (.int .u8 y3) := (blk_cell BKgy.out 3).trans rfl; have hfgy_3 := blk_frozen BKgy.out 3))
  ((with_reducible refine (tiltyardlaw15_awake.calls ka true _ HAW.out (HT.out.below HB.out)).mono ?_); rintro e_ W3 ⟨rfl, hb_⟩)
  have n_ := Aside0.mk (blk_below BKgi.out hb_); clear BKgi; have BKgi := n_; clear n_
  clear hcgi_0 hfgi_0
  clear hcgi_1 hfgi_1
  have n_ := Aside0.mk (blk_below BKgy.out hb_); clear BKgy; have BKgy := n_; clear n_
  clear hcgy_0 hfgy_0
  clear hcgy_1 hfgy_1
  clear hcgy_2 hfgy_2
  clear hcgy_3 hfgy_3
  have n_ := Aside0.mk (below_step HB.out hb_); clear HB; have HB := n_; clear n_
  clear hb_
  have hcgi_0 : W3.cell? ⟨gi, 0, none⟩ = some (.slice AG gs.length cG) := (blk_cell BKgi.out 0).trans rfl
  have hfgi_0 := blk_frozen BKgi.out 0
  have hcgi_1 : W3.cell? ⟨gi, 1, none⟩ = some (.slice AF fs.length cF) := (blk_cell BKgi.out 1).trans rfl
  have hfgi_1 := blk_frozen BKgi.out 1
  have hcgy_0 : W3.cell? ⟨gy, 0, none⟩ = some (.int .u8 y0) := (blk_cell BKgy.out 0).trans rfl
  have hfgy_0 := blk_frozen BKgy.out 0
  have hcgy_1 : W3.cell? ⟨gy, 1, none⟩ = some (.int .u8 y1) := (blk_cell BKgy.out 1).trans rfl
  have hfgy_1 := blk_frozen BKgy.out 1
  have hcgy_2 : W3.cell? ⟨gy, 2, none⟩ = some (.int .u8 y2) := (blk_cell BKgy.out 2).trans rfl
  have hfgy_2 := blk_frozen BKgy.out 2
  have hcgy_3 : W3.cell? ⟨gy, 3, none⟩ = some (.int .u8 y3) := (blk_cell BKgy.out 3).trans rfl
  have hfgy_3 := blk_frozen BKgy.out 3
  go_wp2_with fail
  have HB3 := Aside0.mk (blk_lt BKgy.out)
  ((with_reducible refine (image_Encode.calls AG cG gs AF cF fs r1 r2 _ (Kd.C_below HG.out HB.out) HGC.out (Kd.C_below HF.out HB.out) HFC.out HENC.out (HT.out.below HB.out)).mono ?_); rintro e_ W4 ⟨v0, rfl, ho_, hb_⟩)
  have n_ := Aside0.mk (blk_below BKgi.out hb_); clear BKgi; have BKgi := n_; clear n_
  clear hcgi_0 hfgi_0
  clear hcgi_1 hfgi_1
  have n_ := Aside0.mk (blk_below BKgy.out hb_); clear BKgy; have BKgy := n_; clear n_
  clear hcgy_0 hfgy_0
  clear hcgy_1 hfgy_1
  clear hcgy_2 hfgy_2
  clear hcgy_3 hfgy_3
  have n_ := Aside0.mk (below_step HB.out hb_); clear HB; have HB := n_; clear n_
  clear hb_
  have hcgi_0 : W4.cell? ⟨gi, 0, none⟩ = some (.slice AG gs.length cG) := (blk_cell BKgi.out 0).trans rfl
  have hfgi_0 := blk_frozen BKgi.out 0
  have hcgi_1 : W4.cell? ⟨gi, 1, none⟩ = some (.slice AF fs.length cF) := (blk_cell BKgi.out 1).trans rfl
  have hfgi_1 := blk_frozen BKgi.out 1
  have hcgy_0 : W4.cell? ⟨gy, 0, none⟩ = some (.int .u8 y0) := (blk_cell BKgy.out 0).trans rfl
  have hfgy_0 := blk_frozen BKgy.out 0
  have hcgy_1 : W4.cell? ⟨gy, 1, none⟩ = some (.int .u8 y1) := (blk_cell BKgy.out 1).trans rfl
  have hfgy_1 := blk_frozen BKgy.out 1
  have hcgy_2 : W4.cell? ⟨gy, 2, none⟩ = some (.int .u8 y2) := (blk_cell BKgy.out 2).trans rfl
  have hfgy_2 := blk_frozen BKgy.out 2
  have hcgy_3 : W4.cell? ⟨gy, 3, none⟩ = some (.int .u8 y3) := (blk_cell BKgy.out 3).trans rfl
  have hfgy_3 := blk_frozen BKgy.out 3
  rcases enc_ways gs fs with ⟨e, _⟩ | ⟨e, _⟩ | ⟨hok, hln, e⟩
  · obtain ⟨rfl, rfl⟩ := Prod.mk.inj (HR12.out.symm.trans e)
    clear ho_ e
    go_wp2
    go_ret
    exact ⟨rfl, HB.out⟩
  · obtain ⟨rfl, rfl⟩ := Prod.mk.inj (HR12.out.symm.trans e)
    clear ho_ e
    go_wp2
    go_ret
    exact ⟨rfl, HB.out⟩
  obtain ⟨h1_, h2_⟩ := Prod.mk.inj (HR12.out.symm.trans e)
  subst h2_
  have hfl := frameF_len (bodyF gs fs)
  rw [← h1_] at hfl hln
  obtain ⟨q, hq⟩ : ∃ q, q = (bodyF gs fs).length := ⟨_, rfl⟩
  rw [← hq] at hfl
  obtain ⟨gf, cap, hv, hge, hlt, _⟩ := Kd.R_form ho_ (by omega)
  subst hv
  have hcap := (Kd.R_reads' ho_).2.1
  have HO := Aside0.mk ho_; have HOK := Aside0.mk hok; have HLN := Aside0.mk hln; have HFL := Aside0.mk hfl; have HF1 := Aside0.mk h1_; have HCAP := Aside0.mk hcap; have HGF := Aside0.mk (Nat.le_trans HB3.out hge : gy < gf)
  rw [hfl] at HO ⊢
  clear ho_ hok hln h1_ hq e hge hlt
  by_cases hneg : at_ < 0
  · have dn : decide (at_ < 0) = true := decide_eq_true hneg
    go_wp2
    go_ret
    exact ⟨rfl, HB.out⟩
  have dn : decide (at_ < 0) = false := decide_eq_false hneg
  obtain ⟨kk, hkk⟩ : ∃ kk : Nat, at_ % ((q : Int) + 1) = (kk : Int) := ⟨(at_ % ((q : Int) + 1)).toNat, by have := Int.emod_nonneg at_ (show (q : Int) + 1 ≠ 0 by omega); omega⟩
  have hkl : kk ≤ q := by have := Int.emod_lt_of_pos at_ (show (0 : Int) < (q : Int) + 1 by omega); omega
  have t1 : Int.tmod at_ ((q : Int) + 1) = (kk : Int) := by rw [Int.tmod_eq_emod_of_nonneg (by omega)]; exact hkk
  have t2 : ((q : Int) + 4 - 3) = (q : Int) + 1 := by omega
  have hq48 : q ≤ 140737488355000 := by have := HLN.out; omega
  have HKL := Aside0.mk hkl; have HNEG := Aside0.mk hneg
  clear hkk hfl hcap
  go_wp2
  obtain ⟨Y, hY⟩ : ∃ Y, Y = [y0, y1, y2, y3] := ⟨_, rfl⟩
  have hYc : ∀ i : Nat, i < 4 → (#[Value.int .u8 y0, .int .u8 y1, .int .u8 y2, .int .u8 y3] : Array Value)[i]? = some (.int .u8 (rd Y (i : Int))) := by
    intro i hi
    have : i = 0 ∨ i = 1 ∨ i = 2 ∨ i = 3 := by omega
    rw [hY]
    rcases this with rfl | rfl | rfl | rfl <;> rfl
  have hYl : Y.length = 4 := by rw [hY]; rfl
  have HY := Aside0.mk hY; have HYC := Aside0.mk hYc; have HYL := Aside0.mk hYl
  clear hY hYc hYl
  go_loopw [11, 12] (fun vt vi wr => ∃ i : Int, vi = .int .i64 i ∧ vt = .bool (tnd Y i.toNat) ∧ 0 ≤ i ∧ i ≤ 4 ∧ Aside0 (Kd.R (Kd.int .u8) 5 wr W3.heap.size (fun _ => True) (.slice (some ⟨gf, 0, none⟩) (q + 4) cap) (twL r1 Y kk i.toNat)) ∧ Aside0 (wr.heap[gy]? = some (.cells #[.int .u8 y0, .int .u8 y1, .int .u8 y2, .int .u8 y3] 44 (0, 0))) ∧ Aside0 (Below w.heap.size w wr)) (fun _ vi _ => (4 - intOf vi).toNat)
  case atStart => exact ⟨0, rfl, rfl, by omega, by omega, HO, BKgy, HB⟩
  case round =>
    clear hcgi_0 hfgi_0
    clear hcgi_1 hfgi_1
    clear hcgy_0 hfgy_0
    clear hcgy_1 hfgy_1
    clear hcgy_2 hfgy_2
    clear hcgy_3 hfgy_3
    clear HO BKgy BKgi HB
    obtain ⟨i, rfl, rfl, hi0, hi1, HO, BKgy, HB⟩ := hrel
    by_cases hx : i < 4
    · have dx : decide (i < 4) = true := decide_eq_true hx
      have hkl := HKL.out
      obtain ⟨x, hxx⟩ : ∃ x, x = rd r1 ((kk : Int) + i) := ⟨_, rfl⟩
      obtain ⟨y, hyy⟩ : ∃ y, y = rd Y i := ⟨_, rfl⟩
      have hce := Kd.R_celln (0 : Int) HO.out ((kk : Int) + i) (by omega) (by omega)
      have hval : rdOf (0 : Int) (twL r1 Y kk i.toNat) ((kk : Int) + i) = x := by
        have e1 : ((kk : Int) + i).toNat = kk + i.toNat := by omega
        rw [hxx]; unfold rdOf rd
        rw [e1, List.getD_eq_getElem?_getD, List.getD_eq_getElem?_getD, twL_get r1 Y kk i.toNat i.toNat (Nat.le_refl _)]
      rw [hval] at hce
      obtain ⟨hcl, hfrz⟩ := hce
      have hcl2 : wr.cell? ⟨gf, ((kk : Int) + i).toNat, none⟩ = some (.int .u8 x) := hcl
      have hbx : wr.cell? ⟨gy, i.toNat, none⟩ = some (.int .u8 y) := by rw [blk_cell BKgy.out, HYC.out i.toNat (by omega), Int.toNat_of_nonneg hi0, hyy]
      have hbx2 : ∀ v, (wr.setCell ⟨gf, ((kk : Int) + i).toNat, none⟩ v).drew.cell? ⟨gy, i.toNat, none⟩ = some (.int .u8 y) := by
        intro v
        rw [← hbx]
        refine World.cell?_of_block (a := ⟨gy, i.toNat, none⟩) ?_
        exact Below.heap_setCell wr ⟨gf, ((kk : Int) + i).toNat, none⟩ v gy (by have := HGF.out; show gy ≠ gf; omega)
      have hts := tnd_succ Y i.toNat (by have := HYL.out; omega)
      rw [Int.toNat_of_nonneg hi0, ← hyy, show i.toNat + 1 = (i + 1).toNat by omega] at hts
      have hstep : (twL r1 Y kk i.toNat).set ((kk : Int) + i).toNat (tb x y) = twL r1 Y kk (i + 1).toNat := by
        rw [show (i + 1).toNat = i.toNat + 1 by omega, twL, hxx, hyy, show ((kk : Int) + i).toNat = kk + i.toNat by omega, show ((kk + i.toNat : Nat) : Int) = (kk : Int) + i by omega, show ((i.toNat : Nat) : Int) = i by omega]
      have HST := Aside0.mk hstep; have HGE := Aside0.mk (Nat.le_of_lt (Nat.lt_of_le_of_lt GEgy.out HGF.out) : w.heap.size ≤ gf)
      have HNE := Aside0.mk (Nat.ne_of_lt HGF.out : gy ≠ gf)
      clear hstep hxx hyy hcl hval
      generalize tnd Y i.toNat = tv at hts ⊢
      cases tv with
      | true =>
        have HTS := Aside0.mk hts; clear hts
        go_wp2
        go_region
        go_wp2
        refine ⟨⟨i + 1, rfl, by rw [HTS.out]; rfl, by omega, by omega, ⟨by rw [← HST.out]; exact Kd.R_drewN (Kd.R_putn HO.out ((kk : Int) + i) (tb x y)) 1⟩, ⟨blk_drewN (blk_far BKgy.out HNE.out _) 1⟩, ⟨below_drew1 (Below.setCell HB.out HGE.out _)⟩⟩, by simp only [intOf]; omega⟩
      | false =>
        by_cases hz : y = 0
        · subst hz
          have HTS := Aside0.mk hts; clear hts
          go_wp2
          go_region
          go_wp2
          refine ⟨⟨i + 1, rfl, by rw [HTS.out]; rfl, by omega, by omega, ⟨by rw [← HST.out]; exact Kd.R_drewN (Kd.R_putn HO.out ((kk : Int) + i) (tb x 0)) 1⟩, ⟨blk_drewN (blk_far BKgy.out HNE.out _) 1⟩, ⟨below_drew1 (Below.setCell HB.out HGE.out _)⟩⟩, by simp only [intOf]; omega⟩
        · have z1 : decide (y = 0) = false := decide_eq_false hz
          have z2 : (y != 0) = true := bne_iff_ne.mpr hz
          have z3 : (y == 0) = false := beq_eq_false_iff_ne.mpr hz
          have HTS := Aside0.mk hts; clear hts
          go_wp2
          go_region
          go_wp2
          refine ⟨⟨i + 1, rfl, by rw [HTS.out]; simp [z2], by omega, by omega, ⟨by rw [← HST.out]; exact Kd.R_drewN (Kd.R_putn HO.out ((kk : Int) + i) (tb x y)) 1⟩, ⟨blk_drewN (blk_far BKgy.out HNE.out _) 1⟩, ⟨below_drew1 (Below.setCell HB.out HGE.out _)⟩⟩, by simp only [intOf]; omega⟩
    · have dx : decide (i < 4) = false := decide_eq_false hx
      have hi4 : i = 4 := by omega
      subst hi4
      have ht := tells_dec HOK.out HARG.out.2.2.2 (by rw [← HF1.out]; exact HLN.out) (k := kk) (by rw [← HF1.out]; have := HFL.out; have := HKL.out; omega) HY0.out HY1.out HY2.out HY3.out
      rw [← HF1.out, ← HY.out] at ht
      have hll : (twL r1 Y kk 4).length = q + 4 := by rw [twL_len]; exact HFL.out
      obtain ⟨d1, d2, d3, hd⟩ : ∃ a b c, decF (twL r1 Y kk 4) = (a, b, c) := ⟨_, _, _, rfl⟩
      have hdf : image_Decode.f (twL r1 Y kk 4) = some (d1, d2, d3) := by rw [dec_bytes (by rw [hll]; omega) ht.1, hd]
      have htn := ht.2
      rw [hd] at htn
      have hO4 : Kd.R (Kd.int .u8) 5 wr W3.heap.size (fun _ => True) (.slice (some ⟨gf, 0, none⟩) (q + 4) cap) (twL r1 Y kk 4) := HO.out
      have hcon := image_Decode.calls (some ⟨gf, 0, none⟩) cap (twL r1 Y kk 4) d1 d2 d3 wr (Kd.R_reads' hO4).2.2 (by rw [hll]; exact (Kd.R_reads' hO4).2.1) hdf (HT.out.below HB.out)
      rw [hll] at hcon
      have HCON := Aside0.mk hcon; have HTN := Aside0.mk htn
      clear hcon htn ht hll hd hdf hO4
      go_wp2_with fail
      ((with_reducible refine HCON.out.mono ?_); rintro e_ W5 ⟨u0, u1, rfl, hu0, hu1, hb_⟩)
      obtain ⟨P0, p0, rfl⟩ := Kd.R_slice hu0
      obtain ⟨P1, p1, rfl⟩ := Kd.S_slice hu1
      clear hu0 hu1
      have h150 : (d3 == 150) = tnd Y 4 := by have := HTN.out; rw [HY.out]; rw [HY.out] at this; exact this
      generalize tnd Y 4 = tv at h150 ⊢
      have HB5 := Aside0.mk (below_step HB.out hb_)
      clear hb_
      cases tv with
      | true =>
        go_wp2
        go_ret
        exact ⟨rfl, by repeat (first | exact HB5.out | exact below_alloc HB5.out _ | refine below_set ?_ (Nat.le_trans HB5.out.size (Nat.le_refl _)))⟩
      | false =>
        go_wp2
        go_ret
        exact ⟨rfl, by repeat (first | exact HB5.out | exact below_alloc HB5.out _ | refine below_set ?_ (Nat.le_trans HB5.out.size (Nat.le_refl _)))⟩
end Go.Proofs.YteidgpaakoeefaaDoor
