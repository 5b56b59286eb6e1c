/- Merged: TkE TkF TkG -/
import Derived.Test.YtklkikndcieojaaDoorTkD
/- Which tokens a source has: plain. -/
namespace Go.Proofs.YtklkikndcieojaaDoor
open Go.RowKit Go.Proofs.YtklkikndcieojaaDoorW.PrintWords Go.Proofs.YtklkikndcieojaaDoorW.PrintLast Go.Proofs.YtklkikndcieojaaDoorW.PrintMore
set_option linter.unusedVariables false
set_option linter.unusedSimpArgs false
open PTk
def blankC (c : UInt8) : Bool := decide (c = 9) || decide (c = 10) || decide (c = 13) || decide (c = 32)
theorem note_pos (r : List UInt8) : 1 ≤ lenW noteC (35 :: r) := by
  rw [lenW, if_pos (by decide)]; omega
/-- The tokens from a place on; or where none is. -/
def toks (l : List UInt8) (at_ : Nat) : List S31 × Option Nat :=
  match l with
  | [] => ([⟨6, ⟨#[]⟩, at_⟩], none)
  | c :: r =>
    if h1 : c = 35 then toks ((c :: r).drop (lenW noteC (c :: r))) (at_ + lenW noteC (c :: r))
    else if blankC c then toks r (at_ + 1)
    else if h2 : (pieceL (c :: r)).1 = 0 then ([], some at_)
    else
      let t := toks ((c :: r).drop (pieceL (c :: r)).1) (at_ + (pieceL (c :: r)).1)
      (⟨(pieceL (c :: r)).2, ⟨((c :: r).take (pieceL (c :: r)).1).toArray⟩, at_⟩ :: t.1, t.2)
termination_by l.length
decreasing_by
  · rw [List.length_drop]; have := note_pos r; rw [h1]; simp only [List.length_cons]; omega
  · simp
  · rw [List.length_drop]; simp only [List.length_cons]; omega
theorem toks_nil (at_ : Nat) : toks [] at_ = ([⟨6, ⟨#[]⟩, at_⟩], none) := by rw [toks]
theorem toks_note (r : List UInt8) (at_ : Nat) : toks (35 :: r) at_ = toks ((35 :: r).drop (lenW noteC (35 :: r))) (at_ + lenW noteC (35 :: r)) := by
  rw [toks, dif_pos rfl]
theorem toks_blank {c : UInt8} (h1 : c ≠ 35) (h : blankC c = true) (r : List UInt8) (at_ : Nat) : toks (c :: r) at_ = toks r (at_ + 1) := by
  rw [toks, dif_neg h1, if_pos h]
theorem toks_none {c : UInt8} (h1 : c ≠ 35) (h : blankC c = false) (r : List UInt8) (at_ : Nat) (h2 : (pieceL (c :: r)).1 = 0) : toks (c :: r) at_ = ([], some at_) := by
  rw [toks, dif_neg h1, h]; simp [h2]
theorem toks_piece {c : UInt8} (h1 : c ≠ 35) (h : blankC c = false) (r : List UInt8) (at_ : Nat) (h2 : (pieceL (c :: r)).1 ≠ 0) : toks (c :: r) at_ =
    (⟨(pieceL (c :: r)).2, ⟨((c :: r).take (pieceL (c :: r)).1).toArray⟩, at_⟩ :: (toks ((c :: r).drop (pieceL (c :: r)).1) (at_ + (pieceL (c :: r)).1)).1, (toks ((c :: r).drop (pieceL (c :: r)).1) (at_ + (pieceL (c :: r)).1)).2) := by
  rw [toks, dif_neg h1, h]; simp [h2]
/-- What is answered. -/
def answer : List S31 × Option Nat → List S31 × Int × Int
  | (l, none) => (l, 0, 0)
  | (_, some p) => ([], 80, p)
def tokensF (s : ByteArray) : List S31 × Int × Int := if 16384 < s.size then ([], 2, -1) else answer (toks s.data.toList 0)
/-- So far. -/
structure TkR (s : ByteArray) (p : Nat) (acc : List S31) : Prop where
  le : p ≤ s.size
  len : acc.length ≤ p
  eq : toks s.data.toList 0 = (acc ++ (toks (s.data.toList.drop p) p).1, (toks (s.data.toList.drop p) p).2)
theorem TkR.start (s : ByteArray) : TkR s 0 [] := ⟨Nat.zero_le _, Nat.le_refl _, by simp⟩
theorem drop_cons {s : ByteArray} {p : Nat} (h : p < s.size) : s.data.toList.drop p = s[p] :: s.data.toList.drop (p + 1) := by
  have hl : p < s.data.toList.length := by rw [← Lib.size_eq]; exact h
  rw [List.drop_eq_getElem_cons hl]; rfl
theorem TkR.done {s : ByteArray} {acc : List S31} (h : TkR s s.size acc) : toks s.data.toList 0 = (acc ++ [⟨6, ⟨#[]⟩, s.size⟩], none) := by
  rw [h.eq, List.drop_of_length_le (by rw [← Lib.size_eq]; exact Nat.le_refl _), toks_nil]
theorem TkR.note {s : ByteArray} {p : Nat} {acc : List S31} (h : TkR s p acc) (hp : p < s.size) (hc : s[p] = 35) : TkR s (p + lenW noteC (s.data.toList.drop p)) acc ∧ 1 ≤ lenW noteC (s.data.toList.drop p) := by
  have h1 := lenW_le noteC (s.data.toList.drop p)
  rw [List.length_drop, ← Lib.size_eq] at h1
  have h2 : 1 ≤ lenW noteC (s.data.toList.drop p) := by rw [drop_cons hp, hc]; exact note_pos _
  refine ⟨⟨by omega, by have := h.len; omega, ?_⟩, h2⟩
  have e : toks (s.data.toList.drop p) p = toks (s.data.toList.drop (p + lenW noteC (s.data.toList.drop p))) (p + lenW noteC (s.data.toList.drop p)) := by
    rw [← List.drop_drop]
    rw [drop_cons hp, hc]
    exact toks_note _ _
  rw [h.eq, e]
theorem TkR.blank {s : ByteArray} {p : Nat} {acc : List S31} (h : TkR s p acc) (hp : p < s.size) (hc : s[p] ≠ 35) (hb : blankC s[p] = true) : TkR s (p + 1) acc := by
  refine ⟨by omega, by have := h.len; omega, ?_⟩
  rw [h.eq, drop_cons hp, toks_blank hc hb]
theorem TkR.none {s : ByteArray} {p : Nat} {acc : List S31} (h : TkR s p acc) (hp : p < s.size) (hc : s[p] ≠ 35) (hb : blankC s[p] = false) (hn : (pieceL (s.data.toList.drop p)).1 = 0) : (toks s.data.toList 0).2 = some p := by
  rw [h.eq]
  rw [drop_cons hp] at hn ⊢
  rw [toks_none hc hb _ _ hn]
theorem TkR.piece {s : ByteArray} {p : Nat} {acc : List S31} (h : TkR s p acc) (hp : p < s.size) (hc : s[p] ≠ 35) (hb : blankC s[p] = false) (hn : (pieceL (s.data.toList.drop p)).1 ≠ 0) :
    TkR s (p + (pieceL (s.data.toList.drop p)).1) (acc ++ [⟨(pieceL (s.data.toList.drop p)).2, s.extract p (p + (pieceL (s.data.toList.drop p)).1), p⟩]) := by
  have h1 := pieceL_le (s.data.toList.drop p)
  rw [List.length_drop, ← Lib.size_eq] at h1
  have e : s.extract p (p + (pieceL (s.data.toList.drop p)).1) = ⟨((s.data.toList.drop p).take (pieceL (s.data.toList.drop p)).1).toArray⟩ := by
    apply ByteArray.ext
    apply Array.ext'
    rw [Lib.extract_data, Nat.add_sub_cancel_left]
  refine ⟨by omega, by have := h.len; rw [List.length_append, List.length_singleton]; omega, ?_⟩
  rw [h.eq, e, ← List.drop_drop]
  rw [drop_cons hp] at hn ⊢
  rw [toks_piece hc hb _ _ hn]
  simp
end Go.Proofs.YtklkikndcieojaaDoor

/- The walk of Tokens. -/
namespace Go.Proofs.YtklkikndcieojaaDoor
open Go.RowKit Go.Proofs.YtklkikndcieojaaDoorW.PrintWords Go.Proofs.YtklkikndcieojaaDoorW.PrintLast Go.Proofs.YtklkikndcieojaaDoorW.PrintMore
set_option linter.unusedVariables false
set_option linter.unusedSimpArgs false
open PTk
theorem Clone_calls (s : ByteArray) (w : World) (hs : s.size ≤ 281474976710656) : Calls Tryd.prog 20 #[.string s] w fun e w' => e = .returned (.string s) ∧ Below w.heap.size w w' := by
  have h := Tryd.stringslite_Clone s w hs
  clear hs
  go_enter Tryd.func20, Tryd.ntmps20
  go_wp2_with fail
  ((with_reducible refine h.mono ?_); rintro e_ W2 ⟨rfl, hb⟩)
  have HB := Aside0.mk hb
  clear hb h
  go_wp2
  go_ret
  exact ⟨rfl, HB.out⟩
/-- What Tokens answers: a row of the call's own, and a fault. -/
def TokPost (w : World) (r : List S31 × Int × Int) (e : Ending) (w' : World) : Prop :=
  ∃ v : Value, e = .returned (.tuple #[v, .agg #[.int .i64 r.2.1, .int .i64 r.2.2]]) ∧ Kd.R k31 31 w' w.heap.size (fun _ => True) v r.1 ∧ Below w.heap.size w w'
set_option maxHeartbeats 8000000 in
set_option maxRecDepth 100000 in
theorem Tokens_long (s : ByteArray) (w : World) (h : 16384 < s.size) : Calls Tryd.prog 9 #[.string s] w (TokPost w (tokensF s)) := by
  have HB := Aside0.mk (Below.refl w.heap.size w)
  have HR : Hid (tokensF s = ([], 2, -1)) := Lib.hid (by unfold tokensF; rw [if_pos h])
  have z1 : decide (16384 < (s.size : Int)) = true := decide_eq_true (by omega)
  have z2 : decide (16384 < s.size) = true := decide_eq_true h
  clear h
  go_enter Tryd.func9, Tryd.ntmps9
  go_wp2_with (first | ((with_reducible refine gate_dst (N := 3) rfl ?_); refine box_event ?hg (N := 3) ?hd (cs := #[.int .i64 0, .int .i64 0]) (t := 26) ?hr ?_; (case hd => rfl); (case hg => rfl); (case hr => first | (go_simp; done) | (go_simp; rfl)); intro g3 hg W3 hbox hb; have n0_ := Aside0.mk (below_step HB.out hb); have n1_ := Aside0.mk hbox; have n2_ := Aside0.mk ((by rw [hg]; exact (below_size HB.out)) : w.heap.size ≤ g3); clear HB; have HB := n0_; have BK3 := n1_; have GE3 := n2_; clear n0_ n1_ n2_ hb hbox hg; have hc3_0 : W3.cell? ⟨g3, 0, none⟩ = some (.int .i64 0) := (blk_cell BK3.out 0).trans rfl; have hf3_0 := blk_frozen BK3.out 0; have hc3_1 : W3.cell? ⟨g3, 1, none⟩ = some (.int .i64 0) := (blk_cell BK3.out 1).trans rfl; have hf3_1 := blk_frozen BK3.out 1))
  refine bodyPost_ret (results_tc rfl _ _ g3 26 #[.int .i64 2, .int .i64 (-1)] (0, 0) _ rfl (by (with_reducible repeat (first | refine blk_drewN ?_ _ | refine blk_drew ?_ | refine blk_alloc ?_ _)); refine blk_put (cs := #[.int .i64 2, .int .i64 0]) ?_ 1 _ rfl; (with_reducible repeat (first | refine blk_drewN ?_ _ | refine blk_drew ?_ | refine blk_alloc ?_ _)); refine blk_put (cs := #[.int .i64 0, .int .i64 0]) ?_ 0 _ rfl; (with_reducible repeat (first | refine blk_drewN ?_ _ | refine blk_drew ?_ | refine blk_alloc ?_ _)); exact BK3.out) Tryd.underlying26 rfl (by kernel_rfl)) rfl ?_
  exact ⟨_, by (rw [HR.out]); first | done | rfl, by (rw [HR.out]); exact Kd.R_nil _ _ _ _ _, (by repeat (first | (with_reducible first | exact HB.out | apply below_alloc | apply pw_below_drewN | apply below_drew1 | refine below_set ?_ GE3.out) | exact HB.out))⟩
set_option maxHeartbeats 16000000 in
set_option maxRecDepth 100000 in
theorem Tokens_short (s : ByteArray) (w : World) (hW : FixW w) (h : s.size ≤ 16384) : Calls Tryd.prog 9 #[.string s] w (TokPost w (tokensF s)) := by
  have HB := Aside0.mk (Below.refl w.heap.size w)
  have HTF : Hid (tokensF s = answer (toks s.data.toList 0)) := Lib.hid (by unfold tokensF; rw [if_neg (by omega)])
  have z1 : decide (16384 < (s.size : Int)) = false := decide_eq_false (by omega)
  have z2 : decide (16384 < s.size) = false := decide_eq_false (by omega)
  have HW := Aside0.mk hW
  clear hW
  go_enter Tryd.func9, Tryd.ntmps9
  go_wp2_with (first | ((with_reducible refine gate_dst (N := 3) rfl ?_); refine box_event ?hg (N := 3) ?hd (cs := #[.int .i64 0, .int .i64 0]) (t := 26) ?hr ?_; (case hd => rfl); (case hg => rfl); (case hr => first | (go_simp; done) | (go_simp; rfl)); intro g3 hg W3 hbox hb; have n0_ := Aside0.mk (below_step HB.out hb); have n1_ := Aside0.mk hbox; have n2_ := Aside0.mk ((by rw [hg]; exact (below_size HB.out)) : w.heap.size ≤ g3); clear HB; have HB := n0_; have BK3 := n1_; have GE3 := n2_; clear n0_ n1_ n2_ hb hbox hg; have hc3_0 : W3.cell? ⟨g3, 0, none⟩ = some (.int .i64 0) := (blk_cell BK3.out 0).trans rfl; have hf3_0 := blk_frozen BK3.out 0; have hc3_1 : W3.cell? ⟨g3, 1, none⟩ = some (.int .i64 0) := (blk_cell BK3.out 1).trans rfl; have hf3_1 := blk_frozen BK3.out 1))
  go_loopw [4, 5] (fun v4 v5 wr => ∃ (p : Nat) (acc : List S31), v5 = .int .i64 p ∧ Aside0 (TkR s p acc) ∧ Aside0 (Kd.R k31 31 wr w.heap.size (fun _ => True) v4 acc) ∧ Aside0 (wr.heap[g3]? = some (.cells #[.int .i64 0, .int .i64 0] 26 (0, 0))) ∧ Aside0 (Below w.heap.size w wr)) (fun _ v5 _ => s.size - (intOf v5).toNat)
  case atStart => exact ⟨0, [], rfl, ⟨TkR.start s⟩, ⟨by first | exact Kd.R_nil _ _ _ _ _⟩, BK3, HB⟩
  case round =>
    clear BK3 HB hc3_0 hc3_1 hf3_0 hf3_1
    obtain ⟨p, acc, rfl, HT, HO, BK3, HB⟩ := hrel
    have hps := HT.out.le
    by_cases hp : p < s.size
    · obtain ⟨c, hc⟩ : ∃ c, c = s[p] := ⟨_, rfl⟩
      have hcs : s[p] = c := hc.symm
      have hp1 : decide ((p : Int) < (s.size : Int)) = true := decide_eq_true (by omega)
      have hp2 : decide (p < s.size) = true := decide_eq_true hp
      have hxs : (s.extract p s.size).size = s.size - p := size_end s p
      have HC := Lib.hid hc
      clear hc
      by_cases h35 : c = 35
      · have e35 : ((c.toNat : Int) == 35) = true := (by rw [h35]; rfl)
        obtain ⟨hn, hn1⟩ := HT.out.note hp (by rw [← HC.out]; exact h35)
        have hr := fun W => run_note (s.extract p s.size) W (by rw [hxs]; omega)
        rw [Lib.extract_to_end] at hr
        obtain ⟨n, hnn⟩ : ∃ n, n = lenW noteC (s.data.toList.drop p) := ⟨_, rfl⟩
        rw [← hnn] at hr hn hn1
        have hns := hn.le
        have HN := Aside0.mk hn
        clear hn hnn h35 hxs
        go_wp2_with fail
        ((with_reducible refine (hr _).mono ?_); rintro e_ W_ ⟨rfl, ⟨n_, hN_⟩⟩)
        have n0_ := Aside0.mk (show Kd.R k31 31 W_ w.heap.size (fun _ => True) u4 acc from by rw [hN_]; exact Kd.R_drewN HO.out n_); have n1_ := Aside0.mk (show W_.heap[g3]? = some (.cells #[.int .i64 0, .int .i64 0] 26 (0, 0)) from by rw [hN_]; exact blk_drewN BK3.out n_); have n2_ := Aside0.mk (show Below w.heap.size w W_ from by rw [hN_]; exact pw_below_drewN HB.out n_); clear HO BK3 HB hN_; have HO := n0_; have BK3 := n1_; have HB := n2_; clear n0_ n1_ n2_
        clear hr
        go_wp2
        exact ⟨⟨p + n, acc, by go_num, HN, HO, BK3, HB⟩, by simp [intOf]; omega⟩
      · have e35 : ((c.toNat : Int) == 35) = false := beq_no (d := 35) h35
        have H35 : Hid (s[p] ≠ 35) := Lib.hid (by rw [← HC.out]; exact h35)
        clear h35
        cases hb : blankC c with
        | true =>
          have hn := HT.out.blank hp H35.out (by rw [← HC.out]; exact hb)
          have HN := Aside0.mk hn
          clear hn hxs
          have hcase : c = 9 ∨ c = 10 ∨ c = 13 ∨ c = 32 := by unfold blankC at hb; simpa [or_assoc] using hb
          clear hb
          rcases hcase with h | h | h | h
          · have e9 : ((c.toNat : Int) == 9) = true := (by rw [h]; rfl); clear h
            go_wp2
            exact ⟨⟨p + 1, acc, by go_num, HN, HO, BK3, HB⟩, by simp [intOf]; omega⟩
          · have e9 : ((c.toNat : Int) == 9) = false := beq_no (d := 9) (by rw [h]; decide); have e10 : ((c.toNat : Int) == 10) = true := (by rw [h]; rfl); clear h
            go_wp2
            exact ⟨⟨p + 1, acc, by go_num, HN, HO, BK3, HB⟩, by simp [intOf]; omega⟩
          · have e9 : ((c.toNat : Int) == 9) = false := beq_no (d := 9) (by rw [h]; decide); have e10 : ((c.toNat : Int) == 10) = false := beq_no (d := 10) (by rw [h]; decide); have e13 : ((c.toNat : Int) == 13) = true := (by rw [h]; rfl); clear h
            go_wp2
            exact ⟨⟨p + 1, acc, by go_num, HN, HO, BK3, HB⟩, by simp [intOf]; omega⟩
          · have e9 : ((c.toNat : Int) == 9) = false := beq_no (d := 9) (by rw [h]; decide); have e10 : ((c.toNat : Int) == 10) = false := beq_no (d := 10) (by rw [h]; decide); have e13 : ((c.toNat : Int) == 13) = false := beq_no (d := 13) (by rw [h]; decide); have e32 : ((c.toNat : Int) == 32) = true := (by rw [h]; rfl); clear h
            go_wp2
            exact ⟨⟨p + 1, acc, by go_num, HN, HO, BK3, HB⟩, by simp [intOf]; omega⟩
        | false =>
          have e9 : ((c.toNat : Int) == 9) = false := beq_no (d := 9) (by rintro rfl; simp [blankC] at hb)
          have e10 : ((c.toNat : Int) == 10) = false := beq_no (d := 10) (by rintro rfl; simp [blankC] at hb)
          have e13 : ((c.toNat : Int) == 13) = false := beq_no (d := 13) (by rintro rfl; simp [blankC] at hb)
          have e32 : ((c.toNat : Int) == 32) = false := beq_no (d := 32) (by rintro rfl; simp [blankC] at hb)
          have HBL : Hid (blankC s[p] = false) := Lib.hid (by rw [← HC.out]; exact hb)
          have hpc := piece_calls (s.extract p s.size) wr (HW.out.below HB.out) (by rw [hxs]; omega) (by rw [hxs]; omega)
          rw [Lib.extract_to_end] at hpc
          have hpl := pieceL_le (s.data.toList.drop p)
          rw [List.length_drop, ← Lib.size_eq] at hpl
          by_cases hz : (pieceL (s.data.toList.drop p)).1 = 0
          · have HR : Hid (tokensF s = ([], 80, (p : Int))) := Lib.hid (by
              rw [HTF.out]
              have h := HT.out.none hp H35.out HBL.out hz
              cases ht : toks s.data.toList 0 with
              | mk l o => rw [ht] at h; simp only at h; subst h; rfl)
            rw [hz] at hpc
            obtain ⟨kd, hkd⟩ : ∃ kd, kd = (pieceL (s.data.toList.drop p)).2 := ⟨_, rfl⟩
            rw [← hkd] at hpc
            clear hz hb hpl hxs hkd
            go_wp2_with fail
            ((with_reducible refine hpc.mono ?_); rintro e_ WC ⟨rfl, hb_⟩)
            have n0_ := Aside0.mk (Kd.R_below (by (with_reducible repeat (first | apply Kd.R_alloc | apply Kd.R_drewN | apply Kd.R_drew)); exact HO.out) hb_); have n1_ := Aside0.mk (blk_below (g := g3) (show _ from BK3.out) hb_); have n2_ := Aside0.mk (below_step (by repeat (first | (with_reducible first | exact HB.out | apply below_alloc | apply pw_below_drewN | apply below_drew1 | refine below_set ?_ GE3.out) | exact HB.out)) hb_); clear HO BK3 HB; have HO := n0_; have BK3 := n1_; have HB := n2_; clear n0_ n1_ n2_ hb_
            clear hpc
            have hc3_0 : WC.cell? ⟨g3, 0, none⟩ = some (.int .i64 0) := (blk_cell BK3.out 0).trans rfl; have hf3_0 := blk_frozen BK3.out 0; have hc3_1 : WC.cell? ⟨g3, 1, none⟩ = some (.int .i64 0) := (blk_cell BK3.out 1).trans rfl; have hf3_1 := blk_frozen BK3.out 1
            go_wp2
            refine bodyPost_ret (results_tc rfl _ _ g3 26 #[.int .i64 80, .int .i64 p] (0, 0) _ rfl (by (with_reducible repeat (first | refine blk_drewN ?_ _ | refine blk_drew ?_ | refine blk_alloc ?_ _)); refine blk_put (cs := #[.int .i64 80, .int .i64 0]) ?_ 1 _ rfl; (with_reducible repeat (first | refine blk_drewN ?_ _ | refine blk_drew ?_ | refine blk_alloc ?_ _)); refine blk_put (cs := #[.int .i64 0, .int .i64 0]) ?_ 0 _ rfl; (with_reducible repeat (first | refine blk_drewN ?_ _ | refine blk_drew ?_ | refine blk_alloc ?_ _)); exact BK3.out) Tryd.underlying26 rfl (by kernel_rfl)) rfl ?_
            exact ⟨_, by (rw [HR.out]); first | done | rfl, by (rw [HR.out]); exact Kd.R_nil _ _ _ _ _, (by repeat (first | (with_reducible first | exact HB.out | apply below_alloc | apply pw_below_drewN | apply below_drew1 | refine below_set ?_ GE3.out) | exact HB.out))⟩
          · have hn := HT.out.piece hp H35.out HBL.out hz
            obtain ⟨n, hnn⟩ : ∃ n, n = (pieceL (s.data.toList.drop p)).1 := ⟨_, rfl⟩
            obtain ⟨kd, hkd⟩ : ∃ kd, kd = (pieceL (s.data.toList.drop p)).2 := ⟨_, rfl⟩
            rw [← hnn] at hpc hpl hz
            rw [← hnn, ← hkd] at hn
            rw [← hkd] at hpc
            have hz1 : ((n : Int) == 0) = false := by rw [beq_eq_false_iff_ne]; omega
            have hz2 : (n == 0) = false := by rw [beq_eq_false_iff_ne]; exact hz
            have hxz : (s.extract p (p + n)).size ≤ 281474976710656 := by rw [ByteArray.size_extract]; omega
            have hcl := fun W => Clone_calls (s.extract p (p + n)) W hxz
            have HN := Aside0.mk hn
            have hal := HT.out.len
            have LM : Aside0 (acc.length ≤ 16384) := ⟨by omega⟩
            clear hnn hkd hn hb hxs hxz hal
            have hnp : 0 < n := by omega
            clear hz
            go_wp2_with fail
            ((with_reducible refine hpc.mono ?_); rintro e_ WC ⟨rfl, hb_⟩)
            have n0_ := Aside0.mk (Kd.R_below (by (with_reducible repeat (first | apply Kd.R_alloc | apply Kd.R_drewN | apply Kd.R_drew)); exact HO.out) hb_); have n1_ := Aside0.mk (blk_below (g := g3) (show _ from BK3.out) hb_); have n2_ := Aside0.mk (below_step (by repeat (first | (with_reducible first | exact HB.out | apply below_alloc | apply pw_below_drewN | apply below_drew1 | refine below_set ?_ GE3.out) | exact HB.out)) hb_); clear HO BK3 HB; have HO := n0_; have BK3 := n1_; have HB := n2_; clear n0_ n1_ n2_ hb_
            clear hpc
            go_wp2_with fail
            ((with_reducible refine (hcl _).mono ?_); rintro e_ WD ⟨rfl, hb_⟩)
            have n0_ := Aside0.mk (Kd.R_below (by (with_reducible repeat (first | apply Kd.R_alloc | apply Kd.R_drewN | apply Kd.R_drew)); exact HO.out) hb_); have n1_ := Aside0.mk (blk_below (g := g3) (show _ from BK3.out) hb_); have n2_ := Aside0.mk (below_step (by repeat (first | (with_reducible first | exact HB.out | apply below_alloc | apply pw_below_drewN | apply below_drew1 | refine below_set ?_ GE3.out) | exact HB.out)) hb_); clear HO BK3 HB; have HO := n0_; have BK3 := n1_; have HB := n2_; clear n0_ n1_ n2_ hb_
            clear hcl
            go_wp2_with (((with_reducible refine gate_builtin (b := .append) (xs := #[.tmp 45, .tmp 56]) rfl ?_); at_builtin; refine Kd.R_append k31 (w0 := w) w.heap.size rfl (.tmp 45) (.tmp 56) 23 31 (.agg #[(.int .i64 0), (.string ⟨#[]⟩), (.int .i64 0)]) 32 rfl Tryd.underlying23 info31 rfl (by decide) (by omega) u4 acc (⟨(kd : Int), s.extract p (p + n), (p : Int)⟩ : S31) [.int .i64 kd, .string (s.extract p (p + n)), .int .i64 p] (fun _ => True) (fun _ => False) rfl rfl ?aP (fun _ hk => hk.elim) ?aF ?aO ?aB ?aS ?aL ?_; (case aP => exact k31_mkM _ _ _ (⟨(kd : Int), s.extract p (p + n), (p : Int)⟩ : S31)); (case aB => exact (by repeat (first | (with_reducible first | exact HB.out | apply below_alloc | apply pw_below_drewN | apply below_drew1 | refine below_set ?_ GE3.out) | exact HB.out))); (case aF => exact (fun _ _ => trivial)); (case aO => exact (by (with_reducible repeat (first | apply Kd.R_alloc | apply Kd.R_drewN | apply Kd.R_drew)); exact HO.out)); (case aS => exact (below_size (by repeat (first | (with_reducible first | exact HB.out | apply below_alloc | apply pw_below_drewN | apply below_drew1 | refine below_set ?_ GE3.out) | exact HB.out)))); (case aL => have := LM.out; omega); intro v1 W1 ho hb hg hat; have n0_ := Aside0.mk (blk_grown (g := g3) (o := .cells #[.int .i64 0, .int .i64 0] 26 (0, 0)) (by (with_reducible repeat (first | refine blk_drewN ?_ _ | refine blk_drew ?_ | refine blk_alloc ?_ _)); exact BK3.out) hg (Kd.R_ne HO.out BK3.out (by decide))); have n1_ := Aside0.mk hb; have n2_ := Aside0.mk ho; clear BK3 HB HO; have BK3 := n0_; have HB := n1_; have HO := n2_; clear n0_ n1_ n2_ hb hg hat ho))
            exact ⟨⟨p + n, _, by go_num, HN, ⟨Kd.R_mono HO.out (fun _ _ => trivial)⟩, BK3, HB⟩, by simp [intOf]; omega⟩
    · have e : p = s.size := by omega
      subst e
      have HR : Hid (tokensF s = (acc ++ [⟨6, ⟨#[]⟩, s.size⟩], 0, 0)) := Lib.hid (by rw [HTF.out, HT.out.done]; rfl)
      have hal := HT.out.len
      have LM : Aside0 (acc.length ≤ 16384) := ⟨by omega⟩
      have hp1 : decide ((s.size : Int) < (s.size : Int)) = false := decide_eq_false (by omega)
      clear hp hal
      go_wp2_with (((with_reducible refine gate_builtin (b := .append) (xs := #[.tmp 61, .tmp 65]) rfl ?_); at_builtin; refine Kd.R_append k31 (w0 := w) w.heap.size rfl (.tmp 61) (.tmp 65) 23 31 (.agg #[(.int .i64 0), (.string ⟨#[]⟩), (.int .i64 0)]) 32 rfl Tryd.underlying23 info31 rfl (by decide) (by omega) u4 acc (⟨6, (⟨#[]⟩ : ByteArray), (s.size : Int)⟩ : S31) [.int .i64 6, .string (⟨#[]⟩ : ByteArray), .int .i64 (s.size : Int)] (fun _ => True) (fun _ => False) rfl rfl ?aP (fun _ hk => hk.elim) ?aF ?aO ?aB ?aS ?aL ?_; (case aP => exact k31_mkM _ _ _ (⟨6, (⟨#[]⟩ : ByteArray), (s.size : Int)⟩ : S31)); (case aB => exact (by repeat (first | (with_reducible first | exact HB.out | apply below_alloc | apply pw_below_drewN | apply below_drew1 | refine below_set ?_ GE3.out) | exact HB.out))); (case aF => exact (fun _ _ => trivial)); (case aO => exact (by (with_reducible repeat (first | apply Kd.R_alloc | apply Kd.R_drewN | apply Kd.R_drew)); exact HO.out)); (case aS => exact (below_size (by repeat (first | (with_reducible first | exact HB.out | apply below_alloc | apply pw_below_drewN | apply below_drew1 | refine below_set ?_ GE3.out) | exact HB.out)))); (case aL => have := LM.out; omega); intro v1 W1 ho hb hg hat; have n0_ := Aside0.mk (blk_grown (g := g3) (o := .cells #[.int .i64 0, .int .i64 0] 26 (0, 0)) (by (with_reducible repeat (first | refine blk_drewN ?_ _ | refine blk_drew ?_ | refine blk_alloc ?_ _)); exact BK3.out) hg (Kd.R_ne HO.out BK3.out (by decide))); have n1_ := Aside0.mk hb; have n2_ := Aside0.mk ho; clear BK3 HB HO; have BK3 := n0_; have HB := n1_; have HO := n2_; clear n0_ n1_ n2_ hb hg hat ho; have hc3_0 : W1.cell? ⟨g3, 0, none⟩ = some (.int .i64 0) := (blk_cell BK3.out 0).trans rfl; have hf3_0 := blk_frozen BK3.out 0; have hc3_1 : W1.cell? ⟨g3, 1, none⟩ = some (.int .i64 0) := (blk_cell BK3.out 1).trans rfl; have hf3_1 := blk_frozen BK3.out 1))
      refine bodyPost_ret (results_tc rfl _ _ g3 26 #[.int .i64 0, .int .i64 0] (0, 0) _ rfl (by (with_reducible repeat (first | refine blk_drewN ?_ _ | refine blk_drew ?_ | refine blk_alloc ?_ _)); refine blk_put (cs := #[.int .i64 0, .int .i64 0]) ?_ 1 _ rfl; (with_reducible repeat (first | refine blk_drewN ?_ _ | refine blk_drew ?_ | refine blk_alloc ?_ _)); refine blk_put (cs := #[.int .i64 0, .int .i64 0]) ?_ 0 _ rfl; (with_reducible repeat (first | refine blk_drewN ?_ _ | refine blk_drew ?_ | refine blk_alloc ?_ _)); exact BK3.out) Tryd.underlying26 rfl (by kernel_rfl)) rfl ?_
      exact ⟨_, by (rw [HR.out]); first | done | rfl, by (rw [HR.out]); (with_reducible repeat (first | apply Kd.R_alloc | apply Kd.R_drewN | apply Kd.R_drew)); exact Kd.R_mono (Kd.R_far (p := ⟨g3, 1, none⟩) (Kd.R_far (p := ⟨g3, 0, none⟩) (Kd.R_types HO.out BK3.out (by decide)) (fun _ hk => hk.2) (.int .i64 0)) (fun _ hk => hk.2) (.int .i64 0)) (fun _ hk => trivial), (by repeat (first | (with_reducible first | exact HB.out | apply below_alloc | apply pw_below_drewN | apply below_drew1 | refine below_set ?_ GE3.out) | exact HB.out))⟩
end Go.Proofs.YtklkikndcieojaaDoor

/- The walk of Name; Tokens and Name as functions. -/
namespace Go.Proofs.YtklkikndcieojaaDoor
open Go.RowKit Go.Proofs.YtklkikndcieojaaDoorW.PrintWords Go.Proofs.YtklkikndcieojaaDoorW.PrintLast Go.Proofs.YtklkikndcieojaaDoorW.PrintMore
set_option linter.unusedVariables false
set_option linter.unusedSimpArgs false
open PTk
theorem Tokens_calls (s : ByteArray) (w : World) (hW : FixW w) : Calls Tryd.prog 9 #[.string s] w (TokPost w (tokensF s)) := by
  by_cases h : 16384 < s.size
  · exact Tokens_long s w h
  · exact Tokens_short s w hW (by omega)
/-- A name. -/
def nameF (s : ByteArray) : Bool := match s.data.toList with
  | [] => false
  | c :: r => decide (s.size ≤ 24) && (letC c && (decide (lenW nameC (c :: r) = s.size) && !wordL (c :: r)))
theorem nameF_nil {s : ByteArray} (h : s.size = 0) : nameF s = false := by
  unfold nameF
  have : s.data.toList = [] := by apply List.eq_nil_of_length_eq_zero; rw [← Lib.size_eq]; exact h
  rw [this]
theorem nameF_cons {s : ByteArray} (h : 0 < s.size) : nameF s = (decide (s.size ≤ 24) && (letC (s[0]'h) && (decide (lenW nameC s.data.toList = s.size) && !wordL s.data.toList))) := by
  unfold nameF
  have := drop_cons h
  rw [List.drop_zero] at this
  split
  · next e => rw [e] at this; cases this
  · next c r e =>
    have hc : c = s[0]'h := by rw [e] at this; injection this
    rw [hc] at e ⊢
    rw [e]
theorem drop0 {s : ByteArray} (h : 0 < s.size) : s.data.toList = s[0] :: s.data.toList.drop 1 := by have := drop_cons h; rw [List.drop_zero] at this; exact this
set_option maxHeartbeats 4000000 in
set_option maxRecDepth 100000 in
theorem Name_nil (s : ByteArray) (w : World) (hs : s.size ≤ 9223372036854775807) (h : s.size = 0) : Calls Tryd.prog 14 #[.string s] w fun e w' => e = .returned (.bool (nameF s)) ∧ Below w.heap.size w w' := by
  have HB := Aside0.mk (Below.refl w.heap.size w)
  have HR : Hid (nameF s = false) := Lib.hid (nameF_nil h)
  have he : s.toList = [] := by rw [Lib.toList_data]; apply List.eq_nil_of_length_eq_zero; rw [← Lib.size_eq]; exact h
  have he2 : (!s.toList.isEmpty) = false := by rw [he]; rfl
  clear h
  go_enter Tryd.func14, Tryd.ntmps14
  go_wp2
  go_ret
  exact ⟨ret_bool HR.out.symm, HB.out⟩
set_option maxHeartbeats 4000000 in
set_option maxRecDepth 100000 in
theorem Name_long (s : ByteArray) (w : World) (hs : s.size ≤ 9223372036854775807) (h : 0 < s.size) (h24 : 24 < s.size) : Calls Tryd.prog 14 #[.string s] w fun e w' => e = .returned (.bool (nameF s)) ∧ Below w.heap.size w w' := by
  have HB := Aside0.mk (Below.refl w.heap.size w)
  have HR : Hid (nameF s = false) := Lib.hid (by rw [nameF_cons h, decide_eq_false (by omega)]; rfl)
  have he : s.toList.isEmpty = false := by
    rw [Lib.toList_data, drop0 h]; rfl
  have he2 : s.toList ≠ [] := by
    rw [Lib.toList_data, drop0 h]; exact fun g => by cases g
  have z1 : decide ((s.size : Int) ≤ 24) = false := decide_eq_false (by omega)
  have z2 : decide (s.size ≤ 24) = false := decide_eq_false (by omega)
  clear h24
  go_enter Tryd.func14, Tryd.ntmps14
  go_wp2
  go_ret
  exact ⟨ret_bool HR.out.symm, HB.out⟩
set_option maxHeartbeats 4000000 in
set_option maxRecDepth 100000 in
theorem Name_sign (s : ByteArray) (w : World) (hs : s.size ≤ 9223372036854775807) (h : 0 < s.size) (h24 : s.size ≤ 24) (hl : letC (s[0]'h) = false) : Calls Tryd.prog 14 #[.string s] w fun e w' => e = .returned (.bool (nameF s)) ∧ Below w.heap.size w w' := by
  have HB := Aside0.mk (Below.refl w.heap.size w)
  have HR : Hid (nameF s = false) := Lib.hid (by rw [nameF_cons h, hl, decide_eq_true h24]; rfl)
  have he : s.toList.isEmpty = false := by
    rw [Lib.toList_data, drop0 h]; rfl
  have he2 : s.toList ≠ [] := by
    rw [Lib.toList_data, drop0 h]; exact fun g => by cases g
  have z1 : decide ((s.size : Int) ≤ 24) = true := decide_eq_true (by omega)
  have z2 : decide (s.size ≤ 24) = true := decide_eq_true h24
  obtain ⟨c, hc⟩ : ∃ c, c = s[0]'h := ⟨_, rfl⟩
  have hcs : s[0]'h = c := hc.symm
  have hlc := fun W => let_calls c W
  rw [show letC c = false from by rw [hc]; exact hl] at hlc
  clear hl hc h24
  go_enter Tryd.func14, Tryd.ntmps14
  go_wp2_with fail
  ((with_reducible refine (hlc _).mono ?_); rintro e_ W_ ⟨rfl, ⟨n_, hN_⟩⟩)
  have m_ := Aside0.mk (show Below w.heap.size w W_ from by rw [hN_]; exact pw_below_drewN HB.out n_); clear HB; have HB := m_; clear m_ hN_
  clear hlc
  go_wp2
  go_ret
  exact ⟨ret_bool HR.out.symm, HB.out⟩
set_option maxHeartbeats 4000000 in
set_option maxRecDepth 100000 in
theorem Name_part (s : ByteArray) (w : World) (hs : s.size ≤ 9223372036854775807) (h : 0 < s.size) (h24 : s.size ≤ 24) (hl : letC (s[0]'h) = true) (hne : lenW nameC s.data.toList ≠ s.size) : Calls Tryd.prog 14 #[.string s] w fun e w' => e = .returned (.bool (nameF s)) ∧ Below w.heap.size w w' := by
  have HB := Aside0.mk (Below.refl w.heap.size w)
  have HR : Hid (nameF s = false) := Lib.hid (by rw [nameF_cons h, hl, decide_eq_true h24, decide_eq_false hne]; rfl)
  have he : s.toList.isEmpty = false := by
    rw [Lib.toList_data, drop0 h]; rfl
  have he2 : s.toList ≠ [] := by
    rw [Lib.toList_data, drop0 h]; exact fun g => by cases g
  have z1 : decide ((s.size : Int) ≤ 24) = true := decide_eq_true (by omega)
  have z2 : decide (s.size ≤ 24) = true := decide_eq_true h24
  obtain ⟨c, hc⟩ : ∃ c, c = s[0]'h := ⟨_, rfl⟩
  have hcs : s[0]'h = c := hc.symm
  have hlc := fun W => let_calls c W
  have hr := fun W => run_name s W hs
  obtain ⟨n, hn⟩ : ∃ n, n = lenW nameC s.data.toList := ⟨_, rfl⟩
  rw [← hn] at hr
  rw [show letC c = true from by rw [hc]; exact hl] at hlc
  rw [← hn] at hne
  have z3 : ((n : Int) == (s.size : Int)) = false := by rw [beq_eq_false_iff_ne]; omega
  clear hl hc h24 hn hne
  go_enter Tryd.func14, Tryd.ntmps14
  go_wp2_with fail
  ((with_reducible refine (hlc _).mono ?_); rintro e_ W_ ⟨rfl, ⟨n_, hN_⟩⟩)
  have m_ := Aside0.mk (show Below w.heap.size w W_ from by rw [hN_]; exact pw_below_drewN HB.out n_); clear HB; have HB := m_; clear m_ hN_
  clear hlc
  go_wp2_with fail
  ((with_reducible refine (hr _).mono ?_); rintro e_ W_ ⟨rfl, ⟨n_, hN_⟩⟩)
  have m_ := Aside0.mk (show Below w.heap.size w W_ from by rw [hN_]; exact pw_below_drewN HB.out n_); clear HB; have HB := m_; clear m_ hN_
  clear hr
  go_wp2
  go_ret
  exact ⟨ret_bool HR.out.symm, HB.out⟩
set_option maxHeartbeats 4000000 in
set_option maxRecDepth 100000 in
theorem Name_word (s : ByteArray) (w : World) (hs : s.size ≤ 9223372036854775807) (h : 0 < s.size) (h24 : s.size ≤ 24) (hl : letC (s[0]'h) = true) (hne : lenW nameC s.data.toList = s.size) : Calls Tryd.prog 14 #[.string s] w fun e w' => e = .returned (.bool (nameF s)) ∧ Below w.heap.size w w' := by
  have HB := Aside0.mk (Below.refl w.heap.size w)
  have HR : Hid (nameF s = !wordL s.data.toList) := Lib.hid (by rw [nameF_cons h, hl, decide_eq_true h24, decide_eq_true hne]; simp)
  have he : s.toList.isEmpty = false := by
    rw [Lib.toList_data, drop0 h]; rfl
  have he2 : s.toList ≠ [] := by
    rw [Lib.toList_data, drop0 h]; exact fun g => by cases g
  have z1 : decide ((s.size : Int) ≤ 24) = true := decide_eq_true (by omega)
  have z2 : decide (s.size ≤ 24) = true := decide_eq_true h24
  obtain ⟨c, hc⟩ : ∃ c, c = s[0]'h := ⟨_, rfl⟩
  have hcs : s[0]'h = c := hc.symm
  have hlc := fun W => let_calls c W
  have hr := fun W => run_name s W hs
  obtain ⟨n, hn⟩ : ∃ n, n = lenW nameC s.data.toList := ⟨_, rfl⟩
  rw [← hn] at hr
  rw [show letC c = true from by rw [hc]; exact hl] at hlc
  rw [← hn] at hne
  have z3 : ((n : Int) == (s.size : Int)) = true := by rw [beq_iff_eq]; omega
  have hwd := fun W => Word_calls s W
  rw [Lib.toList_data] at hwd
  clear hl hc h24 hn hne
  cases hb : wordL s.data.toList with
  | true =>
    rw [hb] at hwd
    have HR2 := HR.out
    rw [hb] at HR2
    have HR := Lib.hid HR2
    clear hb HR2
    go_enter Tryd.func14, Tryd.ntmps14
    go_wp2_with fail
    ((with_reducible refine (hlc _).mono ?_); rintro e_ W_ ⟨rfl, ⟨n_, hN_⟩⟩)
    have m_ := Aside0.mk (show Below w.heap.size w W_ from by rw [hN_]; exact pw_below_drewN HB.out n_); clear HB; have HB := m_; clear m_ hN_
    clear hlc
    go_wp2_with fail
    ((with_reducible refine (hr _).mono ?_); rintro e_ W_ ⟨rfl, ⟨n_, hN_⟩⟩)
    have m_ := Aside0.mk (show Below w.heap.size w W_ from by rw [hN_]; exact pw_below_drewN HB.out n_); clear HB; have HB := m_; clear m_ hN_
    clear hr
    go_wp2_with fail
    ((with_reducible refine (hwd _).mono ?_); rintro e_ W_ ⟨rfl, ⟨n_, hN_⟩⟩)
    have m_ := Aside0.mk (show Below w.heap.size w W_ from by rw [hN_]; exact pw_below_drewN HB.out n_); clear HB; have HB := m_; clear m_ hN_
    clear hwd
    go_wp2
    go_ret
    exact ⟨ret_bool HR.out.symm, HB.out⟩
  | false =>
    rw [hb] at hwd
    have HR2 := HR.out
    rw [hb] at HR2
    have HR := Lib.hid HR2
    clear hb HR2
    go_enter Tryd.func14, Tryd.ntmps14
    go_wp2_with fail
    ((with_reducible refine (hlc _).mono ?_); rintro e_ W_ ⟨rfl, ⟨n_, hN_⟩⟩)
    have m_ := Aside0.mk (show Below w.heap.size w W_ from by rw [hN_]; exact pw_below_drewN HB.out n_); clear HB; have HB := m_; clear m_ hN_
    clear hlc
    go_wp2_with fail
    ((with_reducible refine (hr _).mono ?_); rintro e_ W_ ⟨rfl, ⟨n_, hN_⟩⟩)
    have m_ := Aside0.mk (show Below w.heap.size w W_ from by rw [hN_]; exact pw_below_drewN HB.out n_); clear HB; have HB := m_; clear m_ hN_
    clear hr
    go_wp2_with fail
    ((with_reducible refine (hwd _).mono ?_); rintro e_ W_ ⟨rfl, ⟨n_, hN_⟩⟩)
    have m_ := Aside0.mk (show Below w.heap.size w W_ from by rw [hN_]; exact pw_below_drewN HB.out n_); clear HB; have HB := m_; clear m_ hN_
    clear hwd
    go_wp2
    go_ret
    exact ⟨ret_bool HR.out.symm, HB.out⟩
theorem Name_calls (s : ByteArray) (w : World) (hs : s.size ≤ 9223372036854775807) : Calls Tryd.prog 14 #[.string s] w fun e w' => e = .returned (.bool (nameF s)) ∧ Below w.heap.size w w' := by
  rcases Nat.eq_zero_or_pos s.size with h | h
  · exact Name_nil s w hs h
  · by_cases h24 : 24 < s.size
    · exact Name_long s w hs h h24
    · have h24' : s.size ≤ 24 := by omega
      cases hl : letC (s[0]'h) with
      | false => exact Name_sign s w hs h h24' hl
      | true =>
        by_cases hne : lenW nameC s.data.toList = s.size
        · exact Name_word s w hs h h24' hl hne
        · exact Name_part s w hs h h24' hl hne
theorem beq_nil (l : List UInt8) : (l == []) = l.isEmpty := by cases l <;> rfl
namespace PTk
def token_Tokens.f (a0 : ByteArray) : Option (List S31 × Int × Int) := some (tokensF a0)
theorem token_Tokens.calls (a0 : ByteArray) (r1 : List S31) (r2 : Int) (r3 : Int) (w : World) (h : token_Tokens.f a0 = some (r1, r2, r3)) (hW : FixW w) :
    Calls Tryd.prog 9 #[.string a0] w fun e w' => ∃ v0_ : Value, e = .returned (.tuple #[v0_, .agg #[.int .i64 r2, .int .i64 r3]]) ∧ Kd.R k31 31 w' w.heap.size (fun _ => True) v0_ r1 ∧ Below w.heap.size w w' := by
  have e : tokensF a0 = (r1, r2, r3) := Option.some.inj h
  have := Tokens_calls a0 w hW
  rw [e] at this
  exact this
def token_Name.f (a0 : ByteArray) : Option Bool := if a0.size ≤ 9223372036854775807 then some (nameF a0) else none
theorem token_Name.calls (a0 : ByteArray) (r : Bool) (w : World) (h : token_Name.f a0 = some r) : Calls Tryd.prog 14 #[.string a0] w fun e w' => e = .returned (.bool r) ∧ Below w.heap.size w w' := by
  unfold token_Name.f at h
  by_cases hs : a0.size ≤ 9223372036854775807
  · rw [if_pos hs] at h
    obtain rfl := Option.some.inj h
    exact Name_calls a0 w hs
  · rw [if_neg hs] at h; cases h
end PTk
end Go.Proofs.YtklkikndcieojaaDoor
