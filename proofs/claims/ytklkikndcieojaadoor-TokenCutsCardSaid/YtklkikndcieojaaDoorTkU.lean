/- Merged: TkT TkU -/
import Derived.Test.YtklkikndcieojaaDoorTkJ
import Derived.Test.YtklkikndcieojaaDoorTkS
import Derived.Test.YtklkikndcieojaaDoorTkQ
import Derived.Test.YtklkikndcieojaaDoorTkLCuts
/- The document's tokens are these: plain, the parts. -/
namespace Go.Proofs.YtklkikndcieojaaDoor
open Go.RowKit Go.Proofs.YtklkikndcieojaaDoorW.PrintWords Go.Proofs.YtklkikndcieojaaDoorW.PrintLast Go.Proofs.YtklkikndcieojaaDoorW.PrintMore
set_option linter.unusedVariables false
set_option linter.unusedSimpArgs false
open PTk
/-- Whatever fuel there is, if there is enough. -/
def Ev {α : Type} (f : Nat → Option α) (v : α) : Prop := ∃ k0, ∀ k, k0 ≤ k → f k = some v
theorem Ev.step {α : Type} {f g : Nat → Option α} {v : α} (h : Ev g v) (e : ∀ k, f (k + 1) = g k) : Ev f v := by
  obtain ⟨k0, h⟩ := h
  refine ⟨k0 + 1, fun k hk => ?_⟩
  obtain ⟨k, rfl⟩ : ∃ q, k = q + 1 := ⟨k - 1, by omega⟩
  rw [e]; exact h k (by omega)
theorem Ev.val {α : Type} {f : Nat → Option α} {v : α} (e : ∀ k, f (k + 1) = some v) : Ev f v := Ev.step (g := fun _ => some v) ⟨0, fun _ _ => rfl⟩ e
theorem Ev.bind {α β : Type} {f : Nat → Option α} {g : Nat → α → Option β} {a : α} {v : β} (h : Ev f a) (h2 : Ev (fun k => g k a) v) : Ev (fun k => (f k).bind (g k)) v := by
  obtain ⟨k1, h1⟩ := h
  obtain ⟨k2, h2⟩ := h2
  refine ⟨max k1 k2, fun k hk => ?_⟩
  show (f k).bind (g k) = _
  rw [h1 k (by omega)]
  exact h2 k (by omega)
theorem Ev.const {α : Type} (v : α) : Ev (fun _ => some v) v := ⟨0, fun _ _ => rfl⟩
theorem Ev.congr {α : Type} {f g : Nat → Option α} {v : α} (h : Ev g v) (e : ∀ k, f k = g k) : Ev f v := by
  obtain ⟨k0, h⟩ := h
  exact ⟨k0, fun k hk => (e k).trans (h k hk)⟩
theorem Ev.mono {α : Type} {f : Nat → Option α} {v : α} (hm : ∀ k, LeO (f k) (f (k + 1))) (h : ∃ k, f k = some v) : Ev f v := by
  obtain ⟨k, h⟩ := h
  refine ⟨k, fun j hj => ?_⟩
  obtain ⟨d, rfl⟩ : ∃ d, j = k + d := ⟨j - k, by omega⟩
  clear hj
  induction d with
  | zero => exact h
  | succ d ih => exact hm _ _ ih
theorem bt_at {x : ByteArray} {i : Nat} (h : i < x.size) : Go.Proofs.YtklkikndcieojaaDoorW.PrintWords.bt x (i : Int) = ((x[i]).toNat : Int) := by
  unfold Go.Proofs.YtklkikndcieojaaDoorW.PrintWords.bt
  rw [dif_pos (by simpa using h)]
  rfl
theorem byte_eq {c : UInt8} {k : Nat} (hk : k < 256) : ((c.toNat : Int) = (k : Int)) ↔ c = UInt8.ofNat k := by
  constructor
  · intro h
    apply UInt8.toNat_inj.1
    rw [UInt8.toNat_ofNat']
    omega
  · rintro rfl
    rw [UInt8.toNat_ofNat']
    omega
theorem next64 {i : Nat} (h : i < 1000000) : wrap64 ((i : Int) + 1) = ((i + 1 : Nat) : Int) := by rw [w64_small (by omega) (by omega)]; omega
theorem sum64 {i j : Nat} (h : i + j < 1000000) : wrap64 ((i : Int) + (j : Int)) = ((i + j : Nat) : Int) := by rw [w64_small (by omega) (by omega)]; omega
/-- Where the blanks from a place on end. -/
def BlankTo (s : ByteArray) (p q : Nat) : Prop := p ≤ q ∧ q ≤ s.size ∧ (∀ h : q < s.size, s[q] ≠ 35 ∧ blankC s[q] = false)
theorem blanks_ev (s : ByteArray) (hs : s.size ≤ 16384) : ∀ (m p : Nat), p + m = s.size →
    (∃ q, BlankTo s p q ∧ toks (s.data.toList.drop p) p = toks (s.data.toList.drop q) q ∧ Ev (fun k => tiltyardref08_blanks.l0 k s (p : Int)) (q : Int)) ∧
    (∃ q, BlankTo s p q ∧ toks (s.data.toList.drop (p + lenW noteC (s.data.toList.drop p))) (p + lenW noteC (s.data.toList.drop p)) = toks (s.data.toList.drop q) q ∧ Ev (fun k => tiltyardref08_blanks.l1 k s (p : Int)) (q : Int))
  | 0, p, hp => by
    have h0 : ∃ q, BlankTo s p q ∧ toks (s.data.toList.drop p) p = toks (s.data.toList.drop q) q ∧ Ev (fun k => tiltyardref08_blanks.l0 k s (p : Int)) (q : Int) :=
      ⟨p, ⟨Nat.le_refl _, by omega, fun h => by omega⟩, rfl, Ev.val (fun k => by rw [tiltyardref08_blanks.l0, if_neg (by omega)])⟩
    refine ⟨h0, ?_⟩
    obtain ⟨q, h1, h2, h3⟩ := h0
    have hd : s.data.toList.drop p = [] := List.drop_of_length_le (by rw [← Lib.size_eq]; omega)
    refine ⟨q, h1, ?_, Ev.step h3 (fun k => by rw [tiltyardref08_blanks.l1, if_neg (by omega)])⟩
    rw [hd]
    show toks (s.data.toList.drop (p + 0)) (p + 0) = _
    rw [Nat.add_zero, h2]
  | m + 1, p, hp => by
    obtain ⟨⟨q0, a1, a2, a3⟩, ⟨q1, b1, b2, b3⟩⟩ := blanks_ev s hs m (p + 1) (by omega)
    have hlt : p < s.size := by omega
    have hd := drop_cons hlt
    have hq0 : BlankTo s p q0 := ⟨by have := a1.1; omega, a1.2⟩
    have hq1 : BlankTo s p q1 := ⟨by have := b1.1; omega, b1.2⟩
    have e10 : (((s[p]).toNat : Int) = 10) ↔ s[p] = 10 := byte_eq (k := 10) (by decide)
    have e35 : (((s[p]).toNat : Int) = 35) ↔ s[p] = 35 := byte_eq (k := 35) (by decide)
    have e9 : (((s[p]).toNat : Int) = 9) ↔ s[p] = 9 := byte_eq (k := 9) (by decide)
    have e13 : (((s[p]).toNat : Int) = 13) ↔ s[p] = 13 := byte_eq (k := 13) (by decide)
    have e32 : (((s[p]).toNat : Int) = 32) ↔ s[p] = 32 := byte_eq (k := 32) (by decide)
    -- a blank
    have hblank : s[p] ≠ 35 → blankC s[p] = true → toks (s.data.toList.drop p) p = toks (s.data.toList.drop q0) q0 := fun g1 g2 => by rw [hd, toks_blank g1 g2, a2]
    have h0 : ∃ q, BlankTo s p q ∧ toks (s.data.toList.drop p) p = toks (s.data.toList.drop q) q ∧ Ev (fun k => tiltyardref08_blanks.l0 k s (p : Int)) (q : Int) := by
      by_cases h35 : s[p] = 35
      · refine ⟨q1, hq1, ?_, ?_⟩
        · have hn : lenW noteC (s[p] :: s.data.toList.drop (p + 1)) = lenW noteC (s.data.toList.drop (p + 1)) + 1 := by rw [lenW, if_pos (by rw [h35]; decide)]
          rw [hd, h35, toks_note, ← h35, hn]
          rw [List.drop_succ_cons, List.drop_drop, show p + (lenW noteC (s.data.toList.drop (p + 1)) + 1) = p + 1 + lenW noteC (s.data.toList.drop (p + 1)) by omega]
          exact b2
        · refine Ev.step (g := fun k => tiltyardref08_blanks.l1 k s (p : Int)) (Ev.step b3 (fun k => ?_)) (fun k => ?_)
          · show tiltyardref08_blanks.l1 (k + 1) s (p : Int) = _
            rw [tiltyardref08_blanks.l1, if_pos (by omega), if_pos (by omega), bt_at hlt, if_neg (by rw [e10, h35]; decide), next64 (by omega)]
          · rw [tiltyardref08_blanks.l0, if_pos (by omega), if_pos (by omega), bt_at hlt, if_pos (e35.2 h35)]
      · by_cases hb : blankC s[p] = true
        · refine ⟨q0, hq0, hblank h35 hb, Ev.step a3 (fun k => ?_)⟩
          rw [tiltyardref08_blanks.l0, if_pos (by omega), if_pos (by omega), bt_at hlt, if_neg (fun g => h35 (e35.1 g)), next64 (by omega)]
          unfold blankC at hb
          simp only [Bool.or_eq_true, decide_eq_true_eq] at hb
          by_cases g9 : s[p] = 9
          · rw [if_pos (e9.2 g9)]
          · rw [if_neg (fun g => g9 (e9.1 g))]
            by_cases g10 : s[p] = 10
            · rw [if_pos (e10.2 g10)]
            · rw [if_neg (fun g => g10 (e10.1 g))]
              by_cases g13 : s[p] = 13
              · rw [if_pos (e13.2 g13)]
              · rw [if_neg (fun g => g13 (e13.1 g)), if_pos (e32.2 (hb.resolve_left (fun h => h.elim (fun h => h.elim g9 g10) g13)))]
        · have hb' : blankC s[p] = false := by simpa using hb
          refine ⟨p, ⟨Nat.le_refl _, by omega, fun _ => ⟨h35, hb'⟩⟩, rfl, Ev.val (fun k => ?_)⟩
          unfold blankC at hb
          simp only [Bool.or_eq_true, decide_eq_true_eq, not_or] at hb
          rw [tiltyardref08_blanks.l0, if_pos (by omega), if_pos (by omega), bt_at hlt, if_neg (fun g => h35 (e35.1 g)), if_neg (fun g => hb.1.1.1 (e9.1 g)), if_neg (fun g => hb.1.1.2 (e10.1 g)), if_neg (fun g => hb.1.2 (e13.1 g)), if_neg (fun g => hb.2 (e32.1 g))]
    refine ⟨h0, ?_⟩
    by_cases h10 : s[p] = 10
    · obtain ⟨q, h1, h2, h3⟩ := h0
      refine ⟨q, h1, ?_, Ev.step h3 (fun k => ?_)⟩
      · have hn : lenW noteC (s.data.toList.drop p) = 0 := by rw [hd, lenW, if_neg (by rw [h10]; decide)]
        rw [hn, Nat.add_zero, h2]
      · rw [tiltyardref08_blanks.l1, if_pos (by omega), if_pos (by omega), bt_at hlt, if_pos (e10.2 h10)]
    · refine ⟨q1, hq1, ?_, Ev.step b3 (fun k => ?_)⟩
      · have hnc : noteC s[p] = true := by
          unfold noteC
          rw [Bool.not_eq_true', decide_eq_false_iff_not]
          intro g
          exact h10 (UInt8.toNat_inj.1 g)
        have hn : lenW noteC (s.data.toList.drop p) = lenW noteC (s.data.toList.drop (p + 1)) + 1 := by rw [hd, lenW, if_pos hnc]
        rw [hn, show p + (lenW noteC (s.data.toList.drop (p + 1)) + 1) = p + 1 + lenW noteC (s.data.toList.drop (p + 1)) by omega]
        exact b2
      · rw [tiltyardref08_blanks.l1, if_pos (by omega), if_pos (by omega), bt_at hlt, if_neg (fun g => h10 (e10.1 g)), next64 (by omega)]
theorem in_ev (L : List ByteArray) (s : ByteArray) (hL : L.length ≤ 1000) : ∀ (m i : Nat), i + m = L.length →
    Ev (fun k => tiltyardref08_in.l0 k L s (i : Int)) (decide (s.data.toList ∈ (L.drop i).map (·.data.toList)))
  | 0, i, h => Ev.val (fun k => by rw [tiltyardref08_in.l0, if_neg (by omega), List.drop_of_length_le (by omega)]; rfl)
  | m + 1, i, h => by
    have IH := in_ev L s hL m (i + 1) (by omega)
    have hi : i < L.length := by omega
    have hr : (rdOf ByteArray.empty L (i : Int)) = L[i] := by
      unfold rdOf
      simp only [Int.toNat_natCast, List.getD_eq_getElem?_getD]
      rw [List.getElem?_eq_getElem hi]; rfl
    have hd : L.drop i = L[i] :: L.drop (i + 1) := List.drop_eq_getElem_cons hi
    rw [hd, List.map_cons]
    by_cases hq : L[i].data.toList = s.data.toList
    · refine Ev.val (fun k => ?_)
      rw [tiltyardref08_in.l0, if_pos (by omega), if_pos (by omega), hr, if_pos (by rw [Lib.toList_data, Lib.toList_data]; exact hq)]
      rw [decide_eq_true (by rw [hq]; exact List.mem_cons_self)]
    · rw [show (decide (s.data.toList ∈ L[i].data.toList :: (L.drop (i + 1)).map (·.data.toList))) = decide (s.data.toList ∈ (L.drop (i + 1)).map (·.data.toList)) by
        rw [decide_eq_decide, List.mem_cons]
        exact ⟨fun g => g.resolve_left (fun e => hq e.symm), Or.inr⟩]
      refine Ev.step IH (fun k => ?_)
      rw [tiltyardref08_in.l0, if_pos (by omega), if_pos (by omega), hr, if_neg (by rw [Lib.toList_data, Lib.toList_data]; exact hq), next64 (by omega)]
theorem word_ev (s : ByteArray) : Ev (fun k => tiltyardref08_Word.f k s) (wordL s.data.toList) := by
  unfold tiltyardref08_Word.f tiltyardref08_Words.f tiltyardref08_in.f
  simp only [Option.bind_some]
  refine Ev.bind ?_ (Ev.const _)
  exact in_ev _ s (by simp) _ 0 (by simp; rfl)
theorem rletter_f (c : UInt8) : tiltyardref08_letter.f (c.toNat : Int) = some (letC c) := by
  unfold tiltyardref08_letter.f letC
  (repeat' split) <;> (refine congrArg some ?_; rw [Bool.eq_iff_iff]; simp; omega)
theorem rdigit_f (c : UInt8) : tiltyardref08_digit.f (c.toNat : Int) = some (digC c) := by
  unfold tiltyardref08_digit.f digC
  (repeat' split) <;> (refine congrArg some ?_; rw [Bool.eq_iff_iff]; simp; omega)
/-- How many bytes of a name stand at the front. -/
def letN : List UInt8 → Nat
  | [] => 0
  | c :: r => if letC c then lenW nameC (c :: r) else 0
theorem letters_ev (s : ByteArray) (hs : s.size ≤ 140737488351232) (p : Nat) : ∀ (m n : Nat), p + n + m = s.size →
    Ev (fun k => tiltyardref08_letters.l0 k s (p : Int) (n : Int)) ((if n = 0 then letN (s.data.toList.drop p) else n + lenW nameC (s.data.toList.drop (p + n)) : Nat) : Int)
  | 0, n, h => by
    have hd : s.data.toList.drop (p + n) = [] := List.drop_of_length_le (by rw [← Lib.size_eq]; omega)
    have e : (if n = 0 then letN (s.data.toList.drop p) else n + lenW nameC (s.data.toList.drop (p + n))) = n := by
      split
      · next h0 => subst h0; rw [Nat.add_zero] at hd; rw [hd]; rfl
      · rw [hd]; rfl
    rw [e]
    refine Ev.val (fun k => ?_)
    have hw : wrap64 ((p : Int) + (n : Int)) = ((p + n : Nat) : Int) := by rw [w64_small (by omega) (by omega)]; omega
    rw [tiltyardref08_letters.l0, hw, if_neg (by omega)]
  | m + 1, n, h => by
    have IH := letters_ev s hs p m (n + 1) (by omega)
    rw [if_neg (by omega)] at IH
    have hlt : p + n < s.size := by omega
    have hd := drop_cons hlt
    have hw : wrap64 ((p : Int) + (n : Int)) = ((p + n : Nat) : Int) := by rw [w64_small (by omega) (by omega)]; omega
    have hw1 : wrap64 ((n : Int) + 1) = ((n + 1 : Nat) : Int) := by rw [w64_small (by omega) (by omega)]; omega
    have hun : ∀ k, tiltyardref08_letters.l0 (k + 1) s (p : Int) (n : Int) = (if letC s[p + n] = true then (if (n : Int) = 0 then tiltyardref08_letters.l0 k s (p : Int) ((n + 1 : Nat) : Int) else tiltyardref08_letters.l0 k s (p : Int) ((n + 1 : Nat) : Int)) else (if digC s[p + n] = true then (if (n : Int) = 0 then some (n : Int) else tiltyardref08_letters.l0 k s (p : Int) ((n + 1 : Nat) : Int)) else some (n : Int))) := by
      intro k
      rw [tiltyardref08_letters.l0, hw, if_pos (by omega), if_pos (by omega), bt_at hlt, rletter_f, rdigit_f, hw1]
      rfl
    have hgo : nameC s[p + n] = true → n + 1 + lenW nameC (s.data.toList.drop (p + (n + 1))) = n + lenW nameC (s.data.toList.drop (p + n)) := by
      intro g
      rw [hd, lenW, if_pos g, show p + (n + 1) = p + n + 1 by omega]; omega
    have hst : nameC s[p + n] = false → lenW nameC (s.data.toList.drop (p + n)) = 0 := by
      intro g
      rw [hd, lenW, if_neg (by rw [g]; decide)]
    cases hl : letC s[p + n] with
    | true =>
      have hn : nameC s[p + n] = true := by unfold nameC; rw [hl]; rfl
      have e : (if n = 0 then letN (s.data.toList.drop p) else n + lenW nameC (s.data.toList.drop (p + n))) = n + 1 + lenW nameC (s.data.toList.drop (p + (n + 1))) := by
        rw [hgo hn]
        split
        · next h0 =>
          subst h0
          have hd' : s.data.toList.drop p = s[p + 0] :: s.data.toList.drop (p + 0 + 1) := hd
          show letN (s.data.toList.drop p) = 0 + lenW nameC (s.data.toList.drop p)
          rw [hd']
          show (if letC s[p + 0] = true then _ else _) = _
          rw [if_pos hl]; omega
        · rfl
      rw [e]
      refine Ev.step IH (fun k => ?_)
      rw [hun, hl, if_pos rfl]
      split <;> rfl
    | false =>
      by_cases h0 : n = 0
      · subst h0
        have e : letN (s.data.toList.drop p) = 0 := by
          have hd' : s.data.toList.drop p = s[p + 0] :: s.data.toList.drop (p + 0 + 1) := hd
          rw [hd']
          show (if letC s[p + 0] = true then _ else _) = _
          rw [hl]; rfl
        rw [if_pos rfl, e]
        refine Ev.val (fun k => ?_)
        rw [hun, hl, if_neg (by decide)]
        split <;> rfl
      · rw [if_neg h0]
        cases hdg : digC s[p + n] with
        | true =>
          have hn : nameC s[p + n] = true := by unfold nameC; rw [hdg, Bool.or_true]
          rw [← hgo hn]
          refine Ev.step IH (fun k => ?_)
          rw [hun, hl, hdg, if_neg (by decide), if_pos rfl, if_neg (by omega)]
        | false =>
          have hn : nameC s[p + n] = false := by unfold nameC; rw [hdg, hl]; rfl
          rw [hst hn]
          refine Ev.val (fun k => ?_)
          rw [hun, hl, hdg, if_neg (by decide), if_neg (by decide)]
          rfl
theorem digits_ev (s : ByteArray) (hs : s.size ≤ 140737488351232) (p : Nat) : ∀ (m n : Nat), p + n + m = s.size →
    Ev (fun k => tiltyardref08_digits.l0 k s (p : Int) (n : Int)) ((n + lenW digC (s.data.toList.drop (p + n)) : Nat) : Int)
  | 0, n, h => by
    have hd : s.data.toList.drop (p + n) = [] := List.drop_of_length_le (by rw [← Lib.size_eq]; omega)
    rw [hd]
    refine Ev.val (fun k => ?_)
    have hw : wrap64 ((p : Int) + (n : Int)) = ((p + n : Nat) : Int) := by rw [w64_small (by omega) (by omega)]; omega
    rw [tiltyardref08_digits.l0, hw, if_neg (by omega)]
    rfl
  | m + 1, n, h => by
    have IH := digits_ev s hs p m (n + 1) (by omega)
    have hlt : p + n < s.size := by omega
    have hd := drop_cons hlt
    have hw : wrap64 ((p : Int) + (n : Int)) = ((p + n : Nat) : Int) := by rw [w64_small (by omega) (by omega)]; omega
    have hw1 : wrap64 ((n : Int) + 1) = ((n + 1 : Nat) : Int) := by rw [w64_small (by omega) (by omega)]; omega
    by_cases hg : digC s[p + n] = true
    · have e : n + lenW digC (s.data.toList.drop (p + n)) = n + 1 + lenW digC (s.data.toList.drop (p + (n + 1))) := by
        rw [hd, lenW, if_pos hg, show p + (n + 1) = p + n + 1 by omega]; omega
      rw [e]
      unfold digC at hg
      simp only [Bool.and_eq_true, decide_eq_true_eq] at hg
      refine Ev.step IH (fun k => ?_)
      rw [tiltyardref08_digits.l0, hw, if_pos (by omega), if_pos (by omega), bt_at hlt, if_pos (by omega), if_pos (by omega), hw1]
    · have e : n + lenW digC (s.data.toList.drop (p + n)) = n := by rw [hd, lenW, if_neg hg]; rfl
      rw [e]
      unfold digC at hg
      simp only [Bool.and_eq_true, decide_eq_true_eq, not_and] at hg
      refine Ev.val (fun k => ?_)
      rw [tiltyardref08_digits.l0, hw, if_pos (by omega), if_pos (by omega), bt_at hlt]
      by_cases g : (((s[p + n]).toNat : Int)) ≥ 48
      · rw [if_pos g, if_neg (by have := hg (by omega); omega)]
      · rw [if_neg g]
end Go.Proofs.YtklkikndcieojaaDoor

/- The document's tokens are these; TokenCuts, plain. -/
namespace Go.Proofs.YtklkikndcieojaaDoor
open Go.RowKit Go.Proofs.YtklkikndcieojaaDoorW.PrintWords Go.Proofs.YtklkikndcieojaaDoorW.PrintLast Go.Proofs.YtklkikndcieojaaDoorW.PrintMore
set_option linter.unusedVariables false
set_option linter.unusedSimpArgs false
open PTk
theorem numV_mul : ∀ (l : List Int) (n : Int), Digs l → 0 ≤ n → n * 10 ^ l.length ≤ numV n l
  | [], n, _, _ => by simp [numV]
  | c :: l, n, h, h0 => by
    rw [numV_cons]
    have hc := h c List.mem_cons_self
    have IH := numV_mul l (n * 10 + (c - 48)) (fun d hd => h d (List.mem_cons_of_mem _ hd)) (by omega)
    have hp : (0 : Int) < 10 ^ l.length := by exact_mod_cast Nat.pow_pos (by decide)
    have : n * 10 ^ (c :: l).length = (n * 10) * 10 ^ l.length := by
      rw [List.length_cons, Int.pow_succ, Int.mul_comm (10 ^ l.length) 10, Int.mul_assoc]
    rw [this]
    refine Int.le_trans ?_ IH
    exact Int.mul_le_mul_of_nonneg_right (by omega) (by omega)
theorem bytes_digs {s : ByteArray} (hd : ∀ c ∈ s.data.toList, digC c = true) : Digs (bytesOf s) := by
  intro x hx
  rw [bytesOf_bI] at hx
  unfold bI at hx
  obtain ⟨b, hb, rfl⟩ := List.mem_map.1 hx
  have := hd b hb
  unfold digC at this
  simp at this
  omega
theorem bytes_len (s : ByteArray) : (bytesOf s).length = s.size := by rw [bytesOf_bI]; unfold bI; rw [List.length_map, Lib.size_eq]
theorem pow19 {n : Nat} (h : n ≤ 18) : (10 : Int) ^ n ≤ 1000000000000000000 := by
  have h1 : 10 ^ n ≤ 10 ^ 18 := Nat.pow_le_pow_right (by decide) h
  have h2 : (10 : Nat) ^ 18 = 1000000000000000000 := by decide
  rw [h2] at h1
  have h3 := Int.ofNat_le.2 h1
  rw [Int.natCast_pow] at h3
  exact h3
theorem whole_loop (s : ByteArray) (hd : Digs (bytesOf s)) (hs : s.size ≤ 19) : ∀ (m i : Nat), i + m = s.size →
    Ev (fun k => tiltyardref08_Whole.l0 k s (numV 0 ((bytesOf s).take i)) (i : Int)) (wrap64 (numV 0 (bytesOf s)), decide (numV 0 (bytesOf s) ≤ 9223372036854775807))
  | 0, i, h => Ev.val (fun k => by
      rw [tiltyardref08_Whole.l0, if_neg (by omega), List.take_of_length_le (by rw [bytes_len]; omega)])
  | m + 1, i, h => by
    have IH := whole_loop s hd hs m (i + 1) (by omega)
    have hi : i < (bytesOf s).length := by rw [bytes_len]; omega
    have hb : Go.Proofs.YtklkikndcieojaaDoorW.PrintWords.bt s (i : Int) = (bytesOf s)[i] := by rw [rd_bt, rd_get' hi]
    have hr := hd _ (List.getElem_mem hi)
    have hn := numV_take (bytesOf s) i hi
    rw [rd_get' hi] at hn
    have hlt := numV_dlt (l := (bytesOf s).take i) (fun c hc => hd c (List.mem_of_mem_take hc))
    rw [List.length_take, Nat.min_eq_left (by omega)] at hlt
    have hp := pow19 (n := i) (by omega)
    refine Ev.step IH (fun k => ?_)
    rw [tiltyardref08_Whole.l0, if_pos (by omega), if_pos (by omega), hb, if_neg (by omega), if_neg (by omega), hn]
    generalize numV 0 ((bytesOf s).take i) = V at hlt
    generalize (bytesOf s)[i] = b at hr
    have e2 : (b - 48) % 256 = b - 48 := by omega
    rw [e2, wraps_u64 (V * 10) (by omega) (by omega), wraps_u64 (V * 10 + (b - 48)) (by omega) (by omega), next64 (by omega)]
theorem whole_ev (s : ByteArray) (hdd : ∀ c ∈ s.data.toList, digC c = true) (h0 : 0 < s.size) : ∃ v, Ev (fun k => tiltyardref08_Whole.f k s) (v, wholeL s.data.toList) := by
  have hd := bytes_digs hdd
  have hc := drop_cons h0
  rw [List.drop_zero] at hc
  have hne : ¬ s.toList = ([] : List UInt8) := by rw [Lib.toList_data, hc]; exact fun g => by cases g
  have hbi : bI s.data.toList = bytesOf s := (bytesOf_bI s).symm
  have hlen : s.data.toList.length = s.size := (Lib.size_eq s).symm
  have hj : ∀ k, tiltyardref08_Whole.j0 (k + 1) s true = some (0, false) := fun k => by rw [tiltyardref08_Whole.j0, if_pos rfl]
  have hb0 : Go.Proofs.YtklkikndcieojaaDoorW.PrintWords.bt s 0 = ((s[0]).toNat : Int) := bt_at (i := 0) h0
  have e48 : (((s[0]).toNat : Int) = 48) ↔ s[0] = 48 := byte_eq (k := 48) (by decide)
  have hhead : s.data.toList.head? = some s[0] := by rw [hc]; rfl
  have hloop : s.size ≤ 19 → Ev (fun k => tiltyardref08_Whole.j0 k s false) (wrap64 (numV 0 (bytesOf s)), decide (numV 0 (bytesOf s) ≤ 9223372036854775807)) := fun hs =>
    Ev.step (whole_loop s hd hs s.size 0 (by omega)) (fun k => by rw [tiltyardref08_Whole.j0, if_neg (by decide)]; rfl)
  by_cases h19 : 19 < s.size
  · refine ⟨0, ?_⟩
    have hw : wholeL s.data.toList = false := by
      unfold wholeL
      rw [hhead, hlen, hbi]
      by_cases hz : s[0] = 48
      · rw [hz, decide_eq_true (show 1 < s.size by omega)]; simp
      · rw [decide_eq_false]; rfl
        have hl0 : 0 < (bytesOf s).length := by rw [bytes_len]; exact h0
        have hb : (bytesOf s)[0] = ((s[0]).toNat : Int) := by
          rw [← hb0]
          exact (show Go.Proofs.YtklkikndcieojaaDoorW.PrintWords.bt s ((0 : Nat) : Int) = _ by rw [rd_bt, rd_get' hl0]).symm
        have hlen2 := bytes_len s
        clear hbi hloop
        cases hbl : bytesOf s with
        | nil => rw [hbl] at hl0; simp at hl0
        | cons b l =>
          simp only [hbl, List.getElem_cons_zero] at hb
          rw [hbl] at hd hlen2
          rw [List.length_cons] at hlen2
          have hbr := hd b List.mem_cons_self
          have hne48 : b ≠ 48 := by rw [hb]; exact fun g => hz (e48.1 g)
          rw [numV_cons, show (0 : Int) * 10 + (b - 48) = b - 48 by omega]
          have hm := numV_mul l (b - 48) (fun c hc => hd c (List.mem_cons_of_mem _ hc)) (by omega)
          have hpw := Int.ofNat_le.2 (Nat.pow_le_pow_right (n := 10) (by decide) (show 19 ≤ l.length by omega))
          rw [Int.natCast_pow, Int.natCast_pow] at hpw
          have hpw2 : (10000000000000000000 : Int) ≤ 10 ^ l.length := hpw
          have h2 : (1 : Int) * 10 ^ l.length ≤ (b - 48) * 10 ^ l.length := Int.mul_le_mul_of_nonneg_right (by omega) (by omega)
          omega
    rw [hw]
    refine Ev.val (fun k => ?_)
    unfold tiltyardref08_Whole.f
    rw [if_neg hne, if_pos (by omega), hj]
  · by_cases h1 : 1 < s.size
    · by_cases hz : s[0] = 48
      · refine ⟨0, ?_⟩
        have hw : wholeL s.data.toList = false := by
          unfold wholeL
          rw [hhead, hlen, hz, decide_eq_true h1]; simp
        rw [hw]
        refine Ev.val (fun k => ?_)
        unfold tiltyardref08_Whole.f
        rw [if_neg hne, if_neg (by omega), if_pos (by omega), if_pos (by omega), hb0, show (((s[0]).toNat : Int) == 48) = true by rw [beq_iff_eq]; exact e48.2 hz, hj]
      · refine ⟨wrap64 (numV 0 (bytesOf s)), ?_⟩
        have hw : wholeL s.data.toList = decide (numV 0 (bytesOf s) ≤ 9223372036854775807) := by
          unfold wholeL
          rw [hhead, hbi, decide_eq_false (show ¬ (some s[0] = some (48 : UInt8)) from fun g => hz (Option.some.inj g))]; simp
        rw [hw]
        refine Ev.congr (hloop (by omega)) (fun k => ?_)
        unfold tiltyardref08_Whole.f
        rw [if_neg hne, if_neg (by omega), if_pos (by omega), if_pos (by omega), hb0, show (((s[0]).toNat : Int) == 48) = false by rw [beq_eq_false_iff_ne]; exact fun g => hz (e48.1 g)]
    · refine ⟨wrap64 (numV 0 (bytesOf s)), ?_⟩
      have hw : wholeL s.data.toList = decide (numV 0 (bytesOf s) ≤ 9223372036854775807) := by
        unfold wholeL
        rw [hlen, hbi, decide_eq_false h1]; simp
      rw [hw]
      refine Ev.congr (hloop (by omega)) (fun k => ?_)
      unfold tiltyardref08_Whole.f
      rw [if_neg hne, if_neg (by omega), if_neg (by omega)]
/-! the signs -/
def signsB : List ByteArray := [(⟨#[61, 61]⟩ : ByteArray), (⟨#[33, 61]⟩ : ByteArray), (⟨#[60, 61]⟩ : ByteArray), (⟨#[62, 61]⟩ : ByteArray), (⟨#[38, 38]⟩ : ByteArray), (⟨#[124, 124]⟩ : ByteArray), (⟨#[43]⟩ : ByteArray), (⟨#[45]⟩ : ByteArray), (⟨#[42]⟩ : ByteArray), (⟨#[47]⟩ : ByteArray), (⟨#[37]⟩ : ByteArray), (⟨#[60]⟩ : ByteArray), (⟨#[62]⟩ : ByteArray), (⟨#[33]⟩ : ByteArray), (⟨#[40]⟩ : ByteArray), (⟨#[41]⟩ : ByteArray), (⟨#[123]⟩ : ByteArray), (⟨#[125]⟩ : ByteArray), (⟨#[91]⟩ : ByteArray), (⟨#[93]⟩ : ByteArray), (⟨#[44]⟩ : ByteArray), (⟨#[59]⟩ : ByteArray), (⟨#[58]⟩ : ByteArray), (⟨#[61]⟩ : ByteArray)]
theorem signs_f : tiltyardref08_Signs.f = some signsB := rfl
def sgn (l : List UInt8) (g : ByteArray) : Bool := decide (l.take g.size = g.data.toList)
theorem sgn2 (c a b : UInt8) (r : List UInt8) : sgn (c :: r) ⟨#[a, b]⟩ = (decide (c = a) && decide (r.head? = some b)) := by
  unfold sgn
  cases r with
  | nil => simp [ByteArray.size]
  | cons d r => rw [Bool.eq_iff_iff]; simp [ByteArray.size]
theorem sgn1 (c a : UInt8) (r : List UInt8) : sgn (c :: r) ⟨#[a]⟩ = decide (c = a) := by
  unfold sgn
  rw [Bool.eq_iff_iff]; simp [ByteArray.size]
theorem sign_case (c : UInt8) (r : List UInt8) : signL c r = (match signsB.find? (sgn (c :: r)) with | some g => (g.size, 5) | none => (0, 0)) := by
  unfold signsB
  simp only [List.find?_cons, sgn2, sgn1, List.find?_nil]
  unfold signL
  by_cases h1 : c = 61
  · subst h1; by_cases h : r.head? = some 61 <;> simp [h] <;> rfl
  by_cases h2 : c = 33
  · subst h2; by_cases h : r.head? = some 61 <;> simp [h] <;> rfl
  by_cases h3 : c = 60
  · subst h3; by_cases h : r.head? = some 61 <;> simp [h] <;> rfl
  by_cases h4 : c = 62
  · subst h4; by_cases h : r.head? = some 61 <;> simp [h] <;> rfl
  by_cases h5 : c = 38
  · subst h5; by_cases h : r.head? = some 38 <;> simp [h] <;> rfl
  by_cases h6 : c = 124
  · subst h6; by_cases h : r.head? = some 124 <;> simp [h] <;> rfl
  by_cases g1 : c = 43
  · subst g1; simp; rfl
  by_cases g2 : c = 45
  · subst g2; simp; rfl
  by_cases g3 : c = 42
  · subst g3; simp; rfl
  by_cases g4 : c = 47
  · subst g4; simp; rfl
  by_cases g5 : c = 37
  · subst g5; simp; rfl
  by_cases g6 : c = 40
  · subst g6; simp; rfl
  by_cases g7 : c = 41
  · subst g7; simp; rfl
  by_cases g8 : c = 123
  · subst g8; simp; rfl
  by_cases g9 : c = 125
  · subst g9; simp; rfl
  by_cases f1 : c = 91
  · subst f1; simp; rfl
  by_cases f2 : c = 93
  · subst f2; simp; rfl
  by_cases f3 : c = 44
  · subst f3; simp; rfl
  by_cases f4 : c = 59
  · subst f4; simp; rfl
  by_cases f5 : c = 58
  · subst f5; simp; rfl
  simp [h1, h2, h3, h4, h5, h6, g1, g2, g3, g4, g5, g6, g7, g8, g9, f1, f2, f3, f4, f5]
theorem signs_loop (s : ByteArray) (hs : s.size ≤ 16384) (p : Nat) (hp : p ≤ s.size) (L : List ByteArray) (hL : L.length ≤ 1000) (hg : ∀ g ∈ L, g.size ≤ 1000) : ∀ (m i : Nat), i + m = L.length →
    Ev (fun k => tiltyardref08_piece.l0 k s (p : Int) L (i : Int)) (match (L.drop i).find? (sgn (s.data.toList.drop p)) with | some g => (5, g, (p : Int)) | none => (0, ⟨#[]⟩, 0))
  | 0, i, h => Ev.val (fun k => by
      have hd : L.drop i = [] := List.drop_of_length_le (by omega)
      rw [tiltyardref08_piece.l0, if_neg (by omega), hd]; rfl)
  | m + 1, i, h => by
    have IH := signs_loop s hs p hp L hL hg m (i + 1) (by omega)
    have hi : i < L.length := by omega
    have hr : (rdOf ByteArray.empty L (i : Int)) = L[i] := by
      unfold rdOf
      simp only [Int.toNat_natCast, List.getD_eq_getElem?_getD]
      rw [List.getElem?_eq_getElem hi]; rfl
    have hd : L.drop i = L[i] :: L.drop (i + 1) := List.drop_eq_getElem_cons hi
    have hgs := hg _ (List.getElem_mem hi)
    rw [hd, List.find?_cons]
    generalize L[i] = g at *
    have hun : ∀ k, tiltyardref08_piece.l0 (k + 1) s (p : Int) L (i : Int) = if sgn (s.data.toList.drop p) g = true then some (5, g, (p : Int)) else tiltyardref08_piece.l0 k s (p : Int) L ((i + 1 : Nat) : Int) := by
      intro k
      rw [tiltyardref08_piece.l0, if_pos (by omega), if_pos (by omega), hr, w64_small (x := (s.size : Int) - p) (by omega) (by omega), next64 (by omega)]
      have hw : wrap64 ((p : Int) + (g.size : Int)) = ((p + g.size : Nat) : Int) := sum64 (by omega)
      by_cases hle : (g.size : Int) ≤ (s.size : Int) - p
      · rw [if_pos hle, hw, if_pos (by omega), if_pos (by omega), if_pos (by omega)]
        have he : (s.extract (p : Int).toNat ((p + g.size : Nat) : Int).toNat).toList = (s.data.toList.drop p).take g.size := by
          show (s.extract p (p + g.size)).toList = _
          rw [Lib.toList_data, Lib.extract_data, Nat.add_sub_cancel_left]
        rw [he, Lib.toList_data]
        unfold sgn
        simp only [decide_eq_true_eq]
      · rw [if_neg hle, if_neg]
        unfold sgn
        rw [decide_eq_true_eq]
        intro he
        have := congrArg List.length he
        rw [List.length_take, List.length_drop, ← Lib.size_eq, ← Lib.size_eq] at this
        omega
    cases hq : sgn (s.data.toList.drop p) g with
    | true => exact Ev.val (fun k => by rw [hun, hq, if_pos rfl])
    | false => exact Ev.step IH (fun k => by rw [hun, hq, if_neg (by decide)])
/-- The piece at a place. -/
def pieceP (s : ByteArray) (p : Nat) : Int × ByteArray × Int :=
  if (pieceL (s.data.toList.drop p)).1 = 0 then (0, ⟨#[]⟩, 0) else ((pieceL (s.data.toList.drop p)).2, s.extract p (p + (pieceL (s.data.toList.drop p)).1), p)
theorem pieceP_eq {s : ByteArray} {p n k : Nat} (h : pieceL (s.data.toList.drop p) = (n, k)) : pieceP s p = if n = 0 then (0, ⟨#[]⟩, 0) else ((k : Int), s.extract p (p + n), (p : Int)) := by
  unfold pieceP; rw [h]
theorem piece_end (s : ByteArray) (hs : s.size ≤ 16384) (p : Nat) (n : Nat) (hn : n = lenW digC (s.data.toList.drop p)) (h1 : 1 ≤ n) (hle : p + n ≤ s.size) (f : Nat) (hf : f = fracN (s.data.toList.drop p) n)
    (hp : pieceL (s.data.toList.drop p) = numL (s.data.toList.drop p)) : Ev (fun k => tiltyardref08_piece.j1 k s (p : Int) (n : Int) 3 (f : Int)) (pieceP s p) := by
  have hex : (s.extract p (p + n)).data.toList = (s.data.toList.drop p).take n := by rw [Lib.extract_data, Nat.add_sub_cancel_left]
  obtain ⟨v, hw⟩ := whole_ev (s.extract p (p + n)) (by rw [hex, hn]; exact lenW_take digC _) (by rw [ByteArray.size_extract]; omega)
  rw [hex] at hw
  have hw1 : wrap64 ((p : Int) + (n : Int)) = ((p + n : Nat) : Int) := sum64 (by omega)
  have hfl : 0 < f → p + (n + 1 + f) ≤ s.size := by
    intro h0
    have := frac_le (s.data.toList.drop p) n (by rw [← hf]; exact h0)
    rw [← hf, List.length_drop, ← Lib.size_eq] at this
    omega
  have hfb : f ≤ 16384 := by
    have := lenW_le digC ((s.data.toList.drop p).drop (n + 1))
    rw [List.length_drop, List.length_drop, ← Lib.size_eq] at this
    rw [hf]; unfold fracN
    split <;> omega
  have hw2 : wrap64 ((p : Int) + (wrap64 ((wrap64 ((n : Int) + 1)) + (f : Int)))) = ((p + (n + 1 + f) : Nat) : Int) := by
    rw [next64 (by omega), sum64 (by omega), sum64 (by omega)]
  by_cases h0 : 0 < f
  · have hl := hfl h0
    have hex2 : s.extract p (p + (n + 1 + f)) = ⟨((s.data.toList.drop p).take (n + 1 + f)).toArray⟩ := by
      apply ByteArray.ext; apply Array.ext'
      rw [Lib.extract_data, Nat.add_sub_cancel_left]
    have hpz : (s.extract p (p + (n + 1 + f))).size ≤ 140737488355328 := by rw [ByteArray.size_extract]; omega
    have hps : Ev (fun k => tiltyardref03_Parse.f k (s.extract p (p + (n + 1 + f)))) (parseV (s.extract p (p + (n + 1 + f)))) := Ev.mono (fun k => tiltyardref03_Parse.mono _ k) (refParse _ hpz)
    have hbig : Ev (fun k => (tiltyardref08_Whole.f k (s.extract p (p + n))).bind fun bt196 => ((tiltyardref03_Parse.f k (s.extract p (p + (n + 1 + f)))).bind fun bt198 => (if bt198.2 = 0 then (some ((4 : Int), s.extract p (p + (n + 1 + f)), (p : Int))) else (some (0, (⟨#[]⟩ : ByteArray), 0))))) (pieceP s p) := by
      refine Ev.bind hw (Ev.bind hps ?_)
      have hnum : numL (s.data.toList.drop p) = if goodS (s.extract p (p + (n + 1 + f))) then (n + 1 + f, 4) else (0, 0) := by
        unfold numL
        rw [← hn, ← hf, if_pos h0, hex2]
      rw [← hp] at hnum
      by_cases hg : goodS (s.extract p (p + (n + 1 + f))) = true
      · rw [if_pos hg] at hnum
        rw [parseV_good hg, pieceP_eq hnum, if_neg (show ¬ (n + 1 + f = 0) by omega)]
        exact Ev.const _
      · have hg' : goodS (s.extract p (p + (n + 1 + f))) = false := by simpa using hg
        rw [hg'] at hnum
        rw [parseV_bad hg', pieceP_eq hnum]
        exact Ev.const _
    refine Ev.step hbig (fun k => ?_)
    rw [tiltyardref08_piece.j1, hw1, hw2, if_pos (by omega), if_pos (by omega), if_pos (by omega)]
    show (tiltyardref08_Whole.f k (s.extract p (p + n))).bind _ = _
    congr 1
    funext bt
    rw [if_pos (by omega), if_pos (by omega), if_pos (by omega)]
    rfl
  · have hf0 : f = 0 := by omega
    subst hf0
    have hbig : Ev (fun k => (tiltyardref08_Whole.f k (s.extract p (p + n))).bind fun bt196 => (if bt196.2 = true then (some ((3 : Int), s.extract p (p + n), (p : Int))) else (some (0, (⟨#[]⟩ : ByteArray), 0)))) (pieceP s p) := by
      refine Ev.bind hw ?_
      have hnum : numL (s.data.toList.drop p) = if wholeL ((s.data.toList.drop p).take n) then (n, 3) else (0, 0) := by
        unfold numL
        rw [← hn, ← hf, if_neg (by omega)]
      rw [← hp] at hnum
      by_cases hg : wholeL ((s.data.toList.drop p).take n) = true
      · rw [if_pos hg] at hnum
        rw [hg, pieceP_eq hnum, if_neg (show ¬ (n = 0) by omega)]
        exact Ev.const _
      · have hg' : wholeL ((s.data.toList.drop p).take n) = false := by simpa using hg
        rw [hg'] at hnum
        rw [hg', pieceP_eq hnum]
        exact Ev.const _
    refine Ev.step hbig (fun k => ?_)
    rw [tiltyardref08_piece.j1, hw1, if_pos (by omega), if_pos (by omega), if_pos (by omega)]
    show (tiltyardref08_Whole.f k (s.extract p (p + n))).bind _ = _
    congr 1
theorem piece_ev (s : ByteArray) (hs : s.size ≤ 16384) (p : Nat) (hlt : p < s.size) : Ev (fun k => tiltyardref08_piece.f k s (p : Int)) (pieceP s p) := by
  have hd := drop_cons hlt
  have hlet := letters_ev s (by omega) p (s.size - p) 0 (by omega)
  rw [if_pos rfl] at hlet
  have hdig := digits_ev s (by omega) p (s.size - p) 0 (by omega)
  rw [Nat.zero_add, Nat.add_zero] at hdig
  obtain ⟨c, hc⟩ : ∃ c, c = s[p] := ⟨_, rfl⟩
  obtain ⟨r, hr⟩ : ∃ r, r = s.data.toList.drop (p + 1) := ⟨_, rfl⟩
  rw [← hc, ← hr] at hd
  unfold tiltyardref08_piece.f
  refine Ev.bind (f := fun k => tiltyardref08_letters.f k s (p : Int)) hlet ?_
  have hll : (s.data.toList.drop p).length = s.size - p := by rw [List.length_drop, ← Lib.size_eq]
  cases hl : letC c with
  | true =>
    have hN : letN (s.data.toList.drop p) = lenW nameC (s.data.toList.drop p) := by
      rw [hd]; show (if letC c = true then _ else _) = _; rw [if_pos hl]
    have hle := lenW_le nameC (s.data.toList.drop p)
    rw [hN]
    have hpos : 0 < lenW nameC (s.data.toList.drop p) := by rw [hd]; exact lenW_pos (by unfold nameC; rw [hl]; rfl)
    have hpl : pieceL (s.data.toList.drop p) = nameL (s.data.toList.drop p) := by rw [hd, pieceL_cons, if_pos hl]
    generalize hn : lenW nameC (s.data.toList.drop p) = n at *
    have hw1 : wrap64 ((p : Int) + (n : Int)) = ((p + n : Nat) : Int) := sum64 (by omega)
    have hword := word_ev (s.extract p (p + n))
    rw [show (s.extract p (p + n)).data.toList = (s.data.toList.drop p).take n by rw [Lib.extract_data, Nat.add_sub_cancel_left]] at hword
    have hbig : Ev (fun k => (tiltyardref08_Word.f k (s.extract p (p + n))).bind fun t193 => (if (n : Int) > 24 then (some (0, (⟨#[]⟩ : ByteArray), 0)) else (if t193 = true then (some ((2 : Int), s.extract p (p + n), (p : Int))) else (some (1, s.extract p (p + n), (p : Int)))))) (pieceP s p) := by
      refine Ev.bind hword ?_
      unfold nameL at hpl
      rw [hn] at hpl
      by_cases h24 : n > 24
      · rw [if_pos h24] at hpl
        rw [pieceP_eq hpl]
        refine Ev.congr (Ev.const _) (fun k => ?_)
        rw [if_pos (show (n : Int) > 24 by omega)]; rfl
      · rw [if_neg h24] at hpl
        rw [pieceP_eq hpl, if_neg (show ¬ n = 0 by omega)]
        refine Ev.congr (Ev.const _) (fun k => ?_)
        rw [if_neg (show ¬ (n : Int) > 24 by omega)]
        cases wordL ((s.data.toList.drop p).take n) <;> rfl
    refine Ev.congr hbig (fun k => ?_)
    rw [if_pos (by omega), hw1, if_pos (by omega), if_pos (by omega), if_pos (by omega)]
    rfl
  | false =>
    have hN : letN (s.data.toList.drop p) = 0 := by
      rw [hd]; show (if letC c = true then _ else _) = _; rw [hl]; rfl
    rw [hN]
    have hbig : Ev (fun k => (tiltyardref08_digits.f k s (p : Int)).bind fun t194 => (if t194 > 0 then (if (wrap64 ((p : Int) + t194)) < (s.size : Int) then (if 0 ≤ (wrap64 ((p : Int) + t194)) then (tiltyardref08_piece.j0 k s (p : Int) t194 3 0 ((Go.Proofs.YtklkikndcieojaaDoorW.PrintWords.bt s (wrap64 ((p : Int) + t194))) == 46)) else (none)) else (tiltyardref08_piece.j0 k s (p : Int) t194 3 0 false)) else ((tiltyardref08_Signs.f).bind fun t200 => (tiltyardref08_piece.l0 k s (p : Int) t200 0)))) (pieceP s p) := by
      refine Ev.bind (f := fun k => tiltyardref08_digits.f k s (p : Int)) hdig ?_
      cases hg : digC c with
      | true =>
        have hpl : pieceL (s.data.toList.drop p) = numL (s.data.toList.drop p) := by rw [hd, pieceL_cons, hl, if_neg (by decide), if_pos hg]
        have hle := lenW_le digC (s.data.toList.drop p)
        have hpos : 0 < lenW digC (s.data.toList.drop p) := by rw [hd]; exact lenW_pos hg
        obtain ⟨n, hn⟩ : ∃ n, n = lenW digC (s.data.toList.drop p) := ⟨_, rfl⟩
        rw [← hn] at hle hpos ⊢
        have hw1 : wrap64 ((p : Int) + (n : Int)) = ((p + n : Nat) : Int) := sum64 (by omega)
        have hend := piece_end s hs p n hn (by omega) (by omega) _ rfl hpl
        have hj0 : Ev (fun k => tiltyardref08_piece.j0 k s (p : Int) (n : Int) 3 0 (decide ((s.data.toList.drop p)[n]? = some 46))) (pieceP s p) := by
          unfold fracN at hend
          by_cases h46 : (s.data.toList.drop p)[n]? = some 46
          · rw [if_pos h46] at hend
            have hn1 : p + n + 1 ≤ s.size := by
              have := (List.getElem?_eq_some_iff.1 h46).1; omega
            have hdg := digits_ev s (by omega) (p + n + 1) (s.size - (p + n + 1)) 0 (by omega)
            rw [Nat.zero_add, Nat.add_zero, show s.data.toList.drop (p + n + 1) = (s.data.toList.drop p).drop (n + 1) by rw [List.drop_drop, Nat.add_assoc]] at hdg
            refine Ev.step (Ev.bind (f := fun k => tiltyardref08_digits.f k s ((p + n + 1 : Nat) : Int)) hdg hend) (fun k => ?_)
            rw [tiltyardref08_piece.j0, decide_eq_true h46, if_pos rfl, hw1, next64 (by omega)]
          · rw [if_neg h46] at hend
            refine Ev.step hend (fun k => ?_)
            rw [tiltyardref08_piece.j0, decide_eq_false h46, if_neg (by decide)]
            rfl
        refine Ev.congr hj0 (fun k => ?_)
        rw [if_pos (by omega), hw1]
        by_cases hb : p + n < s.size
        · rw [if_pos (by omega), if_pos (by omega), bt_at hb]
          have e46 : (((s[p + n]).toNat : Int) = 46) ↔ s[p + n] = 46 := byte_eq (k := 46) (by decide)
          have hel : (s.data.toList.drop p)[n]? = some s[p + n] := by
            rw [List.getElem?_drop, List.getElem?_eq_getElem (by rw [← Lib.size_eq]; exact hb)]; rfl
          rw [hel]
          have : (((s[p + n]).toNat : Int) == 46) = decide (some s[p + n] = some (46 : UInt8)) := by
            rw [Bool.eq_iff_iff, beq_iff_eq, decide_eq_true_eq, e46, Option.some.injEq]
          rw [this]
        · rw [if_neg (by omega), decide_eq_false]
          rw [List.getElem?_eq_none (by omega)]
          exact fun g => by cases g
      | false =>
        have hz : lenW digC (s.data.toList.drop p) = 0 := by rw [hd, lenW, if_neg (by rw [hg]; decide)]
        have hpl : pieceL (s.data.toList.drop p) = signL c r := by rw [hd, pieceL_cons, hl, if_neg (by decide), hg, if_neg (by decide)]
        have hlp := signs_loop s hs p (by omega) signsB (by decide) (by decide) 24 0 (by decide)
        rw [List.drop_zero] at hlp
        have hsc := sign_case c r
        rw [← hd, ← hpl] at hsc
        have hfin : (match signsB.find? (sgn (s.data.toList.drop p)) with | some g => ((5 : Int), g, (p : Int)) | none => (0, ⟨#[]⟩, 0)) = pieceP s p := by
          cases hq : signsB.find? (sgn (s.data.toList.drop p)) with
          | none => rw [hq] at hsc; rw [pieceP_eq hsc]; rfl
          | some g =>
            rw [hq] at hsc
            have h1 := List.find?_some hq
            have hmem := List.mem_of_find?_eq_some hq
            have hgs : 0 < g.size := (show ∀ g ∈ signsB, 0 < g.size by decide) g hmem
            unfold sgn at h1
            rw [decide_eq_true_eq] at h1
            rw [pieceP_eq hsc, if_neg (by omega)]
            have : g = s.extract p (p + g.size) := by
              apply ByteArray.ext; apply Array.ext'
              rw [Lib.extract_data, Nat.add_sub_cancel_left, h1]
            rw [← this]; rfl
        rw [hfin] at hlp
        rw [hz]
        refine Ev.congr hlp (fun k => ?_)
        rw [if_neg (by decide), signs_f]
        rfl
    refine Ev.congr hbig (fun k => ?_)
    rw [if_neg (by decide)]
theorem pieceP_kind {s : ByteArray} {p : Nat} (hlt : p < s.size) (h : (pieceL (s.data.toList.drop p)).1 ≠ 0) : ((pieceL (s.data.toList.drop p)).2 : Int) ≠ 0 := by
  rw [drop_cons hlt] at h ⊢
  obtain ⟨m, hm⟩ : ∃ m, (pieceL (s[p] :: s.data.toList.drop (p + 1))).1 = m + 1 := ⟨(pieceL (s[p] :: s.data.toList.drop (p + 1))).1 - 1, by omega⟩
  have hp : pieceL (s[p] :: s.data.toList.drop (p + 1)) = (m + 1, (pieceL (s[p] :: s.data.toList.drop (p + 1))).2) := by rw [← hm]
  rcases pieceL_kind hp with ⟨g1, g2, g3, g4⟩ | ⟨g1, g2, g3⟩
  · rw [g2]; split <;> decide
  · omega
theorem tokens_loop (s : ByteArray) (hs : s.size ≤ 16384) : ∀ (m q : Nat) (acc : List S31), s.size - q ≤ m → q ≤ s.size → acc.length ≤ q → (∀ h : q < s.size, s[q] ≠ 35 ∧ blankC s[q] = false) →
    toks s.data.toList 0 = (acc ++ (toks (s.data.toList.drop q) q).1, (toks (s.data.toList.drop q) q).2) → Ev (fun k => tiltyardref08_Tokens.l0 k s acc (q : Int)) (answer (toks s.data.toList 0)) := by
  intro m
  induction m with
  | zero =>
    intro q acc hm hq ha hst heq
    obtain rfl : q = s.size := by omega
    rw [List.drop_of_length_le (by rw [← Lib.size_eq]; exact Nat.le_refl _), toks_nil] at heq
    rw [heq]
    exact Ev.val (fun k => by rw [tiltyardref08_Tokens.l0, if_neg (by omega), if_pos (by omega)]; rfl)
  | succ m ih =>
    intro q acc hm hq ha hst heq
    by_cases hlt : q < s.size
    · have hpe := piece_ev s hs q hlt
      obtain ⟨g35, gb⟩ := hst hlt
      by_cases h0 : (pieceL (s.data.toList.drop q)).1 = 0
      · have hP : pieceP s q = (0, ⟨#[]⟩, 0) := by unfold pieceP; rw [if_pos h0]
        rw [hP] at hpe
        have ht : toks (s.data.toList.drop q) q = ([], some q) := by
          rw [drop_cons hlt] at h0 ⊢
          exact toks_none g35 gb _ _ h0
        rw [ht] at heq
        rw [heq]
        refine Ev.step (g := fun k => (tiltyardref08_piece.f k s (q : Int)).bind fun bt212 => (if bt212.1 = 0 then (some (([] : List (S31)), 80, (q : Int))) else (if acc.length < 4398046511104 then ((tiltyardref08_blanks.f k s (wrap64 ((q : Int) + (bt212.2.1.size : Int)))).bind fun t219 => (tiltyardref08_Tokens.l0 k s (acc ++ [(⟨bt212.1, bt212.2.1, bt212.2.2⟩ : S31)]) t219)) else (none)))) (Ev.bind hpe (Ev.congr (Ev.const _) (fun k => ?_))) (fun k => ?_)
        · show (if (0 : Int) = 0 then _ else _) = _
          rw [if_pos rfl]; rfl
        · rw [tiltyardref08_Tokens.l0, if_pos (by omega)]
      · have hP : pieceP s q = (((pieceL (s.data.toList.drop q)).2 : Int), s.extract q (q + (pieceL (s.data.toList.drop q)).1), (q : Int)) := by unfold pieceP; rw [if_neg h0]
        have hk := pieceP_kind hlt h0
        have hle := pieceL_le (s.data.toList.drop q)
        rw [List.length_drop, ← Lib.size_eq] at hle
        have ht : toks (s.data.toList.drop q) q = (⟨(pieceL (s.data.toList.drop q)).2, ⟨((s.data.toList.drop q).take (pieceL (s.data.toList.drop q)).1).toArray⟩, q⟩ :: (toks ((s.data.toList.drop q).drop (pieceL (s.data.toList.drop q)).1) (q + (pieceL (s.data.toList.drop q)).1)).1, (toks ((s.data.toList.drop q).drop (pieceL (s.data.toList.drop q)).1) (q + (pieceL (s.data.toList.drop q)).1)).2) := by
          rw [drop_cons hlt] at h0 ⊢
          exact toks_piece g35 gb _ _ h0
        rw [hP] at hpe
        generalize (pieceL (s.data.toList.drop q)).1 = n at *
        generalize ((pieceL (s.data.toList.drop q)).2 : Int) = kk at *
        rw [List.drop_drop] at ht
        obtain ⟨⟨q2, b1, b2, b3⟩, _⟩ := blanks_ev s hs (s.size - (q + n)) (q + n) (by omega)
        have hex : s.extract q (q + n) = ⟨((s.data.toList.drop q).take n).toArray⟩ := by
          apply ByteArray.ext; apply Array.ext'
          rw [Lib.extract_data, Nat.add_sub_cancel_left]
        have hsz : (s.extract q (q + n)).size = n := by rw [ByteArray.size_extract]; omega
        have hgo := ih q2 (acc ++ [⟨kk, s.extract q (q + n), q⟩]) (by have := b1.1; omega) b1.2.1 (by have := b1.1; rw [List.length_append, List.length_singleton]; omega) b1.2.2 (by
          rw [heq, ht, ← hex]
          simp only
          rw [b2, List.append_assoc]; rfl)
        have hbig : Ev (fun k => (tiltyardref08_blanks.f k s ((q + n : Nat) : Int)).bind fun t219 => (tiltyardref08_Tokens.l0 k s (acc ++ [(⟨kk, s.extract q (q + n), (q : Int)⟩ : S31)]) t219)) (answer (toks s.data.toList 0)) := Ev.bind (f := fun k => tiltyardref08_blanks.f k s ((q + n : Nat) : Int)) b3 hgo
        refine Ev.step (g := fun k => (tiltyardref08_piece.f k s (q : Int)).bind fun bt212 => (if bt212.1 = 0 then (some (([] : List (S31)), 80, (q : Int))) else (if acc.length < 4398046511104 then ((tiltyardref08_blanks.f k s (wrap64 ((q : Int) + (bt212.2.1.size : Int)))).bind fun t219 => (tiltyardref08_Tokens.l0 k s (acc ++ [(⟨bt212.1, bt212.2.1, bt212.2.2⟩ : S31)]) t219)) else (none)))) (Ev.bind hpe ?_) (fun k => ?_)
        · refine Ev.congr hbig (fun k => ?_)
          show (if kk = 0 then _ else _) = _
          rw [if_neg hk, if_pos (by omega)]
          show (tiltyardref08_blanks.f k s (wrap64 ((q : Int) + ((s.extract q (q + n)).size : Int)))).bind _ = _
          rw [hsz, sum64 (by omega)]
        · rw [tiltyardref08_Tokens.l0, if_pos (by omega)]
    · obtain rfl : q = s.size := by omega
      rw [List.drop_of_length_le (by rw [← Lib.size_eq]; exact Nat.le_refl _), toks_nil] at heq
      rw [heq]
      exact Ev.val (fun k => by rw [tiltyardref08_Tokens.l0, if_neg (by omega), if_pos (by omega)]; rfl)
theorem tokens_ev (s : ByteArray) : Ev (fun k => tiltyardref08_Tokens.f k s) (tokensF s) := by
  unfold tokensF tiltyardref08_Tokens.f
  by_cases hb : 16384 < s.size
  · rw [if_pos hb]
    exact Ev.congr (Ev.const _) (fun k => by rw [if_pos (by omega)])
  · rw [if_neg hb]
    obtain ⟨⟨q, b1, b2, b3⟩, _⟩ := blanks_ev s (by omega) s.size 0 (by omega)
    rw [List.drop_zero] at b2
    have hgo := tokens_loop s (by omega) s.size q [] (by omega) b1.2.1 (by simp) b1.2.2 (by rw [b2]; rfl)
    have hbig : Ev (fun k => (tiltyardref08_blanks.f k s 0).bind fun t208 => (tiltyardref08_Tokens.l0 k s ([] : List (S31)) t208)) (answer (toks s.data.toList 0)) := Ev.bind (f := fun k => tiltyardref08_blanks.f k s 0) b3 hgo
    exact Ev.congr hbig (fun k => by rw [if_neg (by omega)])
theorem name_ev (s : ByteArray) (hs : s.size ≤ 140737488351232) : Ev (fun k => tiltyardref08_Name.f k s) (nameF s) := by
  have hlet := letters_ev s hs 0 s.size 0 (by omega)
  rw [if_pos rfl, List.drop_zero] at hlet
  unfold tiltyardref08_Name.f
  refine Ev.bind (f := fun k => tiltyardref08_Word.f k s) (word_ev s) (Ev.bind (f := fun k => tiltyardref08_letters.f k s 0) hlet ?_)
  refine Ev.congr (Ev.const _) (fun k => ?_)
  rcases Nat.eq_zero_or_pos s.size with h | h
  · have hd : s.data.toList = [] := by
      rw [← List.length_eq_zero_iff, ← Lib.size_eq]; exact h
    rw [nameF_nil h, hd, h]
    rfl
  · have hd := drop_cons h
    rw [List.drop_zero] at hd
    rw [nameF_cons h]
    have hN : letN s.data.toList = if letC s[0] then lenW nameC s.data.toList else 0 := by
      rw [hd]; rfl
    rw [hN]
    cases wordL s.data.toList with
    | true => simp
    | false =>
      cases letC s[0] with
      | false =>
        simp
      | true =>
        simp
        by_cases h1 : lenW nameC s.data.toList = s.size
        · rw [if_pos (by omega), h1, if_pos (by omega), decide_eq_true rfl]
          simp
          omega
        · rw [if_neg (by omega), decide_eq_false h1]
          simp
theorem same_loop (L : List S31) (hl : L.length ≤ 20000) : ∀ (m i : Nat), i + m = L.length → Ev (fun k => tiltyardref08_Same.l0 k L L (i : Int)) true
  | 0, i, h => Ev.val (fun k => by rw [tiltyardref08_Same.l0, if_neg (by omega)])
  | m + 1, i, h => Ev.step (same_loop L hl m (i + 1) (by omega)) (fun k => by
      rw [tiltyardref08_Same.l0, if_pos (by omega), if_pos (by omega), if_pos (by omega), if_neg (by simp), next64 (by omega)])
theorem same_ev (L : List S31) (hl : L.length ≤ 20000) : Ev (fun k => tiltyardref08_Same.f k L L) true := by
  refine Ev.congr (same_loop L hl L.length 0 (by omega)) (fun k => ?_)
  unfold tiltyardref08_Same.f
  rw [if_pos rfl]; rfl
theorem tokensF_len (s : ByteArray) : (tokensF s).1.length ≤ 16385 := by
  unfold tokensF
  split
  · simp
  · have n1 := toks_len _ s.data.toList 0 (Nat.le_refl _)
    rw [← Lib.size_eq] at n1
    cases hq : toks s.data.toList 0 with
    | mk l o =>
      rw [hq] at n1
      cases o with
      | none => show l.length ≤ _; simp only at n1; omega
      | some q => simp [answer]
theorem cuts_loop (x1 : ByteArray) (hx : x1.size ≤ 140737488351232) (L : List S31) (hl : L.length ≤ 16385) (c p : Int) : ∀ (m i : Nat) (x6 : List S31), i + m = x6.length → x6.length ≤ 20000 →
    Ev (fun k => tiltyardlaw08_TokenCuts.l0 k x1 true x6 L L true (i : Int) c p c p) true
  | 0, i, x6, h, h6 => by
    have hN : token_Name.f x1 = some (nameF x1) := by unfold token_Name.f; rw [if_pos (by omega)]
    have h2 : Ev (fun k => (tiltyardref08_Name.f k x1).bind fun t252 => some (nameF x1 == t252)) true := Ev.bind (name_ev x1 hx) (Ev.congr (Ev.const true) (fun k => by simp))
    have h1 : Ev (fun k => (tiltyardref08_Word.f k x1).bind fun t250 => (if (wordL x1.data.toList == t250) = true then ((tiltyardref08_Name.f k x1).bind fun t252 => (some (nameF x1 == t252))) else (some false))) true := Ev.bind (word_ev x1) (Ev.congr h2 (fun k => by simp))
    have hbig : Ev (fun k => (tiltyardref08_Same.f k L L).bind fun t248 => (if t248 = true then ((tiltyardref08_Word.f k x1).bind fun t250 => (if (wordL x1.data.toList == t250) = true then ((tiltyardref08_Name.f k x1).bind fun t252 => (some (nameF x1 == t252))) else (some false))) else (some false))) true :=
      Ev.bind (same_ev L (by omega)) (Ev.congr h1 (fun k => by rw [if_pos rfl]))
    refine Ev.step hbig (fun k => ?_)
    rw [tiltyardlaw08_TokenCuts.l0, if_neg (by omega)]
    simp only [word_f, Lib.toList_data, hN, Option.bind_some, if_true, beq_self_eq_true, Bool.and_self]
  | m + 1, i, x6, h, h6 => by
    refine Ev.step (cuts_loop x1 hx L hl c p m (i + 1) (x6.set i ⟨0, ⟨#[115, 112, 111, 105, 108, 116]⟩, 0⟩) (by rw [List.length_set]; omega) (by rw [List.length_set]; omega)) (fun k => ?_)
    rw [tiltyardlaw08_TokenCuts.l0, if_pos (by omega), if_pos (by omega), next64 (by omega)]
    rfl
theorem TokenCuts_pure : tiltyardlaw08_TokenCuts.Pure := by
  intro a0 a1 hs0 hs1
  have hl := tokensF_len a0
  have hbig : Ev (fun k => tiltyardlaw08_TokenCuts.f k a0 a1) true := by
    unfold tiltyardlaw08_TokenCuts.f
    rw [awake_true, token_Tokens.f]
    simp only [Option.bind_some]
    refine Ev.bind (f := fun k => tiltyardref08_Tokens.f k a0) (tokens_ev a0) ?_
    refine Ev.bind (f := fun k => tiltyardref08_Same.f k (tokensF a0).1 (tokensF a0).1) (same_ev _ (by omega)) ?_
    refine Ev.congr (cuts_loop a1 hs1 (tokensF a0).1 hl (tokensF a0).2.1 (tokensF a0).2.2 ((tokensF a0).1 ++ [(⟨0, (⟨#[109, 111, 114, 101]⟩ : ByteArray), 0⟩ : S31)]).length 0 ((tokensF a0).1 ++ [(⟨0, (⟨#[109, 111, 114, 101]⟩ : ByteArray), 0⟩ : S31)]) (by omega) (by rw [List.length_append, List.length_singleton]; omega)) (fun k => ?_)
    rw [if_pos (by omega)]
    rfl
  obtain ⟨k, h⟩ := hbig
  exact ⟨k, h k (Nat.le_refl _)⟩
theorem TokenCuts_calls (s t : ByteArray) (w : World) (hW : FixW w) (hs : s.size ≤ 140737488351232) (ht : t.size ≤ 140737488351232) : Calls Tryd.prog 3 #[.string s, .string t] w fun e w' => e = .returned (.bool true) ∧ Below w.heap.size w w' := by
  obtain ⟨k, h⟩ := TokenCuts_pure s t hs ht
  exact PTk.tiltyardlaw08_TokenCuts.calls k s t true w hW h
end Go.Proofs.YtklkikndcieojaaDoor
