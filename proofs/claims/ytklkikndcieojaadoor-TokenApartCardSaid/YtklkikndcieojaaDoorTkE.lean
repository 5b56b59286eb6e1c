/- Which tokens a source has: plain. -/
import Derived.Test.YtklkikndcieojaaDoorTkD
namespace Go.Proofs.YtklkikndcieojaaDoor
open Go.RowKit Go.Proofs.YtklkikndcieojaaDoorW.PrintWords Go.Proofs.YtklkikndcieojaaDoorW.PrintLast Go.Proofs.YtklkikndcieojaaDoorW.PrintMore
set_option linter.unusedVariables false
set_option linter.unusedSimpArgs false
open PTk
def blankC (c : UInt8) : Bool := decide (c = 9) || decide (c = 10) || decide (c = 13) || decide (c = 32)
theorem note_pos (r : List UInt8) : 1 ≤ lenW noteC (35 :: r) := by
  rw [lenW, if_pos (by decide)]; omega
/-- The tokens from a place on; or where none is. -/
def toks (l : List UInt8) (at_ : Nat) : List S31 × Option Nat :=
  match l with
  | [] => ([⟨6, ⟨#[]⟩, at_⟩], none)
  | c :: r =>
    if h1 : c = 35 then toks ((c :: r).drop (lenW noteC (c :: r))) (at_ + lenW noteC (c :: r))
    else if blankC c then toks r (at_ + 1)
    else if h2 : (pieceL (c :: r)).1 = 0 then ([], some at_)
    else
      let t := toks ((c :: r).drop (pieceL (c :: r)).1) (at_ + (pieceL (c :: r)).1)
      (⟨(pieceL (c :: r)).2, ⟨((c :: r).take (pieceL (c :: r)).1).toArray⟩, at_⟩ :: t.1, t.2)
termination_by l.length
decreasing_by
  · rw [List.length_drop]; have := note_pos r; rw [h1]; simp only [List.length_cons]; omega
  · simp
  · rw [List.length_drop]; simp only [List.length_cons]; omega
theorem toks_nil (at_ : Nat) : toks [] at_ = ([⟨6, ⟨#[]⟩, at_⟩], none) := by rw [toks]
theorem toks_note (r : List UInt8) (at_ : Nat) : toks (35 :: r) at_ = toks ((35 :: r).drop (lenW noteC (35 :: r))) (at_ + lenW noteC (35 :: r)) := by
  rw [toks, dif_pos rfl]
theorem toks_blank {c : UInt8} (h1 : c ≠ 35) (h : blankC c = true) (r : List UInt8) (at_ : Nat) : toks (c :: r) at_ = toks r (at_ + 1) := by
  rw [toks, dif_neg h1, if_pos h]
theorem toks_none {c : UInt8} (h1 : c ≠ 35) (h : blankC c = false) (r : List UInt8) (at_ : Nat) (h2 : (pieceL (c :: r)).1 = 0) : toks (c :: r) at_ = ([], some at_) := by
  rw [toks, dif_neg h1, h]; simp [h2]
theorem toks_piece {c : UInt8} (h1 : c ≠ 35) (h : blankC c = false) (r : List UInt8) (at_ : Nat) (h2 : (pieceL (c :: r)).1 ≠ 0) : toks (c :: r) at_ =
    (⟨(pieceL (c :: r)).2, ⟨((c :: r).take (pieceL (c :: r)).1).toArray⟩, at_⟩ :: (toks ((c :: r).drop (pieceL (c :: r)).1) (at_ + (pieceL (c :: r)).1)).1, (toks ((c :: r).drop (pieceL (c :: r)).1) (at_ + (pieceL (c :: r)).1)).2) := by
  rw [toks, dif_neg h1, h]; simp [h2]
/-- What is answered. -/
def answer : List S31 × Option Nat → List S31 × Int × Int
  | (l, none) => (l, 0, 0)
  | (_, some p) => ([], 80, p)
def tokensF (s : ByteArray) : List S31 × Int × Int := if 16384 < s.size then ([], 2, -1) else answer (toks s.data.toList 0)
/-- So far. -/
structure TkR (s : ByteArray) (p : Nat) (acc : List S31) : Prop where
  le : p ≤ s.size
  len : acc.length ≤ p
  eq : toks s.data.toList 0 = (acc ++ (toks (s.data.toList.drop p) p).1, (toks (s.data.toList.drop p) p).2)
theorem TkR.start (s : ByteArray) : TkR s 0 [] := ⟨Nat.zero_le _, Nat.le_refl _, by simp⟩
theorem drop_cons {s : ByteArray} {p : Nat} (h : p < s.size) : s.data.toList.drop p = s[p] :: s.data.toList.drop (p + 1) := by
  have hl : p < s.data.toList.length := by rw [← Lib.size_eq]; exact h
  rw [List.drop_eq_getElem_cons hl]; rfl
theorem TkR.done {s : ByteArray} {acc : List S31} (h : TkR s s.size acc) : toks s.data.toList 0 = (acc ++ [⟨6, ⟨#[]⟩, s.size⟩], none) := by
  rw [h.eq, List.drop_of_length_le (by rw [← Lib.size_eq]; exact Nat.le_refl _), toks_nil]
theorem TkR.note {s : ByteArray} {p : Nat} {acc : List S31} (h : TkR s p acc) (hp : p < s.size) (hc : s[p] = 35) : TkR s (p + lenW noteC (s.data.toList.drop p)) acc ∧ 1 ≤ lenW noteC (s.data.toList.drop p) := by
  have h1 := lenW_le noteC (s.data.toList.drop p)
  rw [List.length_drop, ← Lib.size_eq] at h1
  have h2 : 1 ≤ lenW noteC (s.data.toList.drop p) := by rw [drop_cons hp, hc]; exact note_pos _
  refine ⟨⟨by omega, by have := h.len; omega, ?_⟩, h2⟩
  have e : toks (s.data.toList.drop p) p = toks (s.data.toList.drop (p + lenW noteC (s.data.toList.drop p))) (p + lenW noteC (s.data.toList.drop p)) := by
    rw [← List.drop_drop]
    rw [drop_cons hp, hc]
    exact toks_note _ _
  rw [h.eq, e]
theorem TkR.blank {s : ByteArray} {p : Nat} {acc : List S31} (h : TkR s p acc) (hp : p < s.size) (hc : s[p] ≠ 35) (hb : blankC s[p] = true) : TkR s (p + 1) acc := by
  refine ⟨by omega, by have := h.len; omega, ?_⟩
  rw [h.eq, drop_cons hp, toks_blank hc hb]
theorem TkR.none {s : ByteArray} {p : Nat} {acc : List S31} (h : TkR s p acc) (hp : p < s.size) (hc : s[p] ≠ 35) (hb : blankC s[p] = false) (hn : (pieceL (s.data.toList.drop p)).1 = 0) : (toks s.data.toList 0).2 = some p := by
  rw [h.eq]
  rw [drop_cons hp] at hn ⊢
  rw [toks_none hc hb _ _ hn]
theorem TkR.piece {s : ByteArray} {p : Nat} {acc : List S31} (h : TkR s p acc) (hp : p < s.size) (hc : s[p] ≠ 35) (hb : blankC s[p] = false) (hn : (pieceL (s.data.toList.drop p)).1 ≠ 0) :
    TkR s (p + (pieceL (s.data.toList.drop p)).1) (acc ++ [⟨(pieceL (s.data.toList.drop p)).2, s.extract p (p + (pieceL (s.data.toList.drop p)).1), p⟩]) := by
  have h1 := pieceL_le (s.data.toList.drop p)
  rw [List.length_drop, ← Lib.size_eq] at h1
  have e : s.extract p (p + (pieceL (s.data.toList.drop p)).1) = ⟨((s.data.toList.drop p).take (pieceL (s.data.toList.drop p)).1).toArray⟩ := by
    apply ByteArray.ext
    apply Array.ext'
    rw [Lib.extract_data, Nat.add_sub_cancel_left]
  refine ⟨by omega, by have := h.len; rw [List.length_append, List.length_singleton]; omega, ?_⟩
  rw [h.eq, e, ← List.drop_drop]
  rw [drop_cons hp] at hn ⊢
  rw [toks_piece hc hb _ _ hn]
  simp
end Go.Proofs.YtklkikndcieojaaDoor
