/- Tokens, plain: which they are. -/
import Derived.Test.YtklkikndcieojaaDoorRf3
import Derived.Test.YtklkikndcieojaaDoorTkP
namespace Go.Proofs.YtklkikndcieojaaDoor
open Go.RowKit Go.Proofs.YtklkikndcieojaaDoorW.PrintWords Go.Proofs.YtklkikndcieojaaDoorW.PrintLast Go.Proofs.YtklkikndcieojaaDoorW.PrintMore
set_option linter.unusedVariables false
set_option linter.unusedSimpArgs false
def letC (c : UInt8) : Bool := (decide (97 ≤ c.toNat) && decide (c.toNat ≤ 122)) || decide (c.toNat = 95)
def digC (c : UInt8) : Bool := decide (48 ≤ c.toNat) && decide (c.toNat ≤ 57)
def nameC (c : UInt8) : Bool := letC c || digC c
def noteC (c : UInt8) : Bool := !decide (c.toNat = 10)
/-- How many bytes from the front on may be. -/
def lenW (p : UInt8 → Bool) : List UInt8 → Nat
  | [] => 0
  | c :: l => if p c then lenW p l + 1 else 0
theorem lenW_le (p : UInt8 → Bool) : ∀ l, lenW p l ≤ l.length
  | [] => Nat.le_refl _
  | c :: l => by unfold lenW; split; · have := lenW_le p l; simp; omega
                 · simp
theorem lenW_take (p : UInt8 → Bool) : ∀ (l : List UInt8), ∀ c ∈ l.take (lenW p l), p c = true
  | [], c, h => by simp at h
  | x :: l, c, h => by
    unfold lenW at h
    split at h
    · next hx =>
      rw [List.take_succ_cons] at h
      rcases List.mem_cons.1 h with rfl | h
      · exact hx
      · exact lenW_take p l c h
    · simp at h
theorem lenW_stop (p : UInt8 → Bool) : ∀ (l : List UInt8) (h : lenW p l < l.length), p l[lenW p l] = false
  | [], h => by simp at h
  | c :: l, h => by
    by_cases hc : p c = true
    · have e : lenW p (c :: l) = lenW p l + 1 := by rw [lenW, if_pos hc]
      rw [e] at h
      have := lenW_stop p l (by simpa using h)
      simp only [e, List.getElem_cons_succ]
      exact this
    · have e : lenW p (c :: l) = 0 := by rw [lenW, if_neg hc]
      simp only [e, List.getElem_cons_zero]
      simpa using hc
theorem lenW_app (p : UInt8 → Bool) : ∀ (a b : List UInt8), (∀ c ∈ a, p c = true) → lenW p (a ++ b) = a.length + lenW p b
  | [], b, _ => by simp
  | c :: a, b, h => by
    rw [List.cons_append, lenW, if_pos (h c List.mem_cons_self), lenW_app p a b (fun x hx => h x (List.mem_cons_of_mem _ hx))]
    simp; omega
theorem lenW_all (p : UInt8 → Bool) (l : List UInt8) (h : ∀ c ∈ l, p c = true) : lenW p l = l.length := by
  have := lenW_app p l [] h
  rw [List.append_nil] at this
  rw [this]; rfl
theorem lenW_drop (p : UInt8 → Bool) (l : List UInt8) (j : Nat) (h : j ≤ lenW p l) : lenW p l = j + lenW p (l.drop j) := by
  have h1 := lenW_app p (l.take j) (l.drop j) (fun c hc => lenW_take p l c (List.mem_of_mem_take (i := j) (by rw [List.take_take, Nat.min_eq_left h]; exact hc)))
  rw [List.take_append_drop, List.length_take] at h1
  have := lenW_le p l
  omega
def wordsL : List (List UInt8) := [[98, 111, 111, 108], [101, 108, 115, 101], [101, 110, 116], [102, 97, 108, 115, 101], [102, 105, 120], [102, 110], [105, 102], [105, 110, 116], [108, 101, 116], [110, 117, 108, 108], [114, 101, 116, 117, 114, 110], [116, 114, 117, 101], [118, 97, 114], [119, 104, 105, 108, 101]]
def wordL (l : List UInt8) : Bool := decide (l ∈ wordsL)
/-- Digits are a whole number. -/
def wholeL (l : List UInt8) : Bool := decide (numV 0 (bI l) ≤ 9223372036854775807) && !(decide (l.head? = some 48) && decide (1 < l.length))
/-- How many digits stand behind a point at a place. -/
def fracN (l : List UInt8) (n : Nat) : Nat := if l[n]? = some 46 then lenW digC (l.drop (n + 1)) else 0
/-- A number at the front: how long, and its kind. -/
def numL (l : List UInt8) : Nat × Nat :=
  if 0 < fracN l (lenW digC l) then
    (if goodS ⟨(l.take (lenW digC l + 1 + fracN l (lenW digC l))).toArray⟩ then (lenW digC l + 1 + fracN l (lenW digC l), 4) else (0, 0))
  else if wholeL (l.take (lenW digC l)) then (lenW digC l, 3) else (0, 0)
def nameL (l : List UInt8) : Nat × Nat := if lenW nameC l > 24 then (0, 0) else (lenW nameC l, if wordL (l.take (lenW nameC l)) then 2 else 1)
def signL (c : UInt8) (r : List UInt8) : Nat × Nat :=
  if c = 38 ∨ c = 124 then (if r.head? = some c then (2, 5) else (0, 0))
  else if c = 61 ∨ c = 33 ∨ c = 60 ∨ c = 62 then (if r.head? = some 61 then (2, 5) else (1, 5))
  else if c ∈ ([43, 45, 42, 47, 37, 40, 41, 123, 125, 91, 93, 44, 59, 58] : List UInt8) then (1, 5) else (0, 0)
/-- The length of the piece at the front, and its kind; 0: there is none. -/
def pieceL : List UInt8 → Nat × Nat
  | [] => (0, 0)
  | c :: r => if letC c then nameL (c :: r) else if digC c then numL (c :: r) else signL c r
theorem frac_le (l : List UInt8) (n : Nat) (h : 0 < fracN l n) : n + 1 + fracN l n ≤ l.length := by
  unfold fracN at h ⊢
  split at h
  · next h5 =>
    rw [if_pos h5]
    have := (List.getElem?_eq_some_iff.1 h5).1
    have h3 := lenW_le digC (l.drop (n + 1))
    rw [List.length_drop] at h3
    omega
  · simp at h
theorem numL_le (l : List UInt8) : (numL l).1 ≤ l.length := by
  have h2 := lenW_le digC l
  unfold numL
  split
  · next h =>
    have := frac_le l _ h
    split
    · exact this
    · exact Nat.zero_le _
  · split
    · exact h2
    · exact Nat.zero_le _
theorem nameL_le (l : List UInt8) : (nameL l).1 ≤ l.length := by
  have h2 := lenW_le nameC l
  unfold nameL
  split
  · exact Nat.zero_le _
  · exact h2
theorem signL_le (c : UInt8) (r : List UInt8) : (signL c r).1 ≤ (c :: r).length := by
  unfold signL
  cases r with
  | nil => simp; (repeat' split) <;> simp
  | cons d r => (repeat' split) <;> simp
theorem pieceL_le : ∀ l : List UInt8, (pieceL l).1 ≤ l.length
  | [] => Nat.le_refl _
  | c :: r => by
    show (if letC c then nameL (c :: r) else if digC c then numL (c :: r) else signL c r).1 ≤ _
    split
    · exact nameL_le _
    · split
      · exact numL_le _
      · exact signL_le c r
open PTk
theorem word_f (s : ByteArray) : token_Word.f s = some (wordL s.toList) := by
  unfold token_Word.f
  generalize s.toList = l
  by_cases h0 : l = [98, 111, 111, 108]
  · subst h0; rfl
  rw [if_neg h0]
  by_cases h1 : l = [101, 108, 115, 101]
  · subst h1; rfl
  rw [if_neg h1]
  by_cases h2 : l = [101, 110, 116]
  · subst h2; rfl
  rw [if_neg h2]
  by_cases h3 : l = [102, 97, 108, 115, 101]
  · subst h3; rfl
  rw [if_neg h3]
  by_cases h4 : l = [102, 105, 120]
  · subst h4; rfl
  rw [if_neg h4]
  by_cases h5 : l = [102, 110]
  · subst h5; rfl
  rw [if_neg h5]
  by_cases h6 : l = [105, 102]
  · subst h6; rfl
  rw [if_neg h6]
  by_cases h7 : l = [105, 110, 116]
  · subst h7; rfl
  rw [if_neg h7]
  by_cases h8 : l = [108, 101, 116]
  · subst h8; rfl
  rw [if_neg h8]
  by_cases h9 : l = [110, 117, 108, 108]
  · subst h9; rfl
  rw [if_neg h9]
  by_cases h10 : l = [114, 101, 116, 117, 114, 110]
  · subst h10; rfl
  rw [if_neg h10]
  by_cases h11 : l = [116, 114, 117, 101]
  · subst h11; rfl
  rw [if_neg h11]
  by_cases h12 : l = [118, 97, 114]
  · subst h12; rfl
  rw [if_neg h12]
  by_cases h13 : l = [119, 104, 105, 108, 101]
  · subst h13; rfl
  rw [if_neg h13]
  symm
  refine congrArg some ?_
  unfold wordL wordsL
  rw [decide_eq_false_iff_not]
  simp only [List.mem_cons, List.not_mem_nil, or_false, not_or]
  refine ⟨?_, ?_, ?_, ?_, ?_, ?_, ?_, ?_, ?_, ?_, ?_, ?_, ?_, ?_⟩ <;> assumption
theorem letter_f (c : UInt8) : token_letter.f (c.toNat : Int) = some (letC c) := by
  unfold token_letter.f letC
  (repeat' split) <;> (refine congrArg some ?_; rw [Bool.eq_iff_iff]; simp; omega)
theorem digit_f (c : UInt8) : token_digit.f (c.toNat : Int) = some (digC c) := by
  unfold token_digit.f digC
  (repeat' split) <;> (refine congrArg some ?_; rw [Bool.eq_iff_iff]; simp; omega)
theorem inName_f (c : UInt8) : token_inName.f (c.toNat : Int) = some (nameC c) := by
  unfold token_inName.f nameC
  rw [letter_f, digit_f]
  cases letC c <;> simp
end Go.Proofs.YtklkikndcieojaaDoor
