/- Tokens, plain: where pieces end, sources joined, kinds. -/
import Derived.Test.YtklkikndcieojaaDoorTkI
namespace Go.Proofs.YtklkikndcieojaaDoor
open Go.RowKit Go.Proofs.YtklkikndcieojaaDoorW.PrintWords Go.Proofs.YtklkikndcieojaaDoorW.PrintLast Go.Proofs.YtklkikndcieojaaDoorW.PrintMore
set_option linter.unusedVariables false
set_option linter.unusedSimpArgs false
open PTk
theorem lenW_sep (p : UInt8 → Bool) (c : UInt8) (hc : p c = false) : ∀ (l t : List UInt8), lenW p (l ++ c :: t) = lenW p l
  | [], t => by simp [lenW, hc]
  | x :: l, t => by
    rw [List.cons_append, lenW, lenW, lenW_sep p c hc l t]
theorem take_sep (l t : List UInt8) (c : UInt8) (n : Nat) (h : n ≤ l.length) : (l ++ c :: t).take n = l.take n := List.take_append_of_le_length h
theorem drop_sep (l t : List UInt8) (c : UInt8) (n : Nat) (h : n ≤ l.length) : (l ++ c :: t).drop n = l.drop n ++ c :: t := List.drop_append_of_le_length h
/-- A byte no piece goes over. -/
structure SepC (c : UInt8) : Prop where
  name : nameC c = false
  dig : digC c = false
  pt : c ≠ 46
  eq : c ≠ 61
  am : c ≠ 38
  ba : c ≠ 124
theorem sep10 : SepC 10 := ⟨by decide, by decide, by decide, by decide, by decide, by decide⟩
theorem sep32 : SepC 32 := ⟨by decide, by decide, by decide, by decide, by decide, by decide⟩
theorem fracN_sep {c : UInt8} (hs : SepC c) (l t : List UInt8) : fracN (l ++ c :: t) (lenW digC l) = fracN l (lenW digC l) := by
  have hl := lenW_le digC l
  unfold fracN
  rcases Nat.lt_or_ge (lenW digC l) l.length with h | h
  · rw [List.getElem?_append_left h]
    rw [drop_sep _ _ _ _ (by omega), lenW_sep _ _ hs.dig]
  · have e : lenW digC l = l.length := by omega
    rw [e, List.getElem?_append_right (Nat.le_refl _), Nat.sub_self, List.getElem?_eq_none (Nat.le_refl l.length)]
    simp [hs.pt]
theorem numL_sep {c : UInt8} (hs : SepC c) (l t : List UInt8) : numL (l ++ c :: t) = numL l := by
  have hl := lenW_le digC l
  unfold numL
  rw [lenW_sep _ _ hs.dig, fracN_sep hs, take_sep _ _ _ _ hl]
  by_cases h : 0 < fracN l (lenW digC l)
  · rw [if_pos h, if_pos h, take_sep _ _ _ _ (frac_le l _ h)]
  · rw [if_neg h, if_neg h]
theorem nameL_sep {c : UInt8} (hs : SepC c) (l t : List UInt8) : nameL (l ++ c :: t) = nameL l := by
  have hl := lenW_le nameC l
  unfold nameL
  rw [lenW_sep _ _ hs.name, take_sep _ _ _ _ hl]
theorem signL_sep {c : UInt8} (hs : SepC c) (x : UInt8) (l t : List UInt8) : signL x (l ++ c :: t) = signL x l := by
  cases l with
  | nil =>
    unfold signL
    rw [List.nil_append]
    have h1 : ((c :: t).head? = some (61 : UInt8)) ↔ False := by simp [hs.eq]
    have h2 : ((([] : List UInt8)).head? = some (61 : UInt8)) ↔ False := by simp
    by_cases hx : x = 38 ∨ x = 124
    · rw [if_pos hx, if_pos hx]
      rcases hx with rfl | rfl
      · simp [hs.am]
      · simp [hs.ba]
    · rw [if_neg hx, if_neg hx]
      simp only [h1, h2]
  | cons y l => rfl
theorem pieceL_cons (c : UInt8) (r : List UInt8) : pieceL (c :: r) = if letC c then nameL (c :: r) else if digC c then numL (c :: r) else signL c r := rfl
theorem pieceL_sep {c : UInt8} (hs : SepC c) (x : UInt8) (l t : List UInt8) : pieceL (x :: l ++ c :: t) = pieceL (x :: l) := by
  show pieceL (x :: (l ++ c :: t)) = _
  have e : x :: (l ++ c :: t) = (x :: l) ++ c :: t := rfl
  rw [pieceL_cons, pieceL_cons, e, nameL_sep hs, numL_sep hs, signL_sep hs]
theorem lenW_takeall (p : UInt8 → Bool) (l : List UInt8) : lenW p (l.take (lenW p l)) = lenW p l := by
  rw [lenW_all p _ (lenW_take p l), List.length_take, Nat.min_eq_left (lenW_le p l)]
theorem lenW_pos {p : UInt8 → Bool} {c : UInt8} {l : List UInt8} (h : p c = true) : 0 < lenW p (c :: l) := by
  rw [lenW, if_pos h]; omega
theorem lenW_drop_take (p : UInt8 → Bool) (l : List UInt8) (m : Nat) (h : lenW p l ≤ m) : lenW p (l.take m) = lenW p l := by
  induction l generalizing m with
  | nil => simp
  | cons x l ih =>
    rw [lenW] at h
    by_cases hx : p x = true
    · rw [if_pos hx] at h
      cases m with
      | zero => omega
      | succ m => rw [List.take_succ_cons, lenW, lenW, if_pos hx, if_pos hx, ih m (by omega)]
    · cases m with
      | zero => rw [List.take_zero, lenW, lenW, if_neg hx]
      | succ m => rw [List.take_succ_cons, lenW, lenW, if_neg hx, if_neg hx]
theorem numL_cases (l : List UInt8) : (numL l = (0, 0)) ∨ (0 < fracN l (lenW digC l) ∧ goodS ⟨(l.take (lenW digC l + 1 + fracN l (lenW digC l))).toArray⟩ = true ∧ numL l = (lenW digC l + 1 + fracN l (lenW digC l), 4)) ∨ (fracN l (lenW digC l) = 0 ∧ wholeL (l.take (lenW digC l)) = true ∧ numL l = (lenW digC l, 3)) := by
  unfold numL
  by_cases h : 0 < fracN l (lenW digC l)
  · rw [if_pos h]
    by_cases g : goodS ⟨(l.take (lenW digC l + 1 + fracN l (lenW digC l))).toArray⟩ = true
    · rw [if_pos g]; exact Or.inr (Or.inl ⟨h, g, rfl⟩)
    · rw [if_neg g]; exact Or.inl rfl
  · rw [if_neg h]
    by_cases g : wholeL (l.take (lenW digC l)) = true
    · rw [if_pos g]; exact Or.inr (Or.inr ⟨by omega, g, rfl⟩)
    · rw [if_neg g]; exact Or.inl rfl
theorem numL_take {l : List UInt8} {n k : Nat} (h : numL l = (n, k)) (h0 : n ≠ 0) : numL (l.take n) = (n, k) := by
  rcases numL_cases l with e | ⟨f, g, e⟩ | ⟨f, g, e⟩
  · rw [e] at h; injection h with h1 h2; omega
  · rw [e] at h
    injection h with h1 h2
    subst h1 h2
    have hle := frac_le l _ f
    have hm : fracN l (lenW digC l) = lenW digC (l.drop (lenW digC l + 1)) := by
      unfold fracN at f ⊢
      split at f
      · next h5 => rw [if_pos h5]
      · omega
    have hpt : l[lenW digC l]? = some 46 := by
      unfold fracN at f
      split at f
      · next h5 => exact h5
      · omega
    generalize hN : lenW digC l = N at *
    generalize hM : fracN l N = M at *
    have e1 : lenW digC (l.take (N + 1 + M)) = N := by rw [lenW_drop_take _ _ _ (by omega), hN]
    have e2 : fracN (l.take (N + 1 + M)) N = M := by
      unfold fracN
      rw [List.getElem?_take_of_lt (by omega), hpt, if_pos rfl, List.drop_take, show N + 1 + M - (N + 1) = M by omega, lenW_drop_take _ _ _ (by omega), ← hm]
    unfold numL
    rw [e1, e2, if_pos f, List.take_take, Nat.min_self, if_pos g]
  · rw [e] at h
    injection h with h1 h2
    subst h1 h2
    have e1 := lenW_takeall digC l
    have e2 : fracN (l.take (lenW digC l)) (lenW digC l) = 0 := by
      unfold fracN
      rw [List.getElem?_eq_none (by rw [List.length_take]; omega)]
      rfl
    unfold numL
    rw [e1, e2, if_neg (by omega), List.take_take, Nat.min_self, if_pos g]
theorem nameL_take {l : List UInt8} {n k : Nat} (h : nameL l = (n, k)) (h0 : n ≠ 0) : nameL (l.take n) = (n, k) := by
  unfold nameL at h ⊢
  by_cases g : lenW nameC l > 24
  · rw [if_pos g] at h; injection h with h1; omega
  · rw [if_neg g] at h
    injection h with h1 h2
    subst h1
    rw [lenW_takeall, if_neg g, List.take_take, Nat.min_self, h2]
theorem signL_take {c : UInt8} {r : List UInt8} {n k : Nat} (h : signL c r = (n + 1, k)) : signL c (r.take n) = (n + 1, k) := by
  have hn : n = 0 ∨ n = 1 := by
    unfold signL at h
    (repeat' split at h) <;> (injection h with h1 h2; omega)
  rcases hn with rfl | rfl
  · cases r with
    | nil => exact h
    | cons y r =>
      unfold signL at h ⊢
      by_cases hx : c = 38 ∨ c = 124
      · rw [if_pos hx] at h
        split at h <;> (injection h with h1 h2; omega)
      · rw [if_neg hx] at h ⊢
        by_cases hy : c = 61 ∨ c = 33 ∨ c = 60 ∨ c = 62
        · rw [if_pos hy] at h ⊢
          split at h
          · injection h with h1 h2; omega
          · rw [if_neg (by simp)]; exact h
        · rw [if_neg hy] at h ⊢; exact h
  · cases r with
    | nil => exact h
    | cons y r =>
      show signL c [y] = _
      unfold signL at h ⊢
      exact h
theorem pieceL_take {c : UInt8} {r : List UInt8} {n k : Nat} (h : pieceL (c :: r) = (n + 1, k)) : pieceL (c :: r.take n) = (n + 1, k) := by
  rw [pieceL_cons] at h ⊢
  by_cases h1 : letC c = true
  · rw [if_pos h1] at h ⊢; exact nameL_take h (by omega)
  · rw [if_neg h1] at h ⊢
    by_cases h2 : digC c = true
    · rw [if_pos h2] at h ⊢; exact numL_take h (by omega)
    · rw [if_neg h2] at h ⊢; exact signL_take h
/-- The kinds of pieces. -/
theorem pieceL_kind {c : UInt8} {r : List UInt8} {n k : Nat} (h : pieceL (c :: r) = (n + 1, k)) : (letC c = true ∧ k = (if wordL ((c :: r).take (n + 1)) then 2 else 1) ∧ n + 1 = lenW nameC (c :: r) ∧ n + 1 ≤ 24) ∨ (letC c = false ∧ 3 ≤ k ∧ k ≤ 5) := by
  rw [pieceL_cons] at h
  by_cases h1 : letC c = true
  · rw [if_pos h1] at h
    left
    unfold nameL at h
    by_cases g : lenW nameC (c :: r) > 24
    · rw [if_pos g] at h; injection h with h1; omega
    · rw [if_neg g] at h
      injection h with h2 h3
      rw [h2] at h3
      exact ⟨h1, h3.symm, h2.symm, by omega⟩
  · rw [if_neg h1] at h
    right
    refine ⟨by simpa using h1, ?_⟩
    by_cases h2 : digC c = true
    · rw [if_pos h2] at h
      rcases numL_cases (c :: r) with e | ⟨f, g, e⟩ | ⟨f, g, e⟩ <;> (rw [e] at h; injection h with h3 h4; omega)
    · rw [if_neg h2] at h
      unfold signL at h
      (repeat' split at h) <;> (injection h with h3 h4; omega)
/-! two sources, one behind the other -/
def shiftT (d : Int) (t : S31) : S31 := ⟨t.f0, t.f1, t.f2 + d⟩
theorem toks_shift (d : Nat) : ∀ (n : Nat) (l : List UInt8) (a : Nat), l.length ≤ n → toks l (a + d) = ((toks l a).1.map (shiftT d), (toks l a).2.map (· + d))
  | _, [], a, _ => by rw [toks_nil, toks_nil]; simp [shiftT]
  | 0, c :: r, a, h => by simp at h
  | n + 1, c :: r, a, h => by
    rw [List.length_cons] at h
    by_cases h1 : c = 35
    · subst h1
      rw [toks_note, toks_note]
      have := note_pos r
      rw [show a + d + lenW noteC (35 :: r) = a + lenW noteC (35 :: r) + d by omega]
      exact toks_shift d n _ _ (by rw [List.length_drop, List.length_cons]; omega)
    · cases h2 : blankC c with
      | true =>
        rw [toks_blank h1 h2, toks_blank h1 h2, show a + d + 1 = a + 1 + d by omega]
        exact toks_shift d n _ _ (by omega)
      | false =>
        by_cases h3 : (pieceL (c :: r)).1 = 0
        · rw [toks_none h1 h2 _ _ h3, toks_none h1 h2 _ _ h3]; simp
        · rw [toks_piece h1 h2 _ _ h3, toks_piece h1 h2 _ _ h3, show a + d + (pieceL (c :: r)).1 = a + (pieceL (c :: r)).1 + d by omega]
          rw [toks_shift d n _ _ (by rw [List.length_drop, List.length_cons]; omega)]
          simp [shiftT]
theorem toks_joined (t : List UInt8) : ∀ (n : Nat) (l : List UInt8) (a : Nat), l.length ≤ n → (toks l a).2 = none →
    ∃ L e, (toks l a).1 = L ++ [e] ∧ toks (l ++ 10 :: t) a = (L ++ (toks t (a + l.length + 1)).1, (toks t (a + l.length + 1)).2)
  | _, [], a, _, _ => ⟨[], ⟨6, ⟨#[]⟩, a⟩, by rw [toks_nil]; rfl, by rw [List.nil_append, toks_blank (by decide) (by decide)]; simp⟩
  | 0, c :: r, a, h, _ => by simp at h
  | n + 1, c :: r, a, h, hn => by
    rw [List.length_cons] at h
    by_cases h1 : c = 35
    · subst h1
      rw [toks_note] at hn ⊢
      have hp := note_pos r
      have hle := lenW_le noteC (35 :: r)
      rw [List.cons_append, toks_note, show (35 :: (r ++ 10 :: t) : List UInt8) = (35 :: r) ++ 10 :: t from rfl, lenW_sep _ _ (by decide), drop_sep _ _ _ _ hle]
      obtain ⟨L, e, g1, g2⟩ := toks_joined t n ((35 :: r).drop (lenW noteC (35 :: r))) (a + lenW noteC (35 :: r)) (by rw [List.length_drop, List.length_cons]; omega) hn
      rw [List.length_drop] at g2
      refine ⟨L, e, g1, ?_⟩
      rw [g2, show a + lenW noteC (35 :: r) + ((35 :: r).length - lenW noteC (35 :: r)) + 1 = a + (35 :: r).length + 1 by omega]
    · cases h2 : blankC c with
      | true =>
        rw [toks_blank h1 h2] at hn ⊢
        rw [List.cons_append, toks_blank h1 h2]
        obtain ⟨L, e, g1, g2⟩ := toks_joined t n r (a + 1) (by omega) hn
        refine ⟨L, e, g1, ?_⟩
        rw [g2, List.length_cons, show a + 1 + r.length + 1 = a + (r.length + 1) + 1 by omega]
      | false =>
        by_cases h3 : (pieceL (c :: r)).1 = 0
        · rw [toks_none h1 h2 _ _ h3] at hn; cases hn
        · rw [toks_piece h1 h2 _ _ h3] at hn ⊢
          have hle := pieceL_le (c :: r)
          have hs := pieceL_sep sep10 c r t
          rw [show c :: r ++ 10 :: t = c :: (r ++ 10 :: t) from rfl] at hs
          rw [List.cons_append, toks_piece h1 h2 _ _ (by rw [hs]; exact h3), hs]
          rw [show (c :: (r ++ 10 :: t) : List UInt8) = (c :: r) ++ 10 :: t from rfl, drop_sep _ _ _ _ hle, take_sep _ _ _ _ hle]
          obtain ⟨L, e, g1, g2⟩ := toks_joined t n ((c :: r).drop (pieceL (c :: r)).1) (a + (pieceL (c :: r)).1) (by rw [List.length_drop, List.length_cons]; omega) hn
          rw [List.length_drop] at g2
          refine ⟨_ :: L, e, by rw [g1]; rfl, ?_⟩
          rw [g2, show a + (pieceL (c :: r)).1 + ((c :: r).length - (pieceL (c :: r)).1) + 1 = a + (c :: r).length + 1 by omega]
          rfl
/-- There are fewer tokens than bytes, but for one. -/
theorem toks_len : ∀ (n : Nat) (l : List UInt8) (a : Nat), l.length ≤ n → (toks l a).1.length ≤ l.length + 1
  | _, [], a, _ => by rw [toks_nil]; simp
  | 0, c :: r, a, h => by simp at h
  | n + 1, c :: r, a, h => by
    rw [List.length_cons] at h
    by_cases h1 : c = 35
    · subst h1
      rw [toks_note]
      have := note_pos r
      have g := toks_len n ((35 :: r).drop (lenW noteC (35 :: r))) (a + lenW noteC (35 :: r)) (by rw [List.length_drop, List.length_cons]; omega)
      rw [List.length_drop] at g
      omega
    · cases h2 : blankC c with
      | true =>
        rw [toks_blank h1 h2]
        have g := toks_len n r (a + 1) (by omega)
        rw [List.length_cons]; omega
      | false =>
        by_cases h3 : (pieceL (c :: r)).1 = 0
        · rw [toks_none h1 h2 _ _ h3]; simp
        · rw [toks_piece h1 h2 _ _ h3]
          have hle := pieceL_le (c :: r)
          have g := toks_len n ((c :: r).drop (pieceL (c :: r)).1) (a + (pieceL (c :: r)).1) (by rw [List.length_drop, List.length_cons]; omega)
          rw [List.length_drop] at g
          rw [List.length_cons]; omega
/-- The offsets are small. -/
theorem toks_at : ∀ (n : Nat) (l : List UInt8) (a : Nat), l.length ≤ n → ∀ t ∈ (toks l a).1, (a : Int) ≤ t.f2 ∧ t.f2 ≤ a + l.length
  | _, [], a, _, t, ht => by
    rw [toks_nil, List.mem_singleton] at ht
    subst ht
    simp
  | 0, c :: r, a, h, _, _ => by simp at h
  | n + 1, c :: r, a, h, t, ht => by
    rw [List.length_cons] at h
    by_cases h1 : c = 35
    · subst h1
      rw [toks_note] at ht
      have hp := note_pos r
      have hl := lenW_le noteC (35 :: r)
      have g := toks_at n ((35 :: r).drop (lenW noteC (35 :: r))) (a + lenW noteC (35 :: r)) (by rw [List.length_drop, List.length_cons]; omega) t ht
      rw [List.length_drop] at g
      omega
    · cases h2 : blankC c with
      | true =>
        rw [toks_blank h1 h2] at ht
        have g := toks_at n r (a + 1) (by omega) t ht
        rw [List.length_cons]; omega
      | false =>
        by_cases h3 : (pieceL (c :: r)).1 = 0
        · rw [toks_none h1 h2 _ _ h3] at ht; cases ht
        · rw [toks_piece h1 h2 _ _ h3] at ht
          have hle := pieceL_le (c :: r)
          rcases List.mem_cons.1 ht with rfl | ht
          · simp only; omega
          · have g := toks_at n ((c :: r).drop (pieceL (c :: r)).1) (a + (pieceL (c :: r)).1) (by rw [List.length_drop, List.length_cons]; omega) t ht
            rw [List.length_drop] at g
            omega
theorem tokensF_ok {s : ByteArray} {l : List S31} {p : Int} (h : tokensF s = (l, 0, p)) : s.size ≤ 16384 ∧ toks s.data.toList 0 = (l, none) ∧ p = 0 := by
  unfold tokensF at h
  split at h
  · injection h with _ h1; injection h1 with h2; exact absurd h2 (by decide)
  · cases he : toks s.data.toList 0 with
    | mk l2 o =>
      rw [he] at h
      cases o with
      | none =>
        injection h with h1 h2
        injection h2 with _ h3
        exact ⟨by omega, by rw [h1], h3.symm⟩
      | some q => injection h with _ h1; injection h1 with h2; exact absurd h2 (by decide)
theorem rd_app_l {L M : List S31} {i : Nat} (h : i < L.length) : rd_T31 (L ++ M) i = rd_T31 L i := by
  unfold rd_T31
  simp only [Int.toNat_natCast, List.getD_eq_getElem?_getD]
  rw [List.getElem?_append_left h]
theorem rd_app_r {L M : List S31} {i : Nat} (h : L.length ≤ i) : rd_T31 (L ++ M) i = rd_T31 M ((i - L.length : Nat) : Int) := by
  unfold rd_T31
  simp only [Int.toNat_natCast, List.getD_eq_getElem?_getD]
  rw [List.getElem?_append_right h]
theorem rd_map {L : List S31} {f : S31 → S31} {i : Nat} (h : i < L.length) : rd_T31 (L.map f) i = f (rd_T31 L i) := by
  unfold rd_T31
  simp only [Int.toNat_natCast, List.getD_eq_getElem?_getD]
  rw [List.getElem?_map, List.getElem?_eq_getElem h]
  rfl
theorem rd_mem {L : List S31} {i : Nat} (h : i < L.length) : rd_T31 L i ∈ L := by
  unfold rd_T31
  simp only [Int.toNat_natCast, List.getD_eq_getElem?_getD]
  rw [List.getElem?_eq_getElem h]
  exact List.getElem_mem h
theorem w64_small {x : Int} (h0 : -9223372036854775808 ≤ x) (h1 : x ≤ 9223372036854775807) : wrap64 x = x := by
  unfold wrap64; omega
end Go.Proofs.YtklkikndcieojaaDoor
