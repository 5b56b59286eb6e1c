/- TokenNames, plain. -/
import Derived.Test.YtklkikndcieojaaDoorTkJ
import Derived.Test.YtklkikndcieojaaDoorTkLNames
namespace Go.Proofs.YtklkikndcieojaaDoor
open Go.RowKit Go.Proofs.YtklkikndcieojaaDoorW.PrintWords Go.Proofs.YtklkikndcieojaaDoorW.PrintLast Go.Proofs.YtklkikndcieojaaDoorW.PrintMore
set_option linter.unusedVariables false
set_option linter.unusedSimpArgs false
open PTk
/-- The bytes of a name, word or not. -/
def NameP (l : List UInt8) : Prop := ∃ c r, l = c :: r ∧ letC c = true ∧ lenW nameC l = l.length ∧ l.length ≤ 24
theorem words_name : ∀ w ∈ wordsL, lenW nameC w = w.length ∧ w.length ≤ 24 ∧ w ≠ [] ∧ letC (w.headD 0) = true := by decide
theorem wordL_name {l : List UInt8} (h : wordL l = true) : NameP l := by
  obtain ⟨h1, h2, h3, h4⟩ := words_name l (of_decide_eq_true h)
  cases l with
  | nil => exact absurd rfl h3
  | cons c r => exact ⟨c, r, rfl, h4, h1, h2⟩
theorem nameF_eq (s : ByteArray) : nameF s = true ↔ (NameP s.data.toList ∧ wordL s.data.toList = false) := by
  rcases Nat.eq_zero_or_pos s.size with h | h
  · rw [nameF_nil h]
    refine Iff.intro (fun g => absurd g (by decide)) ?_
    rintro ⟨⟨c, r, e, _⟩, _⟩
    have : s.data.toList.length = 0 := by rw [← Lib.size_eq]; exact h
    rw [e] at this; simp at this
  · have hd := drop_cons h
    rw [List.drop_zero] at hd
    rw [nameF_cons h]
    simp only [Bool.and_eq_true, decide_eq_true_eq, Bool.not_eq_true']
    constructor
    · rintro ⟨h1, h2, h3, h4⟩
      exact ⟨⟨_, _, hd, h2, by rw [h3, Lib.size_eq], by rw [← Lib.size_eq]; exact h1⟩, h4⟩
    · rintro ⟨⟨c, r, e, h1, h2, h3⟩, h4⟩
      have hc : s[0] = c := by rw [e] at hd; injection hd with g _; exact g.symm
      exact ⟨by rw [Lib.size_eq]; exact h3, by rw [hc]; exact h1, by rw [h2, Lib.size_eq], h4⟩
theorem one_piece {s : ByteArray} (h : NameP s.data.toList) : tokensF s = ([⟨if wordL s.data.toList then 2 else 1, s, 0⟩, ⟨6, ⟨#[]⟩, s.size⟩], 0, 0) := by
  obtain ⟨c, r, e, h1, h2, h3⟩ := h
  have hsz : s.size = s.data.toList.length := Lib.size_eq s
  have hl : s.data.toList.length = r.length + 1 := by rw [e]; rfl
  have hs : s = ⟨(c :: r).toArray⟩ := by
    apply ByteArray.ext; apply Array.ext'; rw [e]
  have h35 : c ≠ 35 := by rintro rfl; revert h1; decide
  have hb : blankC c = false := by
    cases hq : blankC c with
    | false => rfl
    | true =>
      unfold blankC at hq
      simp only [Bool.or_eq_true, decide_eq_true_eq] at hq
      rcases hq with ((rfl | rfl) | rfl) | rfl <;> (revert h1; decide)
  rw [e] at h2 h3
  have hp : pieceL (c :: r) = (r.length + 1, if wordL (c :: r) then 2 else 1) := by
    rw [pieceL_cons, if_pos h1]
    unfold nameL
    rw [h2, if_neg (by omega), List.length_cons, List.take_of_length_le (by simp)]
  unfold tokensF
  rw [if_neg (by rw [List.length_cons] at h3; omega), e, toks_piece' c r 0 r.length _ h35 hb hp]
  have h0 : ((c :: r).drop (r.length + 1)) = [] := List.drop_of_length_le (by simp)
  have ht : ((c :: r).take (r.length + 1)) = c :: r := List.take_of_length_le (by simp)
  rw [h0, ht, toks_nil, ← hs, hsz, hl]
  unfold answer
  simp only [Nat.zero_add]
  cases wordL (c :: r) <;> rfl
theorem toks_kind : ∀ (n : Nat) (l : List UInt8) (a : Nat), l.length ≤ n → ∀ t ∈ (toks l a).1, (t.f0 = 1 ∨ t.f0 = 2) → NameP t.f1.data.toList
  | _, [], a, _, t, ht, hk => by
    rw [toks_nil] at ht
    rw [List.mem_singleton] at ht
    subst ht
    rcases hk with hk | hk <;> exact absurd (show (6 : Int) = _ from hk) (by decide)
  | 0, c :: r, a, h, _, _, _ => by simp at h
  | n + 1, c :: r, a, h, t, ht, hk => by
    rw [List.length_cons] at h
    by_cases h1 : c = 35
    · subst h1
      rw [toks_note] at ht
      have := note_pos r
      exact toks_kind n _ _ (by rw [List.length_drop, List.length_cons]; omega) t ht hk
    · cases h2 : blankC c with
      | true =>
        rw [toks_blank h1 h2] at ht
        exact toks_kind n r _ (by omega) t ht hk
      | false =>
        by_cases h3 : (pieceL (c :: r)).1 = 0
        · rw [toks_none h1 h2 _ _ h3] at ht; cases ht
        · rw [toks_piece h1 h2 _ _ h3] at ht
          rcases List.mem_cons.1 ht with rfl | ht
          · obtain ⟨m, hm⟩ : ∃ m, (pieceL (c :: r)).1 = m + 1 := ⟨(pieceL (c :: r)).1 - 1, by omega⟩
            obtain ⟨k, hkk⟩ : ∃ k, (pieceL (c :: r)).2 = k := ⟨_, rfl⟩
            have hp : pieceL (c :: r) = (m + 1, k) := by rw [← hm, ← hkk]
            have hle := pieceL_le (c :: r)
            rcases pieceL_kind hp with ⟨g1, g2, g3, g4⟩ | ⟨g1, g2, g3⟩
            · refine ⟨c, r.take m, ?_, g1, ?_, ?_⟩
              · simp only [hp]; rfl
              · simp only [hp]
                rw [g3, lenW_takeall, List.length_take, Nat.min_eq_left (lenW_le _ _)]
              · simp only [hp]
                rw [List.length_take]; omega
            · rw [hp] at hk
              simp only at hk
              omega
          · exact toks_kind n _ _ (by rw [List.length_drop, List.length_cons]; omega) t ht hk
theorem tokensF_kind {s : ByteArray} {l : List S31} {c p : Int} (h : tokensF s = (l, c, p)) : ∀ t ∈ l, (t.f0 = 1 ∨ t.f0 = 2) → NameP t.f1.data.toList := by
  intro t ht hk
  unfold tokensF at h
  split at h
  · injection h with h1 _; subst h1; cases ht
  · cases he : toks s.data.toList 0 with
    | mk l2 o =>
      rw [he] at h
      cases o with
      | none =>
        injection h with h1 _
        subst h1
        exact toks_kind _ s.data.toList 0 (Nat.le_refl _) t (by rw [he]; exact ht) hk
      | some q => injection h with h1 _; subst h1; cases ht
theorem TokenNames_pure : tiltyardlaw08_TokenNames.Pure := by
  intro a0 hsz
  unfold tiltyardlaw08_TokenNames.f
  have hN : token_Name.f a0 = some (nameF a0) := by unfold token_Name.f; rw [if_pos (by omega)]
  have hW : token_Word.f a0 = some (wordL a0.data.toList) := by rw [word_f, Lib.toList_data]
  rw [awake_true, token_Tokens.f]
  simp only [Option.bind_some, hN, hW, if_true]
  by_cases hk : NameP a0.data.toList
  · rw [one_piece hk]
    have hr : ∀ k : Int, rd_T31 [⟨k, a0, 0⟩, ⟨6, ⟨#[]⟩, a0.size⟩] 0 = ⟨k, a0, 0⟩ := fun k => rfl
    simp only [hr]
    have hn := nameF_eq a0
    cases hw : wordL a0.data.toList with
    | true =>
      have : nameF a0 = false := by
        cases hq : nameF a0 with
        | false => rfl
        | true => have := (hn.1 hq).2; rw [hw] at this; cases this
      simp [this]
    | false =>
      have : nameF a0 = true := hn.2 ⟨hk, hw⟩
      simp [this]
  · have n0 : nameF a0 = false := by
      cases hq : nameF a0 with
      | false => rfl
      | true => exact absurd ((nameF_eq a0).1 hq).1 hk
    have w0 : wordL a0.data.toList = false := by
      cases hq : wordL a0.data.toList with
      | false => rfl
      | true => exact absurd (wordL_name hq) hk
    rw [n0, w0]
    obtain ⟨l, c, p, he⟩ : ∃ l c p, tokensF a0 = (l, c, p) := ⟨_, _, _, rfl⟩
    rw [he]
    have hkind := tokensF_kind he
    by_cases h1 : c = 0
    · by_cases h2 : (l.length : Int) = 2
      · by_cases h3 : ((rd_T31 l 0).f1).toList = a0.toList
        · have hm : rd_T31 l 0 ∈ l := by
            cases l with
            | nil => simp at h2
            | cons x l => exact List.mem_cons_self
          have hq : ¬ ((rd_T31 l 0).f0 = 1 ∨ (rd_T31 l 0).f0 = 2) := fun g => by
            have := hkind _ hm g
            rw [Lib.toList_data, Lib.toList_data] at h3
            rw [h3] at this
            exact hk this
          rw [not_or] at hq
          simp [h1, h2, h3, hq.1, hq.2]
        · simp [h1, h2, h3]
      · simp [h1, h2]
    · simp [h1]
theorem TokenNames_calls (s : ByteArray) (w : World) (hW : FixW w) (hs : s.size ≤ 140737488351232) : Calls Tryd.prog 6 #[.string s] w fun e w' => e = .returned (.bool true) ∧ Below w.heap.size w w' :=
  PTk.tiltyardlaw08_TokenNames.calls s true w hW (TokenNames_pure s hs)
end Go.Proofs.YtklkikndcieojaaDoor
