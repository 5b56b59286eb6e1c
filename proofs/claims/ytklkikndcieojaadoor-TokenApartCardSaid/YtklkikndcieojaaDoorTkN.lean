/- TokenApart, plain. -/
import Derived.Test.YtklkikndcieojaaDoorTkJ
import Derived.Test.YtklkikndcieojaaDoorTkLApart
namespace Go.Proofs.YtklkikndcieojaaDoor
open Go.RowKit Go.Proofs.YtklkikndcieojaaDoorW.PrintWords Go.Proofs.YtklkikndcieojaaDoorW.PrintLast Go.Proofs.YtklkikndcieojaaDoorW.PrintMore
set_option linter.unusedVariables false
set_option linter.unusedSimpArgs false
open PTk
def JT (L : List S31) : List UInt8 := (L.map (fun t => t.f1.data.toList ++ [32])).flatten
def keyT (t : S31) : Int × ByteArray := (t.f0, t.f1)
theorem JT_cons (t : S31) (L : List S31) : JT (t :: L) = t.f1.data.toList ++ 32 :: JT L := by
  unfold JT
  rw [List.map_cons, List.flatten_cons, List.append_assoc]; rfl
theorem toks_apart : ∀ (n : Nat) (l : List UInt8) (a : Nat), l.length ≤ n → (toks l a).2 = none →
    ∃ L e, (toks l a).1 = L ++ [e] ∧ (JT L).length ≤ 2 * l.length ∧ ∀ b, ∃ M, toks (JT L) b = (M, none) ∧ M.map keyT = (L ++ [e]).map keyT
  | _, [], a, _, _ => ⟨[], ⟨6, ⟨#[]⟩, a⟩, by rw [toks_nil]; rfl, by simp [JT], fun b => ⟨[⟨6, ⟨#[]⟩, b⟩], by show toks [] b = _; rw [toks_nil], rfl⟩⟩
  | 0, c :: r, a, h, _ => by simp at h
  | n + 1, c :: r, a, h, hn => by
    rw [List.length_cons] at h
    by_cases h1 : c = 35
    · subst h1
      rw [toks_note] at hn ⊢
      have hp := note_pos r
      obtain ⟨L, e, g1, g2, g3⟩ := toks_apart n ((35 :: r).drop (lenW noteC (35 :: r))) (a + lenW noteC (35 :: r)) (by rw [List.length_drop, List.length_cons]; omega) hn
      rw [List.length_drop] at g2
      exact ⟨L, e, g1, by omega, g3⟩
    · cases h2 : blankC c with
      | true =>
        rw [toks_blank h1 h2] at hn ⊢
        obtain ⟨L, e, g1, g2, g3⟩ := toks_apart n r (a + 1) (by omega) hn
        exact ⟨L, e, g1, by rw [List.length_cons]; omega, g3⟩
      | false =>
        by_cases h3 : (pieceL (c :: r)).1 = 0
        · rw [toks_none h1 h2 _ _ h3] at hn; cases hn
        · obtain ⟨m, hm⟩ : ∃ m, (pieceL (c :: r)).1 = m + 1 := ⟨(pieceL (c :: r)).1 - 1, by omega⟩
          obtain ⟨k, hk⟩ : ∃ k, (pieceL (c :: r)).2 = k := ⟨_, rfl⟩
          have hp : pieceL (c :: r) = (m + 1, k) := by rw [← hm, ← hk]
          have hle := pieceL_le (c :: r)
          rw [hm, List.length_cons] at hle
          rw [toks_piece' c r a m k h1 h2 hp] at hn ⊢
          obtain ⟨L, e, g1, g2, g3⟩ := toks_apart n ((c :: r).drop (m + 1)) (a + (m + 1)) (by rw [List.length_drop, List.length_cons]; omega) hn
          rw [List.length_drop, List.length_cons] at g2
          have et : (c :: r).take (m + 1) = c :: r.take m := rfl
          refine ⟨⟨k, ⟨((c :: r).take (m + 1)).toArray⟩, a⟩ :: L, e, by rw [g1]; rfl, ?_, ?_⟩
          · rw [JT_cons]
            simp only [et, List.length_append, List.length_cons, List.length_take]
            omega
          · intro b
            obtain ⟨M, q1, q2⟩ := g3 (b + (m + 1) + 1)
            have hml : (r.take m).length = m := by rw [List.length_take]; omega
            have hq : pieceL (c :: (r.take m ++ 32 :: JT L)) = (m + 1, k) := (pieceL_sep sep32 c (r.take m) (JT L)).trans (pieceL_take hp)
            refine ⟨⟨k, ⟨(c :: r.take m).toArray⟩, b⟩ :: M, ?_, ?_⟩
            · rw [JT_cons]
              simp only [et]
              rw [List.cons_append, toks_piece' c _ b m k h1 h2 hq]
              have e1 : (c :: (r.take m ++ 32 :: JT L)).take (m + 1) = c :: r.take m := by
                rw [List.take_succ_cons, List.take_append_of_le_length (by omega), List.take_of_length_le (by omega)]
              have e2 : (c :: (r.take m ++ 32 :: JT L)).drop (m + 1) = 32 :: JT L := by
                rw [List.drop_succ_cons, List.drop_append_of_le_length (by omega), List.drop_of_length_le (by omega)]; rfl
              rw [e1, e2, toks_blank (by decide) (by decide), q1]
            · rw [List.map_cons, q2]; rfl
theorem JT_take_le (L : List S31) : ∀ i, (JT (L.take i)).length ≤ (JT L).length := by
  intro i
  have : JT L = JT (L.take i) ++ JT (L.drop i) := by
    unfold JT
    rw [← List.flatten_append, ← List.map_append, List.take_append_drop]
  rw [this, List.length_append]; omega
theorem JT_take_succ {L : List S31} {i : Nat} (h : i < L.length) : JT (L.take (i + 1)) = JT (L.take i) ++ ((rd_T31 L i).f1.data.toList ++ [32]) := by
  have hr : rd_T31 L i = L[i] := by
    unfold rd_T31
    simp only [Int.toNat_natCast, List.getD_eq_getElem?_getD]
    rw [List.getElem?_eq_getElem h]; rfl
  rw [hr, List.take_succ_eq_append_getElem h]
  unfold JT
  rw [List.map_append, List.flatten_append, List.map_singleton, List.flatten_singleton]
theorem key_rd {L M : List S31} (h : M.map keyT = L.map keyT) {i : Nat} (hi : i < L.length) : (rd_T31 M i).f0 = (rd_T31 L i).f0 ∧ (rd_T31 M i).f1 = (rd_T31 L i).f1 := by
  have hl : M.length = L.length := by have := congrArg List.length h; simpa using this
  have h1 : (M.map keyT)[i]? = (L.map keyT)[i]? := by rw [h]
  rw [List.getElem?_map, List.getElem?_map, List.getElem?_eq_getElem hi, List.getElem?_eq_getElem (by omega)] at h1
  have h2 := Option.some.inj h1
  have a1 : rd_T31 M i = M[i] := by
    unfold rd_T31
    simp only [Int.toNat_natCast, List.getD_eq_getElem?_getD]
    rw [List.getElem?_eq_getElem (by omega)]; rfl
  have a2 : rd_T31 L i = L[i] := by
    unfold rd_T31
    simp only [Int.toNat_natCast, List.getD_eq_getElem?_getD]
    rw [List.getElem?_eq_getElem hi]; rfl
  rw [a1, a2]
  exact ⟨congrArg Prod.fst h2, congrArg Prod.snd h2⟩
theorem apart_same {L M : List S31} (h : M.map keyT = L.map keyT) (hl : L.length ≤ 20000) : ∀ (m i : Nat), i + m = L.length → tiltyardlaw08_TokenApart.l1 (m + 1) L M (i : Int) = some true
  | 0, i, hi => by
    rw [tiltyardlaw08_TokenApart.l1]
    rw [if_neg (by omega)]
  | m + 1, i, hi => by
    have hm : M.length = L.length := by have := congrArg List.length h; simpa using this
    rw [tiltyardlaw08_TokenApart.l1]
    obtain ⟨k1, k2⟩ := key_rd h (i := i) (by omega)
    rw [if_pos (by omega), if_pos (by omega), if_pos (by omega), k1, k2, if_pos rfl, if_pos rfl, w64_small (by omega) (by omega)]
    have := apart_same h hl m (i + 1) (by omega)
    rw [show ((i + 1 : Nat) : Int) = (i : Int) + 1 by omega] at this
    exact this
theorem apart_loop {L : List S31} {e : S31} (hA : (JT L).length ≤ 2 * 16384) (hL : L.length ≤ 16385)
    (ha : ∃ M, toks (JT L) 0 = (M, none) ∧ M.map keyT = (L ++ [e]).map keyT) :
    ∀ (m i : Nat) (x : ByteArray), i + m = L.length → x.data.toList = JT (L.take i) → tiltyardlaw08_TokenApart.l0 (m + ((L.length + 1 + 1) + 1) + 1) (L ++ [e]) x (i : Int) = some true
  | 0, i, x, hi, hx => by
    obtain ⟨M, q1, q2⟩ := ha
    have hl : (L ++ [e]).length = L.length + 1 := by simp
    rw [List.take_of_length_le (by omega)] at hx
    have hsz : x.size = (JT L).length := by rw [Lib.size_eq, hx]
    have hml : M.length = L.length + 1 := by have := congrArg List.length q2; simpa using this
    rw [Nat.zero_add]
    rw [tiltyardlaw08_TokenApart.l0]
    rw [hl, w64_small (by omega) (by omega), if_neg (by omega), token_Tokens.f]
    simp only [Option.bind_some]
    by_cases hb : (x.size : Int) > 16384
    · rw [if_pos hb]
      unfold tokensF
      rw [if_pos (by omega)]
      rfl
    · rw [if_neg hb]
      have hT : tokensF x = (M, 0, 0) := by
        unfold tokensF
        rw [if_neg (by omega), hx, q1]
        rfl
      rw [hT]
      simp only
      rw [if_pos trivial, hml]
      simp only [tiltyardlaw08_TokenApart.j2]
      rw [if_neg (by simp)]
      have := apart_same q2 (by omega) (L.length + 1) 0 (by rw [hl]; omega)
      exact this
  | m + 1, i, x, hi, hx => by
    have hl : (L ++ [e]).length = L.length + 1 := by simp
    have hi' : i < L.length := by omega
    have hs := JT_take_succ hi'
    have hlen := JT_take_le L (i + 1)
    rw [hs] at hlen
    simp only [List.length_append, List.length_singleton] at hlen
    have hxs : x.size = (JT (L.take i)).length := by rw [Lib.size_eq, hx]
    have hts : (rd_T31 L i).f1.size = (rd_T31 L i).f1.data.toList.length := Lib.size_eq _
    rw [show m + 1 + ((L.length + 1 + 1) + 1) + 1 = (m + ((L.length + 1 + 1) + 1) + 1) + 1 by omega]
    rw [tiltyardlaw08_TokenApart.l0]
    rw [hl, w64_small (x := (((L.length + 1 : Nat) : Int) - 1)) (by omega) (by omega), if_pos (by omega), if_pos (by omega), if_pos (by omega), rd_app_l hi']
    rw [if_pos (by omega), if_pos (by rw [ByteArray.size_append]; omega), w64_small (x := (i : Int) + 1) (by omega) (by omega)]
    have := apart_loop hA hL ha m (i + 1) ((x ++ (rd_T31 L i).f1) ++ (⟨#[32]⟩ : ByteArray)) (by omega) (by
      rw [hs, ← hx]
      simp [ByteArray.data_append])
    rw [show ((i + 1 : Nat) : Int) = (i : Int) + 1 by omega] at this
    exact this
theorem TokenApart_pure : tiltyardlaw08_TokenApart.Pure := by
  intro a0 hs0
  obtain ⟨l1, c1, p1, e1⟩ : ∃ l c p, tokensF a0 = (l, c, p) := ⟨_, _, _, rfl⟩
  unfold tiltyardlaw08_TokenApart.f
  rw [awake_true, token_Tokens.f, e1]
  simp only [Option.bind_some, if_true]
  by_cases h1 : c1 = 0
  · subst h1
    obtain ⟨g1, g2, g3⟩ := tokensF_ok e1
    obtain ⟨L, e, q1, q2, q3⟩ := toks_apart _ a0.data.toList 0 (Nat.le_refl _) (by rw [g2])
    have n1 := toks_len _ a0.data.toList 0 (Nat.le_refl _)
    rw [g2] at q1 n1
    simp only at q1 n1
    subst q1
    rw [← Lib.size_eq] at n1 q2
    simp only [List.length_append, List.length_singleton] at n1
    refine ⟨(L.length + ((L.length + 1 + 1) + 1) + 1) + 1, ?_⟩
    rw [tiltyardlaw08_TokenApart.j0]
    rw [if_neg (by simp)]
    exact apart_loop (by omega) (by omega) (q3 0) L.length 0 ⟨#[]⟩ (by omega) rfl
  · refine ⟨1, ?_⟩
    simp [h1, tiltyardlaw08_TokenApart.j0]
theorem TokenApart_calls (s : ByteArray) (w : World) (hW : FixW w) (hs : s.size ≤ 140737488351232) : Calls Tryd.prog 5 #[.string s] w fun e w' => e = .returned (.bool true) ∧ Below w.heap.size w w' := by
  obtain ⟨k, h⟩ := TokenApart_pure s hs
  exact PTk.tiltyardlaw08_TokenApart.calls k s true w hW h
end Go.Proofs.YtklkikndcieojaaDoor
