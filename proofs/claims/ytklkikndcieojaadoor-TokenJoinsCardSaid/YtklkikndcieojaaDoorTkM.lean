/- TokenJoins, plain. -/
import Derived.Test.YtklkikndcieojaaDoorTkJ
import Derived.Test.YtklkikndcieojaaDoorTkLJoins
namespace Go.Proofs.YtklkikndcieojaaDoor
open Go.RowKit Go.Proofs.YtklkikndcieojaaDoorW.PrintWords Go.Proofs.YtklkikndcieojaaDoorW.PrintLast Go.Proofs.YtklkikndcieojaaDoorW.PrintMore
set_option linter.unusedVariables false
set_option linter.unusedSimpArgs false
open PTk
theorem joins_loop (a0 : ByteArray) (L l2 : List S31) (e : S31) (hs : a0.size ≤ 16384) (hL : L.length ≤ 20000) (h2 : l2.length ≤ 20000) (hat : ∀ t ∈ l2, 0 ≤ t.f2 ∧ t.f2 ≤ 16384) :
    ∀ (m i : Nat), i + m = L.length + l2.length → tiltyardlaw08_TokenJoins.l0 (m + 1) a0 (L ++ [e]) l2 (L ++ l2.map (shiftT ((a0.size : Int) + 1))) (i : Int) = some true
  | 0, i, h => by
    rw [tiltyardlaw08_TokenJoins.l0]
    rw [if_neg (by rw [List.length_append, List.length_map]; omega)]
  | m + 1, i, h => by
    rw [tiltyardlaw08_TokenJoins.l0]
    have e1 : ((L ++ [e]).length : Int) = (L.length : Int) + 1 := by rw [List.length_append, List.length_singleton]; omega
    rw [if_pos (by rw [List.length_append, List.length_map]; omega), e1]
    rw [show (L.length : Int) + 1 - 1 = L.length by omega, w64_small (x := (L.length : Int)) (by omega) (by omega)]
    have hn : wrap64 ((i : Int) + 1) = ((i + 1 : Nat) : Int) := by rw [w64_small (by omega) (by omega)]; omega
    rw [hn]
    by_cases hi : i < L.length
    · rw [if_pos (by omega), if_pos (by omega), if_pos (by omega)]
      rw [rd_app_l hi, rd_app_l hi, if_neg (by simp)]
      exact joins_loop a0 L l2 e hs hL h2 hat m (i + 1) (by omega)
    · have hw : wrap64 ((wrap64 ((i : Int) - ((L.length : Int) + 1))) + 1) = ((i - L.length : Nat) : Int) := by
        rw [w64_small (x := (i : Int) - ((L.length : Int) + 1)) (by omega) (by omega), w64_small (by omega) (by omega)]; omega
      rw [if_neg (by omega), hw, if_pos (by omega), if_pos (by omega), if_pos (by omega)]
      have hb : i - L.length < l2.length := by omega
      rw [rd_app_r (by omega), rd_map hb]
      have hr := hat _ (rd_mem hb)
      generalize rd_T31 l2 ((i - L.length : Nat) : Int) = t at hr
      have hq : wrap64 ((wrap64 (t.f2 + (a0.size : Int))) + 1) = (shiftT ((a0.size : Int) + 1) t).f2 := by
        rw [w64_small (x := t.f2 + (a0.size : Int)) (by omega) (by omega), w64_small (by omega) (by omega)]
        unfold shiftT; simp only; omega
      rw [hq, if_neg (by simp [shiftT])]
      exact joins_loop a0 L l2 e hs hL h2 hat m (i + 1) (by omega)
theorem joined_data (a b : ByteArray) : ((a ++ (⟨#[10]⟩ : ByteArray)) ++ b).data.toList = a.data.toList ++ 10 :: b.data.toList := by
  simp [ByteArray.data_append]
theorem tokens_join (a0 a1 : ByteArray) (l1 l2 : List S31) (g2 : toks a0.data.toList 0 = (l1, none)) (k2 : toks a1.data.toList 0 = (l2, none)) (hs : a0.size + 1 + a1.size ≤ 16384) :
    ∃ L e, l1 = L ++ [e] ∧ tokensF ((a0 ++ (⟨#[10]⟩ : ByteArray)) ++ a1) = (L ++ l2.map (shiftT ((a0.size : Int) + 1)), 0, 0) := by
  obtain ⟨L, e, q1, q2⟩ := toks_joined a1.data.toList a0.data.toList.length a0.data.toList 0 (Nat.le_refl _) (by rw [g2])
  rw [g2] at q1
  refine ⟨L, e, q1, ?_⟩
  have hsh := toks_shift (a0.data.toList.length + 1) a1.data.toList.length a1.data.toList 0 (Nat.le_refl _)
  rw [k2] at hsh
  rw [show 0 + a0.data.toList.length + 1 = 0 + (a0.data.toList.length + 1) by omega, hsh] at q2
  have hd : ((a0.data.toList.length + 1 : Nat) : Int) = (a0.size : Int) + 1 := by rw [← Lib.size_eq]; omega
  rw [hd] at q2
  have hsz : ((a0 ++ (⟨#[10]⟩ : ByteArray)) ++ a1).size = a0.size + 1 + a1.size := by
    rw [ByteArray.size_append, ByteArray.size_append]; rfl
  unfold tokensF
  rw [if_neg (by rw [hsz]; omega), joined_data, q2]
  rfl
theorem TokenJoins_pure : tiltyardlaw08_TokenJoins.Pure := by
  intro a0 a1 hs0 hs1
  obtain ⟨l1, c1, p1, e1⟩ : ∃ l c p, tokensF a0 = (l, c, p) := ⟨_, _, _, rfl⟩
  obtain ⟨l2, c2, p2, e2⟩ : ∃ l c p, tokensF a1 = (l, c, p) := ⟨_, _, _, rfl⟩
  unfold tiltyardlaw08_TokenJoins.f
  rw [awake_true, token_Tokens.f, token_Tokens.f, e1, e2]
  simp only [Option.bind_some, if_true]
  by_cases h1 : c1 = 0
  · by_cases h2 : c2 = 0
    · subst h1 h2
      obtain ⟨g1, g2, g3⟩ := tokensF_ok e1
      obtain ⟨k1, k2, k3⟩ := tokensF_ok e2
      have hw : wrap64 ((wrap64 ((a0.size : Int) + (a1.size : Int))) + 1) = (a0.size : Int) + a1.size + 1 := by
        rw [w64_small (x := (a0.size : Int) + a1.size) (by omega) (by omega), w64_small (by omega) (by omega)]
      simp only [if_true, hw]
      by_cases hb : (a0.size : Int) + a1.size + 1 > 16384
      · refine ⟨1, ?_⟩
        simp only [tiltyardlaw08_TokenJoins.j0, decide_eq_true hb, if_true]
      · obtain ⟨L, e, q1, hT⟩ := tokens_join a0 a1 l1 l2 g2 k2 (by omega)
        subst q1
        have n1 := toks_len _ a0.data.toList 0 (Nat.le_refl _)
        have n2 := toks_len _ a1.data.toList 0 (Nat.le_refl _)
        rw [g2, ← Lib.size_eq] at n1
        rw [k2, ← Lib.size_eq] at n2
        simp only [List.length_append, List.length_singleton] at n1
        simp only at n2
        have hat : ∀ t ∈ l2, 0 ≤ t.f2 ∧ t.f2 ≤ 16384 := by
          intro t ht
          have g := toks_at _ a1.data.toList 0 (Nat.le_refl _) t (by rw [k2]; exact ht)
          rw [← Lib.size_eq] at g
          omega
        refine ⟨(L.length + l2.length + 1) + 1 + 1, ?_⟩
        have hdb : decide ((a0.size : Int) + a1.size + 1 > 16384) = false := decide_eq_false hb
        rw [hdb, tiltyardlaw08_TokenJoins.j0, if_neg (show ¬ (false = true) by decide), if_pos (show a0.size + 1 ≤ 9223372036854775807 by omega), if_pos (show (a0 ++ (⟨#[10]⟩ : ByteArray)).size + a1.size ≤ 9223372036854775807 by rw [ByteArray.size_append]; have : (⟨#[10]⟩ : ByteArray).size = 1 := rfl; omega), token_Tokens.f, hT]
        rw [Option.bind_some, if_pos (show ((L ++ l2.map (shiftT ((a0.size : Int) + 1)), (0 : Int), (0 : Int)) : List S31 × Int × Int).2.1 = 0 from rfl)]
        show tiltyardlaw08_TokenJoins.j1 _ a0 (L ++ [e]) l2 (L ++ l2.map (shiftT ((a0.size : Int) + 1))) (((L ++ l2.map (shiftT ((a0.size : Int) + 1))).length : Int) != wrap64 ((wrap64 (((L ++ [e]).length : Int) + (l2.length : Int))) - 1)) = _
        have hw2 : ((L ++ l2.map (shiftT ((a0.size : Int) + 1))).length : Int) = wrap64 ((wrap64 (((L ++ [e]).length : Int) + (l2.length : Int))) - 1) := by
          simp only [List.length_append, List.length_map, List.length_singleton]
          rw [w64_small (x := (((L.length + 1 : Nat) : Int) + (l2.length : Int))) (by omega) (by omega), w64_small (by omega) (by omega)]
          omega
        rw [hw2]
        simp only [tiltyardlaw08_TokenJoins.j1]
        rw [if_neg (by simp)]
        exact joins_loop a0 L l2 e g1 (by omega) (by omega) hat (L.length + l2.length) 0 (by omega)
    · refine ⟨1, ?_⟩
      simp [h1, h2, tiltyardlaw08_TokenJoins.j0]
  · refine ⟨1, ?_⟩
    simp [h1, tiltyardlaw08_TokenJoins.j0]
theorem TokenJoins_calls (s t : ByteArray) (w : World) (hW : FixW w) (hs : s.size ≤ 140737488351232) (ht : t.size ≤ 140737488351232) : Calls Tryd.prog 7 #[.string s, .string t] w fun e w' => e = .returned (.bool true) ∧ Below w.heap.size w w' := by
  obtain ⟨k, h⟩ := TokenJoins_pure s t hs ht
  exact PTk.tiltyardlaw08_TokenJoins.calls k s t true w hW h
end Go.Proofs.YtklkikndcieojaaDoor
