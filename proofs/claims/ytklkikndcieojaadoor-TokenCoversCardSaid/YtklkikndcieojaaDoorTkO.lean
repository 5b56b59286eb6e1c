/- TokenCovers, plain. -/
import Derived.Test.YtklkikndcieojaaDoorTkJ
import Derived.Test.YtklkikndcieojaaDoorTkLCovers
namespace Go.Proofs.YtklkikndcieojaaDoor
open Go.RowKit Go.Proofs.YtklkikndcieojaaDoorW.PrintWords Go.Proofs.YtklkikndcieojaaDoorW.PrintLast Go.Proofs.YtklkikndcieojaaDoorW.PrintMore
set_option linter.unusedVariables false
set_option linter.unusedSimpArgs false
open PTk
/-- Bytes read as blanks: none where they are not; in a note or not. -/
def blankRun : Bool → List UInt8 → Option Bool
  | n, [] => some n
  | n, c :: r => if c = 10 then blankRun false r else if n then blankRun true r else if c = 35 then blankRun true r else if c = 9 ∨ c = 13 ∨ c = 32 then blankRun n r else none
theorem blankRun_app : ∀ (l l' : List UInt8) (n : Bool), blankRun n (l ++ l') = (blankRun n l).bind fun n' => blankRun n' l'
  | [], l', n => rfl
  | c :: l, l', n => by
    rw [List.cons_append, blankRun, blankRun]
    split
    · exact blankRun_app l l' false
    · split
      · exact blankRun_app l l' true
      · split
        · exact blankRun_app l l' true
        · split
          · exact blankRun_app l l' n
          · rfl
theorem bt_at {x : ByteArray} {i : Nat} (h : i < x.size) : Go.Proofs.YtklkikndcieojaaDoorW.PrintWords.bt x (i : Int) = ((x[i]).toNat : Int) := by
  unfold Go.Proofs.YtklkikndcieojaaDoorW.PrintWords.bt
  rw [dif_pos (by simpa using h)]
  rfl
theorem byte_eq {c : UInt8} {k : Nat} (hk : k < 256) : ((c.toNat : Int) = (k : Int)) ↔ c = UInt8.ofNat k := by
  constructor
  · intro h
    apply UInt8.toNat_inj.1
    rw [UInt8.toNat_ofNat']
    omega
  · rintro rfl
    rw [UInt8.toNat_ofNat']
    omega
theorem blank_l0 (x : ByteArray) (hx : x.size ≤ 1000000) : ∀ (m i : Nat) (n : Bool) (k : Nat), i + m = x.size → m + 1 ≤ k → tiltyardlaw08_blank.l0 k x n (i : Int) = some (blankRun n (x.data.toList.drop i)).isSome
  | 0, i, n, k, hi, hk => by
    obtain ⟨k, rfl⟩ : ∃ q, k = q + 1 := ⟨k - 1, by omega⟩
    rw [tiltyardlaw08_blank.l0, if_neg (by omega), List.drop_of_length_le (by rw [← Lib.size_eq]; omega)]
    rfl
  | m + 1, i, n, k, hi, hk => by
    obtain ⟨k, rfl⟩ : ∃ q, k = q + 1 := ⟨k - 1, by omega⟩
    have hlt : i < x.size := by omega
    rw [tiltyardlaw08_blank.l0, if_pos (by omega), if_pos (by omega), bt_at hlt, drop_cons hlt]
    have hn : wrap64 ((i : Int) + 1) = ((i + 1 : Nat) : Int) := by rw [w64_small (by omega) (by omega)]; omega
    rw [hn]
    have IH := fun n' => blank_l0 x hx m (i + 1) n' k (by omega) (by omega)
    rw [IH, IH, IH]
    generalize x[i] = c
    have e10 : ((c.toNat : Int) = 10) ↔ c = 10 := byte_eq (k := 10) (by decide)
    have e35 : ((c.toNat : Int) = 35) ↔ c = 35 := byte_eq (k := 35) (by decide)
    have e9 : ((c.toNat : Int) = 9) ↔ c = 9 := byte_eq (k := 9) (by decide)
    have e13 : ((c.toNat : Int) = 13) ↔ c = 13 := byte_eq (k := 13) (by decide)
    have e32 : ((c.toNat : Int) = 32) ↔ c = 32 := byte_eq (k := 32) (by decide)
    rw [blankRun]
    by_cases h10 : c = 10
    · rw [if_pos (e10.2 h10), if_pos h10]
    · rw [if_neg (fun g => h10 (e10.1 g)), if_neg h10]
      cases n with
      | true => rfl
      | false =>
        rw [if_neg (show ¬ (false = true) by decide), if_neg (show ¬ (false = true) by decide)]
        by_cases h35 : c = 35
        · rw [if_pos (e35.2 h35), if_pos h35]
        · rw [if_neg (fun g => h35 (e35.1 g)), if_neg h35]
          by_cases h9 : c = 9
          · rw [if_pos (e9.2 h9), if_pos (Or.inl h9)]
          · rw [if_neg (fun g => h9 (e9.1 g))]
            by_cases h13 : c = 13
            · rw [if_pos (e13.2 h13), if_pos (Or.inr (Or.inl h13))]
            · rw [if_neg (fun g => h13 (e13.1 g))]
              by_cases h32 : c = 32
              · rw [if_pos (e32.2 h32), if_pos (Or.inr (Or.inr h32))]
              · rw [if_neg (fun g => h32 (e32.1 g)), if_neg (fun g => g.elim h9 (fun g => g.elim h13 h32))]
                rfl
theorem cov_note : ∀ l : List UInt8, (∀ c ∈ l, noteC c = true) → blankRun true l = some true
  | [], _ => rfl
  | c :: l, h => by
    have h10 : c ≠ 10 := by
      have := h c List.mem_cons_self
      rintro rfl
      revert this; decide
    rw [blankRun, if_neg h10, if_pos rfl]
    exact cov_note l (fun d hd => h d (List.mem_cons_of_mem _ hd))
theorem toks_last : ∀ (n : Nat) (l : List UInt8) (a : Nat), l.length ≤ n → (toks l a).2 = none → (toks l a).1.getLast? = some ⟨6, ⟨#[]⟩, ((a + l.length : Nat) : Int)⟩
  | _, [], a, _, _ => by rw [toks_nil]; rfl
  | 0, c :: r, a, h, _ => by simp at h
  | n + 1, c :: r, a, h, hn => by
    rw [List.length_cons] at h
    by_cases h1 : c = 35
    · subst h1
      rw [toks_note] at hn ⊢
      have hp := note_pos r
      have hl := lenW_le noteC (35 :: r)
      rw [toks_last n _ _ (by rw [List.length_drop, List.length_cons]; omega) hn, List.length_drop]
      rw [show a + lenW noteC (35 :: r) + ((35 :: r).length - lenW noteC (35 :: r)) = a + (35 :: r).length by omega]
    · cases h2 : blankC c with
      | true =>
        rw [toks_blank h1 h2] at hn ⊢
        rw [toks_last n r (a + 1) (by omega) hn, List.length_cons, show a + 1 + r.length = a + (r.length + 1) by omega]
      | false =>
        by_cases h3 : (pieceL (c :: r)).1 = 0
        · rw [toks_none h1 h2 _ _ h3] at hn; cases hn
        · rw [toks_piece h1 h2 _ _ h3] at hn ⊢
          have hle := pieceL_le (c :: r)
          have g := toks_last n ((c :: r).drop (pieceL (c :: r)).1) (a + (pieceL (c :: r)).1) (by rw [List.length_drop, List.length_cons]; omega) hn
          rw [List.length_drop, show a + (pieceL (c :: r)).1 + ((c :: r).length - (pieceL (c :: r)).1) = a + (c :: r).length by omega] at g
          rw [List.getLast?_cons, g]; rfl
theorem rd_drop {T : List S31} {i : Nat} {t : S31} {r : List S31} (h : T.drop i = t :: r) : rd_T31 T i = t ∧ i < T.length ∧ T.drop (i + 1) = r := by
  have hi : i < T.length := by
    rcases Nat.lt_or_ge i T.length with g | g
    · exact g
    · rw [List.drop_of_length_le g] at h; cases h
  rw [List.drop_eq_getElem_cons hi] at h
  injection h with h1 h2
  refine ⟨?_, hi, h2⟩
  unfold rd_T31
  simp only [Int.toNat_natCast, List.getD_eq_getElem?_getD]
  rw [List.getElem?_eq_getElem hi]
  exact h1
/-- One step of the law's loop, where a token stands well. -/
theorem covers_step (x : ByteArray) (hx : x.size ≤ 16384) (T : List S31) (hT : T.length ≤ 20000) (p a i n : Nat) (k : Int) (F : Nat) (note : Bool)
    (ht : rd_T31 T i = ⟨k, x.extract a (a + n), (a : Int)⟩) (hi : i < T.length) (hp : p ≤ a) (ha : a + n ≤ x.size) (hF : x.size + 1 ≤ F)
    (hrun : blankRun false ((x.data.toList.drop p).take (a - p)) = some note) (hl : n = 0 ↔ i + 1 = T.length)
    (hgo : tiltyardlaw08_TokenCovers.l0 F x T ((a + n : Nat) : Int) ((i + 1 : Nat) : Int) = some true) : tiltyardlaw08_TokenCovers.l0 (F + 1 + 1) x T (p : Int) (i : Int) = some true := by
  have hes : (x.extract a (a + n)).size = n := by rw [ByteArray.size_extract]; omega
  rw [tiltyardlaw08_TokenCovers.l0, if_pos (by omega), if_pos (by omega)]
  simp only [ht, hes]
  rw [if_neg (by omega), if_neg (by omega), w64_small (x := (x.size : Int) - a) (by omega) (by omega), if_neg (by omega), if_pos (by omega)]
  rw [w64_small (x := (a : Int) + n) (by omega) (by omega), if_pos (by omega), if_pos (by omega)]
  rw [show ((a : Int).toNat) = a from rfl, show ((a : Int) + (n : Int)).toNat = a + n by omega, if_pos rfl]
  rw [w64_small (x := (T.length : Int) - 1) (by omega) (by omega)]
  have hb : ((x.extract a (a + n)).toList == ([] : List UInt8)) = decide (n = 0) := by
    rw [beq_nil, Lib.toList_data, Lib.extract_data, Bool.eq_iff_iff, List.isEmpty_iff_length_eq_zero, List.length_take, List.length_drop, ← Lib.size_eq, decide_eq_true_eq]
    omega
  have hc : ((i : Int) == (T.length : Int) - 1) = decide (n = 0) := by
    rw [Bool.eq_iff_iff, beq_iff_eq, decide_eq_true_eq, hl]
    omega
  rw [hb, hc, show (decide (n = 0) != decide (n = 0)) = false by simp]
  rw [tiltyardlaw08_TokenCovers.j2]
  have hbl : tiltyardlaw08_blank.f F (x.extract (p : Int).toNat ((a : Int).toNat)) = some true := by
    unfold tiltyardlaw08_blank.f
    have hz : (x.extract p a).size = a - p := by rw [ByteArray.size_extract]; omega
    have := blank_l0 (x.extract p a) (by omega) (a - p) 0 false F (by omega) (by omega)
    rw [List.drop_zero, Lib.extract_data, hrun] at this
    exact this
  rw [if_neg (by simp), if_pos (by omega), if_pos (by omega), if_pos (by omega), hbl]
  simp only [Option.bind_some, if_true, hes]
  rw [w64_small (x := (a : Int) + n) (by omega) (by omega), w64_small (x := (i : Int) + 1) (by omega) (by omega)]
  exact hgo
theorem take_step (A : List UInt8) (p a d : Nat) (h : p ≤ a) : (A.drop p).take (a + d - p) = (A.drop p).take (a - p) ++ (A.drop a).take d := by
  rw [show a + d - p = (a - p) + d by omega, List.take_add, List.drop_drop, show p + (a - p) = a by omega]
theorem covers_run (x : ByteArray) (hx : x.size ≤ 16384) (T : List S31) (hT : T.length ≤ 20000) :
    ∀ (n : Nat) (l : List UInt8) (a p i F : Nat) (note : Bool), l.length ≤ n → x.data.toList.drop a = l → a ≤ x.size → p ≤ a → (toks l a).2 = none → T.drop i = (toks l a).1 →
      blankRun false ((x.data.toList.drop p).take (a - p)) = some note → (note = true → l = [] ∨ l.head? = some 10) → 2 * (T.length - i) + x.size + 3 ≤ F → tiltyardlaw08_TokenCovers.l0 F x T (p : Int) (i : Int) = some true
  | n, [], a, p, i, F, note, hl, hA, ha, hp, hn, hd, hr, hq, hF => by
    have hlen : x.data.toList.length ≤ a := by
      have := congrArg List.length hA
      rw [List.length_drop, List.length_nil] at this; omega
    rw [← Lib.size_eq] at hlen
    obtain rfl : a = x.size := by omega
    rw [toks_nil] at hd
    obtain ⟨g1, g2, g3⟩ := rd_drop hd
    have hi1 : i + 1 = T.length := by
      have := congrArg List.length g3
      rw [List.length_drop, List.length_nil] at this; omega
    obtain ⟨F, rfl⟩ : ∃ q, F = q + 1 + 1 := ⟨F - 2, by omega⟩
    have hex : x.extract x.size (x.size + 0) = ⟨#[]⟩ := by
      apply ByteArray.ext; apply Array.ext'
      rw [Lib.extract_data]; simp
    refine covers_step x hx T hT p x.size i 0 6 F note (by rw [g1, hex]) g2 hp (by omega) (by omega) hr (by omega) ?_
    obtain ⟨F, rfl⟩ : ∃ q, F = q + 1 := ⟨F - 1, by omega⟩
    rw [tiltyardlaw08_TokenCovers.l0, if_neg (by omega), if_pos (by omega), w64_small (x := (T.length : Int) - 1) (by omega) (by omega), if_pos (by omega), if_pos (by omega)]
    rw [show (T.length : Int) - 1 = (i : Int) by omega, g1]
    simp
  | 0, c :: r, a, p, i, F, note, hl, _, _, _, _, _, _, _, _ => by simp at hl
  | n + 1, c :: r, a, p, i, F, note, hl, hA, ha, hp, hn, hd, hr, hq, hF => by
    rw [List.length_cons] at hl
    have hlen : x.size - a = r.length + 1 := by
      have := congrArg List.length hA
      rw [List.length_drop, ← Lib.size_eq, List.length_cons] at this; omega
    by_cases h1 : c = 35
    · subst h1
      rw [toks_note] at hn hd
      have hp1 := note_pos r
      have hl1 := lenW_le noteC (35 :: r)
      have hnf : note = false := by
        cases note with
        | false => rfl
        | true => rcases hq rfl with g | g <;> simp at g
      subst hnf
      have hall := lenW_take noteC (35 :: r)
      have hstop := lenW_stop noteC (35 :: r)
      have hll : (35 :: r : List UInt8).length = r.length + 1 := rfl
      rw [List.length_cons] at hl1
      generalize hd0 : lenW noteC (35 :: r) = d at *
      obtain ⟨d, rfl⟩ : ∃ q, d = q + 1 := ⟨d - 1, by omega⟩
      refine covers_run x hx T hT n ((35 :: r).drop (d + 1)) (a + (d + 1)) p i F true (by rw [List.length_drop, List.length_cons]; omega) (by rw [← List.drop_drop, hA]) (by omega) (by omega) hn hd ?_ ?_ hF
      · rw [take_step _ _ _ _ hp, hA, blankRun_app, hr, Option.bind_some, List.take_succ_cons, blankRun, if_neg (by decide), if_neg (by decide), if_pos rfl]
        refine cov_note _ (fun c hc => hall c ?_)
        rw [List.take_succ_cons]
        exact List.mem_cons_of_mem _ hc
      · intro _
        rcases Nat.lt_or_ge (d + 1) (r.length + 1) with g | g
        · right
          have h2 := hstop (by rw [hll]; exact g)
          rw [List.head?_drop, List.getElem?_eq_getElem (by rw [List.length_cons]; exact g)]
          unfold noteC at h2
          simp only [Bool.not_eq_false', decide_eq_true_eq] at h2
          exact congrArg some (UInt8.toNat_inj.1 h2)
        · left
          exact List.drop_of_length_le (by rw [List.length_cons]; exact g)
    · have hA1 : x.data.toList.drop (a + 1) = r := by rw [← List.drop_drop, hA]; rfl
      cases h2 : blankC c with
      | true =>
        rw [toks_blank h1 h2] at hn hd
        refine covers_run x hx T hT n r (a + 1) p i F false (by omega) hA1 (by omega) (by omega) hn hd ?_ (fun g => by cases g) hF
        rw [take_step _ _ _ _ hp, hA, blankRun_app, hr, Option.bind_some, List.take_succ_cons, List.take_zero, blankRun]
        by_cases h10 : c = 10
        · rw [if_pos h10]; rfl
        · have hnf : note = false := by
            cases note with
            | false => rfl
            | true => rcases hq rfl with g | g <;> simp at g; exact absurd g h10
          subst hnf
          unfold blankC at h2
          simp only [Bool.or_eq_true, decide_eq_true_eq] at h2
          rw [if_neg h10, if_neg (by decide), if_neg h1, if_pos (h2.elim (fun h => h.elim (fun h => h.elim Or.inl (fun g => absurd g h10)) (fun g => Or.inr (Or.inl g))) (fun g => Or.inr (Or.inr g)))]
          rfl
      | false =>
        by_cases h3 : (pieceL (c :: r)).1 = 0
        · rw [toks_none h1 h2 _ _ h3] at hn; cases hn
        · obtain ⟨m, hm⟩ : ∃ m, (pieceL (c :: r)).1 = m + 1 := ⟨(pieceL (c :: r)).1 - 1, by omega⟩
          obtain ⟨k, hk⟩ : ∃ k, (pieceL (c :: r)).2 = k := ⟨_, rfl⟩
          have hpc : pieceL (c :: r) = (m + 1, k) := by rw [← hm, ← hk]
          have hle := pieceL_le (c :: r)
          rw [hm, List.length_cons] at hle
          rw [toks_piece' c r a m k h1 h2 hpc] at hn hd
          obtain ⟨g1, g2, g3⟩ := rd_drop hd
          have hlast := toks_last n ((c :: r).drop (m + 1)) (a + (m + 1)) (by rw [List.length_drop, List.length_cons]; omega) hn
          have hlt : i + 1 < T.length := by
            rcases Nat.lt_or_ge (i + 1) T.length with g | g
            · exact g
            · rw [List.drop_of_length_le g] at g3
              rw [← g3] at hlast; cases hlast
          have hex : x.extract a (a + (m + 1)) = ⟨((c :: r).take (m + 1)).toArray⟩ := by
            apply ByteArray.ext; apply Array.ext'
            rw [Lib.extract_data, hA, Nat.add_sub_cancel_left]
          obtain ⟨F, rfl⟩ : ∃ q, F = q + 1 + 1 := ⟨F - 2, by omega⟩
          refine covers_step x hx T hT p a i (m + 1) k F note (by rw [g1, hex]) g2 hp (by omega) (by omega) hr (by omega) ?_
          refine covers_run x hx T hT n ((c :: r).drop (m + 1)) (a + (m + 1)) (a + (m + 1)) (i + 1) F false (by rw [List.length_drop, List.length_cons]; omega) (by rw [← List.drop_drop, hA]) (by omega) (Nat.le_refl _) hn g3 ?_ (fun g => by cases g) (by omega)
          rw [Nat.sub_self, List.take_zero]; rfl
theorem TokenCovers_pure : tiltyardlaw08_TokenCovers.Pure := by
  intro a0 hs0
  obtain ⟨l1, c1, p1, e1⟩ : ∃ l c p, tokensF a0 = (l, c, p) := ⟨_, _, _, rfl⟩
  unfold tiltyardlaw08_TokenCovers.f
  rw [awake_true, token_Tokens.f, e1]
  simp only [Option.bind_some, if_true]
  by_cases h1 : c1 = 0
  · subst h1
    obtain ⟨g1, g2, g3⟩ := tokensF_ok e1
    have n1 := toks_len _ a0.data.toList 0 (Nat.le_refl _)
    rw [g2, ← Lib.size_eq] at n1
    simp only at n1
    refine ⟨(2 * (l1.length - 0) + a0.size + 3) + 1, ?_⟩
    rw [tiltyardlaw08_TokenCovers.j0, if_neg (by simp)]
    exact covers_run a0 g1 l1 (by omega) _ a0.data.toList 0 0 0 _ false (Nat.le_refl _) (List.drop_zero) (Nat.zero_le _) (Nat.le_refl _) (by rw [g2]) (by rw [g2]; rfl) (by rfl) (fun g => by cases g) (Nat.le_refl _)
  · have hl0 : l1 = [] := by
      unfold tokensF at e1
      split at e1
      · injection e1 with h _; exact h.symm
      · cases he : toks a0.data.toList 0 with
        | mk l2 o =>
          rw [he] at e1
          cases o with
          | none => injection e1 with _ h; injection h with h2; exact absurd h2.symm h1
          | some q => injection e1 with h _; exact h.symm
    subst hl0
    refine ⟨1, ?_⟩
    rw [tiltyardlaw08_TokenCovers.j0, if_pos (by simpa using h1), if_pos rfl]
    rfl
theorem TokenCovers_calls (s : ByteArray) (w : World) (hW : FixW w) (hs : s.size ≤ 140737488351232) : Calls Tryd.prog 4 #[.string s] w fun e w' => e = .returned (.bool true) ∧ Below w.heap.size w w' := by
  obtain ⟨k, h⟩ := TokenCovers_pure s hs
  exact PTk.tiltyardlaw08_TokenCovers.calls k s true w hW h
end Go.Proofs.YtklkikndcieojaaDoor
