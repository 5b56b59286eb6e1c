/- Merged: RfP RfQ -/
import Derived.Test.YtklkikndcieojaaDoorFpR
import Derived.Test.YtklkikndcieojaaDoorFixV
/- The document's Parse answers as the program's does: plain law. -/
namespace Go.Proofs.YtklkikndcieojaaDoor
open Go.RowKit Go.Proofs.YtklkikndcieojaaDoorW.PrintWords Go.Proofs.YtklkikndcieojaaDoorW.PrintLast Go.Proofs.YtklkikndcieojaaDoorW.PrintMore
set_option linter.unusedVariables false
set_option linter.unusedSimpArgs false
open PTk
instance (l : List Int) : Decidable (Digs l) := by unfold Digs; infer_instance
instance (a b : ByteArray) : Decidable (GoodP a b) := by unfold GoodP; infer_instance
/-- How many digits stand at a row's front. -/
def digN : List Int → Nat
  | [] => 0
  | c :: l => if 48 ≤ c ∧ c ≤ 57 then digN l + 1 else 0
theorem digN_le : ∀ l : List Int, digN l ≤ l.length
  | [] => Nat.le_refl _
  | c :: l => by unfold digN; split; · have := digN_le l; simp; omega
                 · simp
theorem digN_digs : ∀ l : List Int, Digs (l.take (digN l))
  | [] => by intro c hc; simp [digN] at hc
  | c :: l => by
    unfold digN; split
    · next h =>
      rw [List.take_succ_cons]
      intro x hx
      rcases List.mem_cons.1 hx with rfl | hx
      · exact h
      · exact digN_digs l x hx
    · intro x hx; simp at hx
theorem digN_stop : ∀ (l : List Int) (h : digN l < l.length), ¬ (48 ≤ l[digN l] ∧ l[digN l] ≤ 57)
  | [], h => by simp at h
  | c :: l, h => by
    by_cases hc : 48 ≤ c ∧ c ≤ 57
    · have e : digN (c :: l) = digN l + 1 := by rw [digN, if_pos hc]
      rw [e] at h
      have := digN_stop l (by simpa using h)
      simp only [e, List.getElem_cons_succ]
      exact this
    · have e : digN (c :: l) = 0 := by rw [digN, if_neg hc]
      simp only [e, List.getElem_cons_zero]
      exact hc
theorem digN_all {l : List Int} (h : Digs l) : digN l = l.length := by
  have := digN_le l
  by_cases e : digN l < l.length
  · exact absurd (h _ (List.getElem_mem e)) (digN_stop l e)
  · omega
theorem digN_app : ∀ (a b : List Int), Digs a → digN (a ++ b) = a.length + digN b
  | [], b, _ => by simp
  | c :: a, b, h => by
    rw [List.cons_append, digN, if_pos (h c List.mem_cons_self), digN_app a b (fun x hx => h x (List.mem_cons_of_mem _ hx))]
    simp; omega
theorem w64 {x : Int} (h0 : -9223372036854775808 ≤ x) (h1 : x ≤ 9223372036854775807) : wrap64 x = x := wrap64_in h0 h1
theorem rd_bt (s : ByteArray) (i : Nat) : Go.Proofs.YtklkikndcieojaaDoorW.PrintWords.bt s (i : Int) = rd (bytesOf s) (i : Int) := (rd_bytesOf s i).symm
theorem rdigits_l (s : ByteArray) (hs : s.size ≤ 140737488355328) (at_ : Nat) (ha : at_ ≤ s.size) : ∀ (d j k : Nat), at_ + j ≤ s.size → s.size - (at_ + j) = d → d < k → digN ((bytesOf s).drop at_) = j + digN ((bytesOf s).drop (at_ + j)) →
    tiltyardref03_digits.l0 k s at_ j = some (digN ((bytesOf s).drop at_) : Int) := by
  intro d
  induction d with
  | zero =>
    intro j k h1 h2 h3 h4
    obtain ⟨k, rfl⟩ : ∃ m, k = m + 1 := ⟨k - 1, by omega⟩
    have hlen : (bytesOf s).length = s.size := bytesOf_length s
    simp only [tiltyardref03_digits.l0]
    rw [w64 (by omega) (by omega), if_neg (by omega), h4, List.drop_eq_nil_of_le (by omega)]
    simp [digN]
  | succ d ih =>
    intro j k h1 h2 h3 h4
    obtain ⟨k, rfl⟩ : ∃ m, k = m + 1 := ⟨k - 1, by omega⟩
    have hlen : (bytesOf s).length = s.size := bytesOf_length s
    have hlt : at_ + j < (bytesOf s).length := by omega
    have hc : (bytesOf s).drop (at_ + j) = (bytesOf s)[at_ + j] :: (bytesOf s).drop (at_ + j + 1) := List.drop_eq_getElem_cons hlt
    have hb : Go.Proofs.YtklkikndcieojaaDoorW.PrintWords.bt s ((at_ : Int) + (j : Int)) = (bytesOf s)[at_ + j] := by
      rw [← Int.natCast_add, rd_bt, rd_get' hlt]
    simp only [tiltyardref03_digits.l0]
    rw [w64 (x := (at_ : Int) + (j : Int)) (by omega) (by omega), if_pos (by omega), if_pos (by omega), hb]
    by_cases hd : 48 ≤ (bytesOf s)[at_ + j] ∧ (bytesOf s)[at_ + j] ≤ 57
    · rw [if_pos hd.1, if_pos hd.2, w64 (by omega) (by omega)]
      have := ih (j + 1) k (by omega) (by omega) (by omega) (by rw [h4, hc, digN, if_pos hd]; rw [show at_ + (j + 1) = at_ + j + 1 from by omega]; omega)
      exact_mod_cast this
    · have e : digN ((bytesOf s).drop at_) = j := by rw [h4, hc, digN, if_neg hd]; rfl
      rw [e]
      by_cases h48 : (bytesOf s)[at_ + j] ≥ 48
      · rw [if_pos h48, if_neg (by omega)]
      · rw [if_neg h48]
theorem rdigits (s : ByteArray) (hs : s.size ≤ 140737488355328) (at_ : Nat) (ha : at_ ≤ s.size) (k : Nat) (hk : s.size < k) : tiltyardref03_digits.f k s at_ = some (digN ((bytesOf s).drop at_) : Int) := by
  have := rdigits_l s hs at_ ha (s.size - at_) 0 k (by omega) (by omega) (by omega) (by simp)
  exact this

theorem numV_dlt {l : List Int} (h : Digs l) : 0 ≤ numV 0 l ∧ numV 0 l < 10 ^ l.length := by
  have e := valD_numV l 0
  have hv : ∀ x ∈ l.map (· - 48), 0 ≤ x ∧ x ≤ 9 := by
    intro x hx
    obtain ⟨c, hc, rfl⟩ := List.mem_map.1 hx
    have := h c hc; omega
  have := valD_lt hv
  rw [List.length_map] at this
  omega
/-- The whole part. -/
theorem rParse_l0 (s : ByteArray) (n : Nat) (hn : n ≤ 10) (hns : n < s.size) (hd : Digs ((bytesOf s).take n)) : ∀ (d j k : Nat), j ≤ n → n - j = d →
    tiltyardref03_Parse.l0 (k + d + 1) s n (numV 0 ((bytesOf s).take j)) j = if numV 0 ((bytesOf s).take n) > 2147483647 then some (0, 20) else tiltyardref03_Parse.l1 k s (numV 0 ((bytesOf s).take n)) [] (wrap64 ((n : Int) + 1)) := by
  have hlen : (bytesOf s).length = s.size := bytesOf_length s
  intro d
  induction d with
  | zero =>
    intro j k h1 h2
    have e : j = n := by omega
    subst e
    rw [tiltyardref03_Parse.l0, if_neg (by omega)]
  | succ d ih =>
    intro j k h1 h2
    have hj : j < n := by omega
    have hdj : Digs ((bytesOf s).take j) := by
      intro c hc
      exact hd c (List.mem_of_mem_take (i := j) (by rw [List.take_take, Nat.min_eq_left (by omega)]; exact hc))
    have hb := numV_dlt hdj
    rw [List.length_take, hlen, Nat.min_eq_left (by omega)] at hb
    have hp : (10 : Int) ^ j ≤ 10 ^ 10 := by
      have := Nat.pow_le_pow_right (n := 10) (by decide) (show j ≤ 10 by omega)
      exact_mod_cast this
    rw [show (10 : Int) ^ 10 = 10000000000 by decide] at hp
    have hr := bt_range s (j : Int)
    rw [show k + (d + 1) + 1 = (k + d + 1) + 1 from by omega, tiltyardref03_Parse.l0, if_pos (by omega), if_pos (by omega), if_pos (by omega)]
    have hst := numV_take (bytesOf s) j (by omega)
    rw [← rd_bt] at hst
    rw [w64 (x := numV 0 ((bytesOf s).take j) * 10) (by omega) (by omega), w64 (x := Go.Proofs.YtklkikndcieojaaDoorW.PrintWords.bt s (j : Int)) (by omega) (by omega), w64 (x := numV 0 ((bytesOf s).take j) * 10 + Go.Proofs.YtklkikndcieojaaDoorW.PrintWords.bt s (j : Int)) (by omega) (by omega), w64 (by omega) (by omega), w64 (x := (j : Int) + 1) (by omega) (by omega)]
    rw [show numV 0 ((bytesOf s).take j) * 10 + Go.Proofs.YtklkikndcieojaaDoorW.PrintWords.bt s (j : Int) - 48 = numV 0 ((bytesOf s).take (j + 1)) from by omega]
    have := ih (j + 1) k (by omega) (by omega)
    rw [show ((j + 1 : Nat) : Int) = (j : Int) + 1 from by omega] at this
    exact this
/-- The digits behind the point. -/
theorem rParse_l1 (s : ByteArray) (hs : s.size ≤ 140737488355328) (n : Nat) (hn : s.size ≤ n + 32) (w : Int) : ∀ (d j k : Nat), n + j ≤ s.size → s.size - (n + j) = d →
    tiltyardref03_Parse.l1 (k + d + 1) s w (((bytesOf s).drop n).take j |>.map (· - 48)) ((n + j : Nat) : Int) = tiltyardref03_Parse.l2 k w (((bytesOf s).drop n).map (· - 48)) 0 := by
  have hlen : (bytesOf s).length = s.size := bytesOf_length s
  intro d
  induction d with
  | zero =>
    intro j k h1 h2
    rw [tiltyardref03_Parse.l1, if_neg (by omega), List.take_of_length_le (by rw [List.length_drop]; omega)]
  | succ d ih =>
    intro j k h1 h2
    have hr := bt_range s ((n + j : Nat) : Int)
    have hlt : j < ((bytesOf s).drop n).length := by rw [List.length_drop]; omega
    rw [show k + (d + 1) + 1 = (k + d + 1) + 1 from by omega, tiltyardref03_Parse.l1, if_pos (by omega), if_pos (by omega), if_pos (by rw [List.length_map, List.length_take, List.length_drop, hlen]; omega)]
    rw [w64 (x := Go.Proofs.YtklkikndcieojaaDoorW.PrintWords.bt s ((n + j : Nat) : Int)) (by omega) (by omega), w64 (by omega) (by omega), w64 (x := ((n + j : Nat) : Int) + 1) (by omega) (by omega)]
    have e : (((bytesOf s).drop n).take j).map (· - 48) ++ [Go.Proofs.YtklkikndcieojaaDoorW.PrintWords.bt s ((n + j : Nat) : Int) - 48] = (((bytesOf s).drop n).take (j + 1)).map (· - 48) := by
      rw [List.take_succ_eq_append_getElem hlt, List.map_append, List.map_cons, List.map_nil, rd_bt, rd_get' (by omega), List.getElem_drop]
    rw [e]
    have := ih (j + 1) k (by omega) (by omega)
    rw [show ((n + (j + 1) : Nat) : Int) = ((n + j : Nat) : Int) + 1 from by omega] at this
    exact this
/-- One doubling. -/
theorem rParse_l3 (w x10 : Int) : ∀ (a t : List Int) (c : Int) (k : Nat), a.length < 1000 → (∀ x ∈ a, 0 ≤ x ∧ x ≤ 9) → 0 ≤ c ∧ c ≤ 1 →
    tiltyardref03_Parse.l3 (k + a.length + 1) w (a ++ t) x10 c ((a.length : Int) - 1) = tiltyardref03_Parse.l2 k (wrap64 (wrap64 (2 * w) + (dblA a c).1)) ((dblA a c).2 ++ t) (wrap64 (x10 + 1)) := by
  intro a
  induction h : a.length generalizing a with
  | zero =>
    intro t c k _ _ _
    have : a = [] := List.length_eq_zero_iff.1 h
    subst this
    rw [tiltyardref03_Parse.l3, if_neg (by simp)]
    simp [dblA]
  | succ n ih =>
    intro t c k h1 hd hc
    obtain ⟨a', x, rfl⟩ : ∃ a' x, a = a' ++ [x] := ⟨a.dropLast, a.getLast (by intro e; rw [e] at h; simp at h), (List.dropLast_concat_getLast _).symm⟩
    have hl : a'.length = n := by simpa using h
    have hx := hd x (by simp)
    have hrd : rd (a' ++ [x] ++ t) (((n + 1 : Nat) : Int) - 1) = x := by
      rw [show (((n + 1 : Nat) : Int) - 1) = (n : Int) from by omega, rd_get' (by simp; omega)]
      rw [List.getElem_append_left (by simp; omega), List.getElem_append_right (by omega)]
      simp [hl]
    rw [show k + (n + 1) + 1 = (k + n + 1) + 1 from by omega, tiltyardref03_Parse.l3, if_pos (by omega), if_pos (by omega), if_pos (by simp; omega), hrd]
    have e1 : wrap64 (wrap64 (2 * x) + c) = 2 * x + c := by rw [w64 (x := 2 * x) (by omega) (by omega), w64 (by omega) (by omega)]
    rw [e1, Int.tmod_eq_emod_of_nonneg (by omega), Int.tdiv_eq_ediv_of_nonneg (by omega), w64 (x := (2 * x + c) / 10) (by omega) (by omega), w64 (x := ((n + 1 : Nat) : Int) - 1 - 1) (by omega) (by omega)]
    rw [show ((((n + 1 : Nat) : Int) - 1).toNat) = a'.length from by omega]
    have e2 : (a' ++ [x] ++ t).set a'.length ((2 * x + c) % 10) = a' ++ ((2 * x + c) % 10 :: t) := by
      rw [List.append_assoc, List.set_append_right _ _ (by omega)]
      simp
    rw [e2, show ((n + 1 : Nat) : Int) - 1 - 1 = (n : Int) - 1 from by omega]
    have := ih a' hl ((2 * x + c) % 10 :: t) ((2 * x + c) / 10) k (by omega) (fun y hy => hd y (by simp [hy])) (by omega)
    rw [this, dblA_snoc]
    simp [List.append_assoc]
/-- All doublings. -/
theorem rParse_l2 {w0 v0 : Int} {m : Nat} (h0 : 0 ≤ w0) (h1 : w0 ≤ 2147483647) (hm : m < 1000) : ∀ (d j : Nat) (x : Int) (l : List Int) (k : Nat), d + j = 32 → PS w0 m v0 j x l →
    tiltyardref03_Parse.l2 (k + d * (m + 2) + 1) x l (j : Int) = some (w0 * 4294967296 + v0 * 4294967296 / 10 ^ m, 0) := by
  intro d
  induction d with
  | zero =>
    intro j x l k hj h
    have e : j = 32 := by omega
    subst e
    rw [tiltyardref03_Parse.l2, if_neg (by omega), (PS.fin h h0 h1).1]
  | succ d ih =>
    intro j x l k hj h
    have hb := PS.bound h h0 h1 (by omega)
    have hr := PS.row h
    have hc := dblA_c (c := 0) (by omega) hr.2
    have hn := ih (j + 1) _ _ k (by omega) (PS.step h)
    rw [show k + (d + 1) * (m + 2) + 1 = (k + d * (m + 2) + 1 + m + 1) + 1 from by rw [Nat.add_mul]; omega, tiltyardref03_Parse.l2, if_pos (by omega)]
    rw [w64 (x := (l.length : Int) - 1) (by omega) (by omega)]
    have h3 := rParse_l3 x (j : Int) l [] 0 (k + d * (m + 2) + 1) (by omega) hr.2 (by omega)
    rw [List.append_nil, List.append_nil, hr.1] at h3
    rw [hr.1, h3, w64 (x := 2 * x) (by omega) (by omega), w64 (by omega) (by omega), w64 (by omega) (by omega)]
    rw [show 2 * x + (dblA l 0).1 = x * 2 + (dblA l 0).1 from by omega, show (j : Int) + 1 = ((j + 1 : Nat) : Int) from by omega]
    exact hn
end Go.Proofs.YtklkikndcieojaaDoor

/- One value of Parse, the program's and the document's. -/
namespace Go.Proofs.YtklkikndcieojaaDoor
open Go.RowKit Go.Proofs.YtklkikndcieojaaDoorW.PrintWords Go.Proofs.YtklkikndcieojaaDoorW.PrintLast Go.Proofs.YtklkikndcieojaaDoorW.PrintMore
set_option linter.unusedVariables false
set_option linter.unusedSimpArgs false
open PTk
def ptA (s : ByteArray) : Nat := (Lib.indexByte s.data.toList 46).toNat
/-- A text is a number. -/
def goodS (s : ByteArray) : Bool := decide (0 ≤ Lib.indexByte s.data.toList 46) && decide (GoodP (s.extract 0 (ptA s)) (s.extract (ptA s + 1) s.size))
def valS (s : ByteArray) : Int := numV 0 (bytesOf (s.extract 0 (ptA s))) * 4294967296 + fracF (s.extract (ptA s + 1) s.size)
def parseV (s : ByteArray) : Int × Int := if goodS s then (valS s, 0) else (0, 20)
theorem bytesOf_ext (s : ByteArray) (k : Nat) : bytesOf (s.extract 0 k) = (bytesOf s).take k := by
  unfold bytesOf; rw [Lib.extract_data, List.drop_zero, Nat.sub_zero, List.map_take]
theorem bytesOf_end (s : ByteArray) (k : Nat) : bytesOf (s.extract k s.size) = (bytesOf s).drop k := by
  unfold bytesOf; rw [Lib.extract_to_end, List.map_drop]
theorem size_ext (s : ByteArray) (k : Nat) (h : k ≤ s.size) : (s.extract 0 k).size = k := by
  have := bytesOf_length (s.extract 0 k)
  rw [bytesOf_ext, List.length_take, bytesOf_length] at this
  omega
theorem size_end (s : ByteArray) (k : Nat) : (s.extract k s.size).size = s.size - k := by
  have := bytesOf_length (s.extract k s.size)
  rw [bytesOf_end, List.length_drop, bytesOf_length] at this
  omega
theorem Bt_ext (s : ByteArray) (k : Nat) (h : 0 < k) (hk : k ≤ s.size) : Bt (s.extract 0 k) 0 = Bt s 0 := by
  show Go.Proofs.YtklkikndcieojaaDoorW.PrintWords.bt (s.extract 0 k) 0 = Go.Proofs.YtklkikndcieojaaDoorW.PrintWords.bt s 0
  rw [← rd_bytesOf, ← rd_bytesOf, bytesOf_ext]
  have h1 : 0 < (bytesOf s).length := by rw [bytesOf_length]; omega
  have e1 := rd_get' (l := (bytesOf s).take k) (i := 0) (by rw [List.length_take]; omega)
  have e2 := rd_get' (l := bytesOf s) (i := 0) h1
  rw [show ((0 : Nat) : Int) = 0 from rfl] at e1 e2
  rw [e1, e2, List.getElem_take]
/-- The way a good text stands. -/
theorem good_form {s : ByteArray} (h : goodS s = true) : ∃ k : Nat, ptA s = k ∧ k < s.size ∧ (bytesOf s)[k]? = some 46 ∧ GoodP (s.extract 0 k) (s.extract (k + 1) s.size) ∧ digN (bytesOf s) = k ∧ digN ((bytesOf s).drop (k + 1)) = s.size - (k + 1) := by
  unfold goodS at h
  rw [Bool.and_eq_true, decide_eq_true_eq, decide_eq_true_eq] at h
  obtain ⟨h0, hg⟩ := h
  rcases indexByte_at 46 s.data.toList with ⟨e, _⟩ | ⟨k, e, hk, hc, _⟩
  · rw [e] at h0; omega
  · have ep : ptA s = k := by unfold ptA; rw [e]; rfl
    rw [ep] at hg
    have hks : k < s.size := by rw [Lib.size_eq]; exact hk
    have hb : (bytesOf s)[k]? = some 46 := by unfold bytesOf; rw [List.getElem?_map, hc]; rfl
    have hg' := hg
    obtain ⟨_, _, _, _, _, g1, g2, _⟩ := hg'
    have g1' := g1; have g2' := g2
    rw [bytesOf_ext] at g1'; rw [bytesOf_end] at g2'
    refine ⟨k, ep, hks, hb, hg, ?_, ?_⟩
    · have hlen := bytesOf_length s
      have hlt : k < (bytesOf s).length := by omega
      have hgk : (bytesOf s)[k] = 46 := by rw [List.getElem?_eq_getElem hlt] at hb; exact Option.some.inj hb
      have := digN_app ((bytesOf s).take k) ((bytesOf s).drop k) g1'
      rw [List.take_append_drop, List.drop_eq_getElem_cons hlt, hgk, digN, if_neg (by omega), List.length_take] at this
      omega
    · rw [digN_all g2', List.length_drop, bytesOf_length]
theorem parseV_good {s : ByteArray} (h : goodS s = true) : parseV s = (valS s, 0) := by unfold parseV; rw [if_pos h]
theorem parseV_bad {s : ByteArray} (h : goodS s = false) : parseV s = (0, 20) := by unfold parseV; rw [h]; rfl
/-- Digits, a point, digits: the place of the point. -/
theorem point_is {s : ByteArray} (hn : digN (bytesOf s) < s.size) (h : (bytesOf s)[digN (bytesOf s)]? = some 46) : Lib.indexByte s.data.toList 46 = (digN (bytesOf s) : Int) := by
  have hlen := bytesOf_length s
  rcases indexByte_at 46 s.data.toList with ⟨_, hno⟩ | ⟨k, e, hk, hc, hno⟩
  · exfalso
    unfold bytesOf at h
    rw [List.getElem?_map] at h
    obtain ⟨b, hb, hb2⟩ := Option.map_eq_some_iff.1 h
    have : b = 46 := by
      apply UInt8.toNat_inj.1
      have : (b.toNat : Int) = 46 := hb2
      show b.toNat = 46
      omega
    subst this
    exact hno (List.mem_of_getElem? hb)
  · rw [e]
    have hks : k < s.size := by rw [Lib.size_eq]; exact hk
    have hbk : (bytesOf s)[k]? = some 46 := by unfold bytesOf; rw [List.getElem?_map, hc]; rfl
    have h1 : digN (bytesOf s) ≤ k := by
      rcases Nat.lt_or_ge k (digN (bytesOf s)) with c | c
      · have := digN_digs (bytesOf s) 46 (by
          apply List.mem_of_getElem? (i := k)
          rw [List.getElem?_take_of_lt c]; exact hbk)
        omega
      · exact c
    have h2 : k ≤ digN (bytesOf s) := by
      rcases Nat.lt_or_ge (digN (bytesOf s)) k with c | c
      · exfalso
        unfold bytesOf at h
        rw [List.getElem?_map] at h
        obtain ⟨b, hb, hb2⟩ := Option.map_eq_some_iff.1 h
        have : b = 46 := by
          apply UInt8.toNat_inj.1
          have : (b.toNat : Int) = 46 := hb2
          show b.toNat = 46
          omega
        subst this
        exact hno (by
          apply List.mem_of_getElem? (i := digN (bytesOf s))
          rw [List.getElem?_take_of_lt c]; exact hb)
      · exact c
    omega
theorem refParse (s : ByteArray) (hs : s.size ≤ 140737488355328) : ∃ k, tiltyardref03_Parse.f k s = some (parseV s) := by
  have hlen := bytesOf_length s
  obtain ⟨n, hn⟩ : ∃ n, n = digN (bytesOf s) := ⟨_, rfl⟩
  have hd0 := rdigits s hs 0 (by omega)
  simp only [List.drop_zero] at hd0
  have hnle := digN_le (bytesOf s)
  rw [hlen] at hnle
  obtain ⟨K, hK⟩ : ∃ K : Nat, K = 2 * s.size + 20000 := ⟨_, rfl⟩
  refine ⟨K, ?_⟩
  have hj0 : ∀ k, tiltyardref03_Parse.j0 (k + 1) s n true = some (0, 20) := fun k => by simp [tiltyardref03_Parse.j0]
  have hj1 : ∀ k, tiltyardref03_Parse.j1 (k + 1) s n true = some (0, 20) := fun k => by simp [tiltyardref03_Parse.j1]
  obtain ⟨K1, hK1⟩ : ∃ K1, K = K1 + 1 := ⟨K - 1, by omega⟩
  unfold tiltyardref03_Parse.f
  have hd1 : tiltyardref03_digits.f K s 0 = some (digN (bytesOf s) : Int) := hd0 K (by omega)
  rw [hd1, ← hn, Option.bind_some]
  by_cases hg : goodS s = true
  · obtain ⟨k, hpt, hks, hb, hgp, hdk, hdr⟩ := good_form hg
    obtain rfl : n = k := by omega
    have hgp' := hgp
    obtain ⟨g1, g2, g3, g4, g5, g6, g7, g8⟩ := hgp
    rw [size_ext s n (by omega)] at g1 g2 g5
    rw [size_end] at g3 g4
    have hlt : n < (bytesOf s).length := by omega
    have h46 : Bt s (n : Int) = 46 := by
      show Go.Proofs.YtklkikndcieojaaDoorW.PrintWords.bt s (n : Int) = 46
      rw [rd_bt, rd_get' hlt]
      rw [List.getElem?_eq_getElem hlt] at hb; exact Option.some.inj hb
    rw [Bt_ext s n (by omega) (by omega)] at g5
    have hfin : tiltyardref03_Parse.j0 K s n false = some (parseV s) := by
      rw [hK1, tiltyardref03_Parse.j0]
      rw [if_neg (by decide), w64 (by omega) (by omega), show (n : Int) + 1 = ((n + 1 : Nat) : Int) from by omega, rdigits s hs (n + 1) (by omega) K1 (by omega), hdr, Option.bind_some, if_neg (by omega), if_neg (by omega), w64 (by omega) (by omega)]
      rw [show ((((n + 1 : Nat) : Int) + ((s.size - (n + 1) : Nat) : Int)) != (s.size : Int)) = false from by simp; omega]
      obtain ⟨K2, hK2⟩ : ∃ K2, K1 = K2 + n + 1 + 1 := ⟨K1 - n - 2, by omega⟩
      rw [hK2, tiltyardref03_Parse.j1, if_neg (by decide)]
      rw [bytesOf_ext] at g6 g8
      have h0 := rParse_l0 s n (by omega) hks g6 n 0 K2 (by omega) (by omega)
      simp only [List.take_zero] at h0
      rw [show numV 0 ([] : List Int) = 0 from rfl] at h0
      rw [show ((0 : Nat) : Int) = 0 from rfl] at h0
      rw [h0, if_neg (by omega), w64 (by omega) (by omega)]
      obtain ⟨K3, hK3⟩ : ∃ K3, K2 = K3 + (s.size - (n + 1)) + 1 := ⟨K2 - (s.size - (n + 1)) - 1, by omega⟩
      have h1 := rParse_l1 s hs (n + 1) (by omega) (numV 0 ((bytesOf s).take n)) (s.size - (n + 1)) 0 K3 (by omega) (by omega)
      simp only [List.take_zero, List.map_nil, Nat.add_zero] at h1
      rw [show (n : Int) + 1 = ((n + 1 : Nat) : Int) from by omega, hK3, h1]
      rw [bytesOf_end] at g7
      have hps := PS.start (b := s.extract (n + 1) s.size) (by rw [bytesOf_end]; exact g7) (numV 0 ((bytesOf s).take n))
      rw [bytesOf_end, size_end] at hps
      have hw0 := (numV_dlt g6).1
      obtain ⟨K4, hK4⟩ : ∃ K4, K3 = K4 + 32 * ((s.size - (n + 1)) + 2) + 1 := ⟨K3 - 32 * ((s.size - (n + 1)) + 2) - 1, by omega⟩
      have h2 := rParse_l2 hw0 g8 (by omega) 32 0 _ _ K4 (by omega) hps
      rw [show ((0 : Nat) : Int) = 0 from rfl] at h2
      rw [hK4, h2, parseV_good hg]
      unfold valS fracF
      rw [hpt, bytesOf_ext, bytesOf_end, size_end]
    have he : ((Go.Proofs.YtklkikndcieojaaDoorW.PrintWords.bt s (n : Int)) != 46) = false := by
      rw [show Go.Proofs.YtklkikndcieojaaDoorW.PrintWords.bt s (n : Int) = 46 from h46]; decide
    rw [if_neg (by omega), if_neg (by omega)]
    have hlast : (if (n : Int) ≥ (s.size : Int) then tiltyardref03_Parse.j0 K s n true else if 0 ≤ (n : Int) then if (n : Int) < (s.size : Int) then tiltyardref03_Parse.j0 K s n (Go.Proofs.YtklkikndcieojaaDoorW.PrintWords.bt s (n : Int) != 46) else none else none) = some (parseV s) := by
      rw [if_neg (by omega), if_pos (by omega), if_pos (by omega), he]; exact hfin
    by_cases h1 : (n : Int) > 1
    · rw [if_pos h1, if_pos (by simp; omega), if_neg (show ¬ Go.Proofs.YtklkikndcieojaaDoorW.PrintWords.bt s 0 = 48 from fun h => g5 ⟨h, by omega⟩)]
      exact hlast
    · rw [if_neg h1]; exact hlast
  · have hb : goodS s = false := by simpa using hg
    rw [parseV_bad hb]
    by_cases c1 : (n : Int) < 1
    · rw [if_pos c1, hK1, hj0]
    rw [if_neg c1]
    by_cases c2 : (n : Int) > 10
    · rw [if_pos c2, hK1, hj0]
    rw [if_neg c2]
    have hlast : ¬ (1 < n ∧ Bt s 0 = 48) → (if (n : Int) ≥ (s.size : Int) then tiltyardref03_Parse.j0 K s n true else if 0 ≤ (n : Int) then if (n : Int) < (s.size : Int) then tiltyardref03_Parse.j0 K s n (Go.Proofs.YtklkikndcieojaaDoorW.PrintWords.bt s (n : Int) != 46) else none else none) = some (0, 20) := by
      intro c5
      by_cases c3 : (n : Int) ≥ (s.size : Int)
      · rw [if_pos c3, hK1, hj0]
      rw [if_neg c3, if_pos (by omega), if_pos (by omega)]
      have hlt : n < (bytesOf s).length := by omega
      by_cases c4 : Bt s (n : Int) = 46
      · rw [show ((Go.Proofs.YtklkikndcieojaaDoorW.PrintWords.bt s (n : Int)) != 46) = false from by rw [show Go.Proofs.YtklkikndcieojaaDoorW.PrintWords.bt s (n : Int) = 46 from c4]; decide]
        have hb46 : (bytesOf s)[digN (bytesOf s)]? = some 46 := by
          rw [← hn, List.getElem?_eq_getElem hlt]
          have : Go.Proofs.YtklkikndcieojaaDoorW.PrintWords.bt s (n : Int) = 46 := c4
          rw [rd_bt, rd_get' hlt] at this
          rw [this]
        have hpi := point_is (by omega) hb46
        rw [← hn] at hpi
        have hpt : ptA s = n := by unfold ptA; rw [hpi]; rfl
        rw [hK1, tiltyardref03_Parse.j0]
        rw [if_neg (by decide), w64 (by omega) (by omega), show (n : Int) + 1 = ((n + 1 : Nat) : Int) from by omega, rdigits s hs (n + 1) (by omega) K1 (by omega), Option.bind_some]
        obtain ⟨m, hm⟩ : ∃ m, m = digN ((bytesOf s).drop (n + 1)) := ⟨_, rfl⟩
        have hmle := digN_le ((bytesOf s).drop (n + 1))
        rw [List.length_drop, hlen] at hmle
        rw [← hm] at hmle ⊢
        obtain ⟨K2, hK2⟩ : ∃ K2, K1 = K2 + n + 1 + 1 := ⟨K1 - n - 2, by omega⟩
        by_cases d1 : (m : Int) < 1
        · rw [if_pos d1, hK2, hj1]
        rw [if_neg d1]
        by_cases d2 : (m : Int) > 32
        · rw [if_pos d2, hK2, hj1]
        rw [if_neg d2, w64 (by omega) (by omega)]
        by_cases d3 : n + 1 + m = s.size
        · rw [show ((((n + 1 : Nat) : Int) + (m : Int)) != (s.size : Int)) = false from by simp; omega]
          rw [hK2, tiltyardref03_Parse.j1, if_neg (by decide)]
          have g6 : Digs ((bytesOf s).take n) := by rw [hn]; exact digN_digs _
          have g7 : Digs ((bytesOf s).drop (n + 1)) := by
            have := digN_digs ((bytesOf s).drop (n + 1))
            rw [← hm, List.take_of_length_le (by rw [List.length_drop]; omega)] at this
            exact this
          have h0 := rParse_l0 s n (by omega) (by omega) g6 n 0 K2 (by omega) (by omega)
          simp only [List.take_zero] at h0
          rw [show numV 0 ([] : List Int) = 0 from rfl] at h0
          rw [show ((0 : Nat) : Int) = 0 from rfl] at h0
          rw [h0]
          by_cases d4 : numV 0 ((bytesOf s).take n) > 2147483647
          · rw [if_pos d4]
          · exfalso
            have : goodS s = true := by
              unfold goodS
              rw [hpi, hpt, Bool.and_eq_true, decide_eq_true_eq, decide_eq_true_eq]
              refine ⟨by omega, ?_, ?_, ?_, ?_, ?_, ?_, ?_, ?_⟩
              · rw [size_ext s n (by omega)]; omega
              · rw [size_ext s n (by omega)]; omega
              · rw [size_end]; omega
              · rw [size_end]; omega
              · rw [size_ext s n (by omega), Bt_ext s n (by omega) (by omega)]
                exact fun h => c5 ⟨h.2, h.1⟩
              · rw [bytesOf_ext]; exact g6
              · rw [bytesOf_end]; exact g7
              · rw [bytesOf_ext]; omega
            rw [hb] at this; cases this
        · rw [show ((((n + 1 : Nat) : Int) + (m : Int)) != (s.size : Int)) = true from by simp; omega]
          rw [hK2, hj1]
      · rw [show ((Go.Proofs.YtklkikndcieojaaDoorW.PrintWords.bt s (n : Int)) != 46) = true from by simpa using c4, hK1, hj0]
    by_cases h1 : (n : Int) > 1
    · rw [if_pos h1, if_pos (by simp; omega)]
      by_cases h48 : Go.Proofs.YtklkikndcieojaaDoorW.PrintWords.bt s 0 = 48
      · rw [if_pos h48, hK1, hj0]
      · rw [if_neg h48]; exact hlast (fun h => h48 h.2)
    · rw [if_neg h1]; exact hlast (fun h => h1 (by omega))
/-- The program's Parse. -/
theorem Parse_exact (s : ByteArray) (w : World) (hs : s.size ≤ 140737488355328) (hW : FixW w) :
    Calls Tryd.prog 38 #[.string s] w fun e w' => e = .returned (.tuple #[.int .i64 (parseV s).1, .int .i64 (parseV s).2]) ∧ Below w.heap.size w w' := by
  rcases indexByte_at 46 s.data.toList with ⟨ei, hn⟩ | ⟨k, e, hk, hc, hn⟩
  · have hb : goodS s = false := by unfold goodS; rw [ei]; rfl
    rw [parseV_bad hb]
    exact Parse_none s w hn
  · obtain ⟨a, ha⟩ : ∃ a, a = s.extract 0 k := ⟨_, rfl⟩
    obtain ⟨b, hb⟩ : ∃ b, b = s.extract (k + 1) s.size := ⟨_, rfl⟩
    have hpt : ptA s = k := by unfold ptA; rw [e]; rfl
    have hgs : goodS s = decide (GoodP a b) := by
      unfold goodS
      rw [hpt, e, ← ha, ← hb, decide_eq_true (show (0 : Int) ≤ (k : Int) by omega), Bool.true_and]
    by_cases hg : GoodP a b
    · rw [parseV_good (by rw [hgs]; exact decide_eq_true hg)]
      unfold valS
      rw [hpt, ← ha, ← hb]
      obtain ⟨g1, g2, g3, g4, g5, g6, g7, g8⟩ := hg
      exact Parse_good s k w hs e a b ha hb g1 g2 g3 g4 g5 ((digs_append a b).2 ⟨g6, g7⟩) g8
    · rw [parseV_bad (by rw [hgs]; exact decide_eq_false hg)]
      by_cases g : 1 ≤ a.size ∧ a.size ≤ 10 ∧ 1 ≤ b.size ∧ b.size ≤ 32 ∧ ¬ (Bt a 0 = 48 ∧ 1 < a.size)
      · obtain ⟨g1, g2, g3, g4, g5⟩ := g
        by_cases hd : Digs (bytesOf (a ++ b))
        · obtain ⟨g6, g7⟩ := (digs_append a b).1 hd
          by_cases hv : numV 0 (bytesOf a) ≤ 2147483647
          · exact absurd ⟨g1, g2, g3, g4, g5, g6, g7, hv⟩ hg
          · exact Parse_bad3 s k w hs e a b ha hb g1 g2 g3 g4 g5 hW hd (by omega)
        · exact Parse_bad2 s k w hs e a b ha hb g1 g2 g3 g4 g5 hd
      · exact Parse_bad1 s k w hs e a b ha hb g
theorem rParse_calls (s : ByteArray) (w : World) (hs : s.size ≤ 140737488355328) :
    Calls Tryd.prog 34 #[.string s] w fun e w' => e = .returned (.tuple #[.int .i64 (parseV s).1, .int .i64 (parseV s).2]) ∧ Below w.heap.size w w' := by
  obtain ⟨k, hk⟩ := refParse s hs
  exact tiltyardref03_Parse.calls k s _ _ w hk
end Go.Proofs.YtklkikndcieojaaDoor
