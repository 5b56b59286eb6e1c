/- Taken together by a program of mine: what the proof names, out of the texts of this seat (its words as the print wrote them), part 5. -/
import Derived.Test.YteidgpaakoeefaaDoorV4
import Derived.Deep.RegionLaw
namespace Go.Proofs.YteidgpaakoeefaaDoor
open Go.RowKit Go.Proofs.YteidgpaakoeefaaDoorW.PrintWords Go.Proofs.YteidgpaakoeefaaDoorW.PrintLast Go.Proofs.YteidgpaakoeefaaDoorW.PrintMore
set_option linter.unusedVariables false
set_option linter.unusedSimpArgs false
open PIm
theorem venc_length (z : Nat) : (venc z).length = vl z := rfl
def Bytes (l : List Int) : Prop := ∀ x ∈ l, 0 ≤ x ∧ x < 256
structure Codec {α : Type} (put : α → List Int) (one : List Int → Int → Option (α × Int)) (ok : α → Prop) : Prop where
  there : ∀ (p q : List Int) (x : α), ok x → one (p ++ put x ++ q) p.length = some (x, (p.length : Int) + (put x).length)
  back : ∀ (l : List Int) (i : Int) (x : α) (j : Int), Bytes l → one l i = some (x, j) → 0 ≤ i ∧ i ≤ j ∧ j ≤ l.length ∧ (l.take j.toNat).drop i.toNat = put x ∧ ok x
theorem cut_join (l : List Int) {i j k : Int} (h0 : 0 ≤ i) (h1 : i ≤ j) (h2 : j ≤ k) (h3 : k ≤ l.length) : (l.take k.toNat).drop i.toNat = (l.take j.toNat).drop i.toNat ++ (l.take k.toNat).drop j.toNat := by
  obtain ⟨i, rfl⟩ : ∃ n : Nat, i = n := ⟨i.toNat, by omega⟩
  obtain ⟨j, rfl⟩ : ∃ n : Nat, j = n := ⟨j.toNat, by omega⟩
  obtain ⟨k, rfl⟩ : ∃ n : Nat, k = n := ⟨k.toNat, by omega⟩
  simp only [Int.toNat_natCast]
  have e : l.take k = l.take j ++ (l.take k).drop j := by
    conv => lhs; rw [← List.take_append_drop j (l.take k)]
    rw [List.take_take, Nat.min_eq_left (by omega)]
  conv => lhs; rw [e]
  rw [List.drop_append_of_le_length (by rw [List.length_take]; omega)]
theorem cut_self (l : List Int) (i : Int) : (l.take i.toNat).drop i.toNat = [] := by
  rw [List.drop_eq_nil_iff, List.length_take]; omega
theorem Codec.seq {α β : Type} {p1 : α → List Int} {r1 : List Int → Int → Option (α × Int)} {o1 : α → Prop} {p2 : β → List Int} {r2 : List Int → Int → Option (β × Int)} {o2 : β → Prop} (h1 : Codec p1 r1 o1) (h2 : Codec p2 r2 o2) :
    Codec (fun t : α × β => p1 t.1 ++ p2 t.2) (fun l i => (r1 l i).bind fun a => (r2 l a.2).bind fun b => some ((a.1, b.1), b.2)) (fun t => o1 t.1 ∧ o2 t.2) where
  there p q x hx := by
    have e1 : r1 (p ++ (p1 x.1 ++ p2 x.2) ++ q) p.length = some (x.1, (p.length : Int) + (p1 x.1).length) := by
      have := h1.there p (p2 x.2 ++ q) x.1 hx.1
      simpa [List.append_assoc] using this
    have e2 : r2 (p ++ (p1 x.1 ++ p2 x.2) ++ q) ((p.length : Int) + (p1 x.1).length) = some (x.2, (p.length : Int) + (p1 x.1).length + (p2 x.2).length) := by
      have := h2.there (p ++ p1 x.1) q x.2 hx.2
      rw [List.length_append] at this
      simpa [List.append_assoc] using this
    simp only [e1, e2, Option.bind_some]
    exact congrArg some (Prod.ext rfl (by simp only [List.length_append]; push_cast; omega))
  back l i x j hb h := by
    rcases e1 : r1 l i with _ | ⟨a, i1⟩
    · rw [e1] at h; cases h
    rw [e1, Option.bind_some] at h
    rcases e2 : r2 l i1 with _ | ⟨b, i2⟩
    · rw [e2] at h; cases h
    rw [e2, Option.bind_some] at h
    injection h with h; injection h with h h'
    subst h; subst h'
    obtain ⟨a1, a2, a3, a4, a5⟩ := h1.back l i a i1 hb e1
    obtain ⟨b1, b2, b3, b4, b5⟩ := h2.back l i1 b i2 hb e2
    exact ⟨a1, Int.le_trans a2 b2, b3, by rw [cut_join l a1 a2 b2 b3, a4, b4], a5, b5⟩
theorem Codec.congr {α : Type} {p p' : α → List Int} {r r' : List Int → Int → Option (α × Int)} {o o' : α → Prop} (h : Codec p r o) (hp : ∀ x, p' x = p x) (hr : ∀ l i, r' l i = r l i) (ho : ∀ x, o' x ↔ o x) : Codec p' r' o' := by
  obtain rfl : p' = p := funext hp
  obtain rfl : r' = r := funext fun l => funext fun i => hr l i
  obtain rfl : o' = o := funext fun x => propext (ho x)
  exact h
theorem Codec.iso {α β : Type} {p : β → List Int} {r : List Int → Int → Option (β × Int)} {o : β → Prop} (h : Codec p r o) (f : β → α) (g : α → β) (hgf : ∀ t, o t → g (f t) = t) :
    Codec (fun x => p (g x)) (fun l i => (r l i).map fun b => (f b.1, b.2)) (fun x => o (g x) ∧ f (g x) = x) where
  there a b x hx := by
    simp only [h.there a b (g x) hx.1, Option.map_some, hx.2]
  back l i x j hb e := by
    rcases e1 : r l i with _ | ⟨a, i1⟩
    · rw [e1] at e; cases e
    rw [e1, Option.map_some] at e
    injection e with e; injection e with e e'
    subst e; subst e'
    obtain ⟨a1, a2, a3, a4, a5⟩ := h.back l i a i1 hb e1
    have := hgf a a5
    exact ⟨a1, a2, a3, by simp only [this]; exact a4, by simp only [this]; exact ⟨a5, trivial⟩⟩
def okN (x : Int) : Prop := 0 ≤ x ∧ x ≤ 9223372036854775807
theorem natB_eq {n : Int} (h : 0 ≤ n) : natB n = venc n.toNat := by unfold natB numF; rw [if_neg (by omega)]; simp
theorem codecN : Codec natB rdN okN where
  there p q x hx := by
    unfold rdN
    rw [natB_eq hx.1, tk_venc p q x.toNat 9 (by decide) (by have := vl9 (z := x.toNat) (by have := hx.2; omega); omega) (by have := hx.2; omega), if_pos rfl, venc_length]
    simp only [Int.toNat_of_nonneg hx.1]
  back l i x j hb h := by
    have hr := tk_range l i 9 (by decide) (by decide) hb
    rw [show ((128 ^ (9 : Int).toNat : Nat) : Int) = 9223372036854775808 by decide] at hr
    unfold rdN at h
    split at h
    · next e =>
      injection h with h; injection h with h h'
      subst h; subst h'
      obtain ⟨b1, b2, b3, b4⟩ := tk_back l i 9 hb e
      exact ⟨b1, b2, b3, by rw [natB_eq hr.1]; exact b4, hr.1, by have := hr.2.1; omega⟩
    · cases h
theorem codecW : Codec wholeB rdW rng where
  there p q x hx := by
    unfold rdW wholeB
    have hz : 0 ≤ zz x ∧ zz x < 18446744073709551616 := by unfold zz; have := hx.1; have := hx.2; split <;> omega
    rw [tk_venc p q (zz x).toNat 10 (by decide) (by have := vl10 (z := (zz x).toNat) (by omega); omega) (by omega), if_pos rfl, venc_length]
    simp only [Int.toNat_of_nonneg hz.1, uz_zz]
  back l i x j hb h := by
    have hr := tk_range l i 10 (by decide) (by decide) hb
    unfold rdW at h
    split at h
    · next e =>
      injection h with h; injection h with h h'
      subst h; subst h'
      obtain ⟨b1, b2, b3, b4⟩ := tk_back l i 10 hb e
      refine ⟨b1, b2, b3, ?_, ?_⟩
      · unfold wholeB
        rw [zz_uz _ hr.1]; exact b4
      · have h1 := hr.1; have h2 := hr.2.2.1
        generalize (tk l i 10).1 = z at h1 h2
        unfold uz
        exact ⟨by split <;> omega, by split <;> omega⟩
    · cases h
theorem codecT : Codec textB rdT (fun s => s.size ≤ 65536) where
  there p q x hx := by
    unfold rdT
    have := rt_back p q x (by omega)
    rw [show p ++ textB x ++ q = p ++ venc x.size ++ bytesOf x ++ q by unfold textB; simp [List.append_assoc], this, if_pos rfl]
    unfold textB
    exact congrArg some (Prod.ext rfl (by simp only [List.length_append, venc_length, bytesOf_length]; push_cast; omega))
  back l i x j hb h := by
    have hr := tk_range l i 9 (by decide) (by decide) hb
    unfold rdT rtF at h
    by_cases h1 : (tk l i 9).2.2 ≠ 0
    · rw [if_pos h1, if_neg h1] at h; cases h
    rw [if_neg h1] at h
    by_cases h2 : 65536 < (tk l i 9).1
    · rw [if_pos h2, if_neg (by decide)] at h; cases h
    rw [if_neg h2] at h
    by_cases h3 : (l.length : Int) - (tk l i 9).2.1 < (tk l i 9).1
    · rw [if_pos h3, if_neg (by decide)] at h; cases h
    rw [if_neg h3, if_pos rfl] at h
    injection h with h; injection h with h h'
    obtain ⟨b1, b2, b3, b4⟩ := tk_back l i 9 hb (Decidable.not_not.1 h1)
    generalize tk l i 9 = t at h h' hr b1 b2 b3 b4 h2 h3
    obtain ⟨z, p, e⟩ := t
    simp only [] at h h' hr b1 b2 b3 b4 h2 h3
    subst h; subst h'
    have hlen : ((l.take (p + z).toNat).drop p.toNat).length = z.toNat := by
      rw [List.length_drop, List.length_take]; omega
    refine ⟨b1, by omega, by omega, ?_, by rw [strOfNums_size, hlen]; omega⟩
    rw [cut_join l b1 b2 (show p ≤ p + z by omega) (by omega), b4]
    unfold textB
    rw [strOfNums_size, hlen, bytesOf_str _ (fun x hx => hb x (List.mem_of_mem_take (List.mem_of_mem_drop hx)))]
theorem rdRow_there {α : Type} {put : α → List Int} {one : List Int → Int → Option (α × Int)} {ok : α → Prop} (h : Codec put one ok) (q : List Int) : ∀ (r : List α) (p : List Int), (∀ x ∈ r, ok x) →
    rdRow (one (p ++ r.flatMap put ++ q)) r.length p.length = some (r, (p.length : Int) + (r.flatMap put).length)
  | [], p, _ => by simp [rdRow]
  | x :: r, p, hr => by
    have e1 : one (p ++ (x :: r).flatMap put ++ q) p.length = some (x, (p.length : Int) + (put x).length) := by
      have := h.there p (r.flatMap put ++ q) x (hr x (by simp))
      simpa [List.flatMap_cons, List.append_assoc] using this
    have e2 := rdRow_there h q r (p ++ put x) (fun y hy => hr y (by simp [hy]))
    rw [show p ++ put x ++ r.flatMap put ++ q = p ++ (x :: r).flatMap put ++ q by simp [List.flatMap_cons, List.append_assoc], List.length_append] at e2
    rw [List.length_cons, rdRow, e1, Option.bind_some]
    rw [show ((p.length + (put x).length : Nat) : Int) = (p.length : Int) + (put x).length by push_cast; rfl] at e2
    simp only [e2, Option.bind_some]
    exact congrArg some (Prod.ext rfl (by simp only [List.flatMap_cons, List.length_append]; push_cast; omega))
theorem rdRow_back {α : Type} {put : α → List Int} {one : List Int → Int → Option (α × Int)} {ok : α → Prop} (h : Codec put one ok) (l : List Int) (hb : Bytes l) : ∀ (n : Nat) (i : Int) (r : List α) (j : Int), 0 ≤ i → i ≤ l.length → rdRow (one l) n i = some (r, j) →
    i ≤ j ∧ j ≤ l.length ∧ (l.take j.toNat).drop i.toNat = r.flatMap put ∧ (∀ x ∈ r, ok x) ∧ r.length = n
  | 0, i, r, j, h0, h1, e => by
    rw [rdRow] at e
    injection e with e; injection e with e e'
    subst e; subst e'
    exact ⟨Int.le_refl _, h1, by rw [cut_self]; rfl, (fun x hx => by cases hx), rfl⟩
  | n + 1, i, r, j, h0, h1, e => by
    rw [rdRow] at e
    rcases e1 : one l i with _ | ⟨a, i1⟩
    · rw [e1] at e; cases e
    rw [e1, Option.bind_some] at e
    rcases e2 : rdRow (one l) n i1 with _ | ⟨b, i2⟩
    · rw [e2] at e; cases e
    rw [e2, Option.bind_some] at e
    injection e with e; injection e with e e'
    subst e; subst e'
    obtain ⟨a1, a2, a3, a4, a5⟩ := h.back l i a i1 hb e1
    obtain ⟨b1, b2, b3, b4, b5⟩ := rdRow_back h l hb n i1 b i2 (by omega) a3 e2
    refine ⟨by omega, b2, ?_, ?_, by simp [b5]⟩
    · rw [cut_join l h0 a2 b1 b2, a4, b3]; rfl
    · intro x hx
      rcases List.mem_cons.1 hx with rfl | hx
      · exact a5
      · exact b4 x hx
theorem codecR {α : Type} {put : α → List Int} {one : List Int → Int → Option (α × Int)} {ok : α → Prop} (h : Codec put one ok) (most : Int) (hm : most ≤ 9223372036854775807) :
    Codec (fun r : List α => natB r.length ++ r.flatMap put) (fun l i => rdRows (one l) most l i) (fun r => (r.length : Int) ≤ most ∧ ∀ x ∈ r, ok x) where
  there p q r hr := by
    have e1 : rdN (p ++ (natB r.length ++ r.flatMap put) ++ q) p.length = some ((r.length : Int), (p.length : Int) + (natB r.length).length) := by
      have := codecN.there p (r.flatMap put ++ q) (r.length : Int) ⟨by omega, by have := hr.1; omega⟩
      simpa [List.append_assoc] using this
    have e2 := rdRow_there h q r (p ++ natB r.length) hr.2
    rw [show p ++ natB r.length ++ r.flatMap put ++ q = p ++ (natB r.length ++ r.flatMap put) ++ q by simp [List.append_assoc], List.length_append] at e2
    rw [show ((p.length + (natB r.length).length : Nat) : Int) = (p.length : Int) + (natB r.length).length by push_cast; rfl] at e2
    unfold rdRows
    rw [e1, Option.bind_some]
    simp only [Int.toNat_natCast]
    rw [if_neg (by have := hr.1; omega), e2]
    exact congrArg some (Prod.ext rfl (by simp only [List.length_append]; push_cast; omega))
  back l i r j hb e := by
    unfold rdRows at e
    rcases e1 : rdN l i with _ | ⟨a, i1⟩
    · rw [e1] at e; cases e
    rw [e1, Option.bind_some] at e
    simp only [] at e
    split at e
    · cases e
    · next hma =>
      obtain ⟨a1, a2, a3, a4, a5⟩ := codecN.back l i a i1 hb e1
      obtain ⟨b1, b2, b3, b4, b5⟩ := rdRow_back h l hb a.toNat i1 r j (by omega) a3 e
      have hn : (r.length : Int) = a := by have := a5.1; omega
      exact ⟨a1, by omega, b2, by rw [cut_join l a1 a2 b1 b2, a4, b3, hn], by omega, b4⟩
theorem codecG : Codec putG rdG (fun x => okN x.f0 ∧ okN x.f1 ∧ rng x.f2) := by
  have h := (codecN.seq (codecN.seq codecW)).iso (fun t => (⟨t.1, t.2.1, t.2.2⟩ : S48)) (fun x => (x.f0, x.f1, x.f2)) (fun _ _ => rfl)
  refine h.congr (fun x => rfl) (fun l i => ?_) (fun x => ⟨fun hx => ⟨hx, rfl⟩, fun hx => hx.1⟩)
  unfold rdG
  cases rdN l i with
  | none => rfl
  | some a =>
    simp only [Option.bind_some]
    cases rdN l a.2 with
    | none => rfl
    | some b =>
      simp only [Option.bind_some]
      cases rdW l b.2 <;> rfl
theorem codecC : Codec putC rdC (fun x => okN x.f0 ∧ rng x.f1 ∧ okN x.f2) := by
  have h := (codecN.seq (codecW.seq codecN)).iso (fun t => (⟨t.1, t.2.1, t.2.2⟩ : S50)) (fun x => (x.f0, x.f1, x.f2)) (fun _ _ => rfl)
  refine h.congr (fun x => rfl) (fun l i => ?_) (fun x => ⟨fun hx => ⟨hx, rfl⟩, fun hx => hx.1⟩)
  unfold rdC
  cases rdN l i with
  | none => rfl
  | some a =>
    simp only [Option.bind_some]
    cases rdW l a.2 with
    | none => rfl
    | some b =>
      simp only [Option.bind_some]
      cases rdN l b.2 <;> rfl
def okW (f : S54) : Prop := f.f0.size ≤ 65536 ∧ ((f.f1.length : Int) ≤ 8 ∧ ∀ x ∈ f.f1, okN x) ∧ okN f.f2 ∧ (((f.f3.drop f.f1.length).length : Int) ≤ 32 ∧ ∀ x ∈ f.f3.drop f.f1.length, okN x) ∧ ((f.f4.length : Int) ≤ 32768 ∧ ∀ x ∈ f.f4, okN x.f0 ∧ rng x.f1 ∧ okN x.f2)
theorem codecF : Codec putF rdF (fun f => okW f ∧ f.f3 = f.f1 ++ f.f3.drop f.f1.length) := by
  have h := (codecT.seq ((codecR codecN 8 (by decide)).seq (codecN.seq ((codecR codecN 32 (by decide)).seq (codecR codecC 32768 (by decide)))))).iso
    (fun t => (⟨t.1, t.2.1, t.2.2.1, t.2.1 ++ t.2.2.2.1, t.2.2.2.2⟩ : S54)) (fun x => (x.f0, x.f1, x.f2, x.f3.drop x.f1.length, x.f4)) (fun t _ => by simp)
  refine h.congr (fun x => rfl) (fun l i => ?_) (fun x => ⟨fun hx => ⟨hx.1, by rw [← hx.2]⟩, fun hx => ⟨hx.1, (congrArg S54.f3 hx.2).symm⟩⟩)
  unfold rdF
  cases rdT l i with
  | none => rfl
  | some a =>
    simp only [Option.bind_some]
    cases rdRows (rdN l) 8 l a.2 with
    | none => rfl
    | some b =>
      simp only [Option.bind_some]
      cases rdN l b.2 with
      | none => rfl
      | some n =>
        simp only [Option.bind_some]
        cases rdRows (rdN l) 32 l n.2 with
        | none => rfl
        | some m =>
          simp only [Option.bind_some]
          cases rdRows (rdC l) 32768 l m.2 <;> rfl
def rdBoth (l : List Int) (i : Int) : Option ((List S48 × List S54) × Int) := (rdRows (rdG l) 64 l i).bind fun g => (rdRows (rdF l) 64 l g.2).bind fun f => some ((g.1, f.1), f.2)
def okA (t : List S48 × List S54) : Prop := ((t.1.length : Int) ≤ 64 ∧ ∀ x ∈ t.1, okN x.f0 ∧ okN x.f1 ∧ rng x.f2) ∧ ((t.2.length : Int) ≤ 64 ∧ ∀ f ∈ t.2, okW f ∧ f.f3 = f.f1 ++ f.f3.drop f.f1.length)
theorem codecA : Codec (fun t : List S48 × List S54 => rowG t.1 ++ rowF t.2) rdBoth okA := (codecR codecG 64 (by decide)).seq (codecR codecF 64 (by decide))
theorem rdAll_both (l : List Int) : rdAll l = rdBoth l 4 := rfl
end Go.Proofs.YteidgpaakoeefaaDoor
namespace Go.Proofs.YteidgpaakoeefaaDoor
open Go.RowKit Go.Proofs.YteidgpaakoeefaaDoorW.PrintWords Go.Proofs.YteidgpaakoeefaaDoorW.PrintLast Go.Proofs.YteidgpaakoeefaaDoorW.PrintMore
set_option linter.unusedVariables false
set_option linter.unusedSimpArgs false
theorem opF_frame (l : List Int) : opF (frameF l) = (l, true) := by
  have hl := frameF_len l
  have ht : (frameF l).take ((frameF l).length - 4) = l := by
    rw [hl, show l.length + 4 - 4 = l.length by omega]
    unfold frameF
    exact List.take_left' rfl
  unfold opF
  rw [if_neg (by omega), ht, if_pos rfl]
end Go.Proofs.YteidgpaakoeefaaDoor
namespace Go.Proofs.YteidgpaakoeefaaDoor
open Go.RowKit Go.Proofs.YteidgpaakoeefaaDoorW.PrintWords Go.Proofs.YteidgpaakoeefaaDoorW.PrintLast Go.Proofs.YteidgpaakoeefaaDoorW.PrintMore
set_option linter.unusedVariables false
set_option linter.unusedSimpArgs false
open PIm
def rngA (gs : List S48) (fs : List S54) : Prop := (∀ x ∈ gs, rng x.f0 ∧ rng x.f1 ∧ rng x.f2) ∧ ∀ f ∈ fs, rng f.f2 ∧ (∀ x ∈ f.f1, rng x) ∧ (∀ x ∈ f.f3, rng x) ∧ ∀ x ∈ f.f4, rng x.f0 ∧ rng x.f1 ∧ rng x.f2
def argA (gs : List S48) (fs : List S54) : Prop := gs.length ≤ 140737488355318 ∧ fs.length ≤ 140737488355318 ∧ (∀ f ∈ fs, fnIn f) ∧ rngA gs fs
theorem nameF_len {s : ByteArray} (h : nameF s = true) : s.size ≤ 24 := by
  unfold nameF at h
  split at h
  · cases h
  · simp only [Bool.and_eq_true, decide_eq_true_eq] at h; exact h.1
theorem globB_ok {g : S48} (h : globB g = true) : 0 ≤ g.f0 ∧ g.f0 ≤ 4 ∧ 0 ≤ g.f1 ∧ g.f1 ≤ 256 := by
  unfold globB typB at h
  simp only [Bool.and_eq_true, decide_eq_true_eq] at h
  omega
theorem typB_ok {t : Int} (h : typB t = true) : 0 ≤ t ∧ t ≤ 4 := by
  unfold typB at h
  simp only [Bool.and_eq_true, decide_eq_true_eq] at h
  omega
theorem fnB_ok {f : S54} (h : fnB f = true) : f.f0.size ≤ 24 ∧ f.f1.length ≤ 8 ∧ f.f3.length ≤ 32 ∧ f.f4.length ≤ 32768 ∧ (∀ x ∈ f.f3, 0 ≤ x ∧ x ≤ 4) ∧ (0 ≤ f.f2 ∧ f.f2 ≤ 4) ∧ f.f1.length ≤ f.f3.length ∧ f.f1 = f.f3.take f.f1.length ∧
    ∀ x ∈ f.f4, 1 ≤ x.f0 ∧ x.f0 ≤ 33 ∧ 0 ≤ x.f2 ∧ x.f2 ≤ 4 := by
  unfold fnB at h
  simp only [Bool.and_eq_true, decide_eq_true_eq, Bool.or_eq_true, Bool.not_eq_true', List.all_eq_true] at h
  obtain ⟨h0, h1, h3, h4, ht, h2, hle, heq, hi⟩ := h
  refine ⟨nameF_len h0, h1, h3, h4, fun x hx => typB_ok (ht x hx), ?_, hle, heq, fun x hx => ?_⟩
  · rcases h2 with h2 | h2
    · omega
    · exact typB_ok h2
  · have := (List.any_eq_false.1 hi) x hx
    unfold insBad at this
    simp only [Bool.or_eq_true, decide_eq_true_eq] at this
    omega
theorem okF_parts {gs : List S48} {fs : List S54} (h : okF gs fs = true) : gs.length ≤ 64 ∧ fs.length ≤ 64 ∧ (∀ x ∈ gs, globB x = true) ∧ ∀ f ∈ fs, fnB f = true := by
  unfold okF at h
  simp only [Bool.and_eq_true, decide_eq_true_eq, Bool.not_eq_true', List.any_eq_false] at h
  exact ⟨h.1, h.2.1, fun x hx => by simpa using h.2.2.1 x hx, fun f hf => by simpa using h.2.2.2 f hf⟩
theorem okF_okA {gs : List S48} {fs : List S54} (h : okF gs fs = true) (hr : rngA gs fs) : okA (gs, fs) := by
  obtain ⟨h1, h2, h3, h4⟩ := okF_parts h
  refine ⟨⟨by show (gs.length : Int) ≤ 64; omega, fun x hx => ?_⟩, ⟨by show (fs.length : Int) ≤ 64; omega, fun f hf => ?_⟩⟩
  · have a := globB_ok (h3 x hx)
    exact ⟨⟨a.1, by omega⟩, ⟨a.2.2.1, by omega⟩, (hr.1 x hx).2.2⟩
  · obtain ⟨b0, b1, b3, b4, bt, b2, ble, beq, bi⟩ := fnB_ok (h4 f hf)
    have hN : ∀ x ∈ f.f3, okN x := fun x hx => ⟨(bt x hx).1, by have := (bt x hx).2; omega⟩
    have hj : f.f3 = f.f1 ++ f.f3.drop f.f1.length := by
      conv => lhs; rw [← List.take_append_drop f.f1.length f.f3, ← beq]
    refine ⟨⟨by omega, ⟨by omega, fun x hx => hN x ?_⟩, ⟨b2.1, by have := b2.2; omega⟩, ⟨by rw [List.length_drop]; omega, fun x hx => hN x (List.mem_of_mem_drop hx)⟩, ⟨by omega, fun x hx => ?_⟩⟩, hj⟩
    · rw [beq] at hx; exact List.mem_of_mem_take hx
    · have := bi x hx
      exact ⟨⟨by omega, by omega⟩, ((hr.2 f hf).2.2.2 x hx).2.1, ⟨by omega, by omega⟩⟩
theorem flat_len {α : Type} {put : α → List Int} {c : Nat} : ∀ (l : List α), (∀ x ∈ l, (put x).length ≤ c) → (l.flatMap put).length ≤ l.length * c
  | [], _ => by simp
  | x :: l, h => by
    rw [List.flatMap_cons, List.length_append, List.length_cons, Nat.add_mul, Nat.one_mul]
    have h1 := h x (by simp)
    have h2 := flat_len l (fun y hy => h y (by simp [hy]))
    omega
theorem natB_le {n : Int} (h : okN n) : (natB n).length ≤ 1000 := (natB_len h.1 h.2).2
theorem wholeB_le {n : Int} (h : rng n) : (wholeB n).length ≤ 1000 := by
  unfold wholeB
  rw [venc_length]
  have hz : 0 ≤ zz n ∧ zz n < 18446744073709551616 := by unfold zz; have := h.1; have := h.2; split <;> omega
  have := vl10 (z := (zz n).toNat) (by omega)
  omega
set_option maxRecDepth 100000 in
theorem body_len {gs : List S48} {fs : List S54} (h : okA (gs, fs)) : (bodyF gs fs).length ≤ 140737488355318 := by
  obtain ⟨⟨h1, h2⟩, ⟨h3, h4⟩⟩ := h
  have h1' : (gs.length : Int) ≤ 64 := h1
  have h3' : (fs.length : Int) ≤ 64 := h3
  have a := flat_len (put := putG) (c := 3000) gs (fun x hx => by
    have q := h2 x hx
    have q0 := natB_le q.1; have q1 := natB_le q.2.1; have q2 := wholeB_le q.2.2
    unfold putG; simp only [List.length_append]; omega)
  have b := flat_len (put := putF) (c := 200000000) fs (fun f hf => by
    obtain ⟨⟨q0, ⟨q1, q1'⟩, q2, ⟨q3, q3'⟩, ⟨q4, q4'⟩⟩, q5⟩ := h4 f hf
    have e1 := flat_len (put := putI) (c := 1000) f.f1 (fun x hx => natB_le (q1' x hx))
    have e3 := flat_len (put := putI) (c := 1000) (f.f3.drop f.f1.length) (fun x hx => natB_le (q3' x hx))
    have e4 := flat_len (put := putC) (c := 3000) f.f4 (fun x hx => by
      have q := q4' x hx
      have w0 := natB_le q.1; have w1 := wholeB_le q.2.1; have w2 := natB_le q.2.2
      unfold putC; simp only [List.length_append]; omega)
    have n1 := natB_le (n := (f.f1.length : Int)) ⟨by omega, by omega⟩
    have n2 := natB_le q2
    have n3 := natB_le (n := ((f.f3.drop f.f1.length).length : Int)) ⟨by omega, by omega⟩
    have n4 := natB_le (n := (f.f4.length : Int)) ⟨by omega, by omega⟩
    have n0 := vl9 (z := f.f0.size) (by omega)
    unfold putF textB rowI rowC
    simp only [List.length_append, venc_length, bytesOf_length]
    have m1 : f.f1.length * 1000 ≤ 8000 := by omega
    have m3 : (f.f3.drop f.f1.length).length * 1000 ≤ 32000 := by omega
    have m4 : f.f4.length * 3000 ≤ 98304000 := by omega
    omega)
  have n1 := natB_le (n := (gs.length : Int)) ⟨by omega, by omega⟩
  have n3 := natB_le (n := (fs.length : Int)) ⟨by omega, by omega⟩
  unfold bodyF rowG rowF
  simp only [List.length_append, List.length_cons, List.length_nil]
  omega
theorem enc_args {gs : List S48} {fs : List S54} (h : argA gs fs) : image_Encode.f gs fs = some (encF gs fs) := by
  obtain ⟨h1, h2, h3, h4⟩ := h
  refine enc_f gs fs h1 h2 h3 (fun hok => ?_)
  obtain ⟨p1, p2, p3, p4⟩ := okF_parts hok
  refine ⟨h4.1, fun f hf => ?_, body_len (okF_okA hok h4)⟩
  obtain ⟨b0, b1, b3, b4, bt, b2, ble, beq, bi⟩ := fnB_ok (p4 f hf)
  obtain ⟨r2, r1, r3, r4⟩ := h4.2 f hf
  exact ⟨by omega, r1, r2, r3, r4, ble, by omega, by omega⟩
theorem body_eq (gs : List S48) (fs : List S54) : bodyF gs fs = [84, 73, 76, 84] ++ (rowG gs ++ rowF fs) := by unfold bodyF; rw [List.append_assoc]
theorem rdAll_body {gs : List S48} {fs : List S54} (h : okA (gs, fs)) (q : List Int) : rdAll (bodyF gs fs ++ q) = some ((gs, fs), ((bodyF gs fs).length : Int)) := by
  rw [rdAll_both, body_eq]
  have := codecA.there [84, 73, 76, 84] q (gs, fs) h
  rw [show (([84, 73, 76, 84] : List Int).length : Int) = 4 from rfl] at this
  rw [this]
  exact congrArg some (Prod.ext rfl (by simp only [List.length_append]; push_cast; rfl))
theorem body_take (gs : List S48) (fs : List S54) : (bodyF gs fs).take 4 = [84, 73, 76, 84] ∧ ¬ (bodyF gs fs).length < 4 := by
  rw [body_eq]
  exact ⟨rfl, by simp only [List.length_append, List.length_cons, List.length_nil]; omega⟩
theorem there {gs : List S48} {fs : List S54} (h : okF gs fs = true) (hr : rngA gs fs) (hl : ¬ 1048576 < (frameF (bodyF gs fs)).length) : decF (frameF (bodyF gs fs)) = (gs, fs, 0) := by
  unfold decF
  rw [if_neg hl, opF_frame]
  obtain ⟨t1, t2⟩ := body_take gs fs
  rw [if_neg (fun q => q.elim (fun q => by cases q) (fun q => q.elim t2 (fun q => q t1)))]
  have := rdAll_body (okF_okA h hr) []
  rw [List.append_nil] at this
  simp only [this]
  rw [if_pos ⟨trivial, h⟩]
theorem rd_body {b : List Int} (hb : Bytes b) (h4 : ¬ b.length < 4) (ht : b.take 4 = [84, 73, 76, 84]) {r : List S48 × List S54} {j : Int} (h : rdAll b = some (r, j)) : okA r ∧ b.take j.toNat = bodyF r.1 r.2 ∧ 4 ≤ j ∧ j ≤ b.length := by
  rw [rdAll_both] at h
  obtain ⟨a1, a2, a3, a4, a5⟩ := codecA.back b 4 r j hb h
  refine ⟨a5, ?_, a2, a3⟩
  have e := cut_join b (i := 0) (j := 4) (k := j) (by omega) (by omega) a2 a3
  simp only [Int.toNat_zero, List.drop_zero] at e
  rw [e, a4, body_eq]
  rw [show (4 : Int).toNat = 4 from rfl, ht]
theorem opF_bytes {l : List Int} (hb : Bytes l) : Bytes (opF l).1 := fun x hx => hb x (opF_sub l x hx)
theorem opF_true {l : List Int} (h : (opF l).2 = true) : frameF (opF l).1 = l := by
  unfold opF at h ⊢
  split at h
  · cases h
  · next h4 =>
    split at h
    · next he => rw [if_neg h4, if_pos he]; exact he
    · cases h
theorem back {l : List Int} (hb : Bytes l) {gs : List S48} {fs : List S54} (h : decF l = (gs, fs, 0)) : okF gs fs = true ∧ okA (gs, fs) ∧ l = frameF (bodyF gs fs) ∧ ¬ 1048576 < l.length := by
  unfold decF at h
  split at h
  · injection h with _ h; injection h with _ h; cases h
  next hl =>
  split at h
  · unfold badI at h; injection h with _ h; injection h with _ h; cases h
  next hc =>
  rcases hr : rdAll (opF l).1 with _ | ⟨r, j⟩
  · rw [hr] at h; simp only [badI] at h; injection h with _ h; injection h with _ h; cases h
  · rw [hr] at h
    simp only [] at h
    split at h
    · next hok =>
      injection h with h1 h; injection h with h2 h3
      have h4 : ¬ (opF l).1.length < 4 := fun q => hc (.inr (.inl q))
      have ht : (opF l).1.take 4 = [84, 73, 76, 84] := Decidable.not_not.1 (fun q => hc (.inr (.inr q)))
      have ho : (opF l).2 = true := by cases q : (opF l).2 with
        | true => rfl
        | false => exact absurd (.inl q) hc
      obtain ⟨a1, a2, a3, a4⟩ := rd_body (opF_bytes hb) h4 ht hr
      have e : (opF l).1 = bodyF r.1 r.2 := by
        rw [← a2, hok.1, Int.toNat_natCast, List.take_length]
      subst h1; subst h2
      refine ⟨hok.2, a1, ?_, hl⟩
      rw [← e]; exact (opF_true ho).symm
    · simp only [badI] at h; injection h with _ h; injection h with _ h; cases h
end Go.Proofs.YteidgpaakoeefaaDoor
namespace Go.Proofs.YteidgpaakoeefaaDoor.PIm
open Go.RowKit Go.Proofs.YteidgpaakoeefaaDoorW.PrintWords Go.Proofs.YteidgpaakoeefaaDoorW.PrintLast Go.Proofs.YteidgpaakoeefaaDoorW.PrintMore
attribute [local go_sem] max2_int min2_int max_two min_two max_three min_three max_four min_four   -- for this text's walks alone
set_option linter.unusedVariables false
set_option linter.unusedSimpArgs false
theorem eqA48 (d : Nat) (w : World) (x0 y0 : Int) (x1 y1 : Int) (x2 y2 : Int) :
    (Op.equalIn (d + 2) 48 (.agg #[.int .i64 x0, .int .i64 x1, .int .i64 x2]) (.agg #[.int .i64 y0, .int .i64 y1, .int .i64 y2])).run Tryd.prog w = .ok (x0 == y0 && (x1 == y1 && (x2 == y2))) w := by
  refine eqA_of Tryd.underlying48 (by kernel_rfl) ?_
  refine eqf_cons (by rfl) (by go_simp; rfl) (by go_simp; rfl) (by go_simp) ?_
  refine eqf_cons (by rfl) (by go_simp; rfl) (by go_simp; rfl) (by go_simp) ?_
  exact eqf_last (by rfl) (by go_simp; rfl) (by go_simp; rfl) (by go_simp)
end Go.Proofs.YteidgpaakoeefaaDoor.PIm
namespace Go.Proofs.YteidgpaakoeefaaDoor.PIm
open Go.RowKit Go.Proofs.YteidgpaakoeefaaDoorW.PrintWords Go.Proofs.YteidgpaakoeefaaDoorW.PrintLast Go.Proofs.YteidgpaakoeefaaDoorW.PrintMore
attribute [local go_sem] max2_int min2_int max_two min_two max_three min_three max_four min_four   -- for this text's walks alone
set_option linter.unusedVariables false
set_option linter.unusedSimpArgs false
theorem eqA50 (d : Nat) (w : World) (x0 y0 : Int) (x1 y1 : Int) (x2 y2 : Int) :
    (Op.equalIn (d + 2) 50 (.agg #[.int .i64 x0, .int .i64 x1, .int .i64 x2]) (.agg #[.int .i64 y0, .int .i64 y1, .int .i64 y2])).run Tryd.prog w = .ok (x0 == y0 && (x1 == y1 && (x2 == y2))) w := by
  refine eqA_of Tryd.underlying50 (by kernel_rfl) ?_
  refine eqf_cons (by rfl) (by go_simp; rfl) (by go_simp; rfl) (by go_simp) ?_
  refine eqf_cons (by rfl) (by go_simp; rfl) (by go_simp; rfl) (by go_simp) ?_
  exact eqf_last (by rfl) (by go_simp; rfl) (by go_simp; rfl) (by go_simp)
end Go.Proofs.YteidgpaakoeefaaDoor.PIm
namespace Go.Proofs.YteidgpaakoeefaaDoor
open Go.RowKit Go.Proofs.YteidgpaakoeefaaDoorW.PrintWords Go.Proofs.YteidgpaakoeefaaDoorW.PrintLast Go.Proofs.YteidgpaakoeefaaDoorW.PrintMore
set_option linter.unusedVariables false
set_option linter.unusedSimpArgs false
open PIm
attribute [local go_sem high] eqA48 eqA50
def Evt {α : Type} (f : Nat → Option α) (v : α) : Prop := ∃ k0, ∀ k, k0 ≤ k → f k = some v
theorem Evt.step {α : Type} {f g : Nat → Option α} {v : α} (h : Evt g v) (e : ∃ k0, ∀ k, k0 ≤ k → f (k + 1) = g k) : Evt f v := by
  obtain ⟨a, ha⟩ := h; obtain ⟨b, hb⟩ := e
  refine ⟨max a b + 1, fun k hk => ?_⟩
  obtain ⟨k, rfl⟩ : ∃ m, k = m + 1 := ⟨k - 1, by omega⟩
  rw [hb k (by omega), ha k (by omega)]
theorem Evt.and {α β : Type} {f : Nat → Option α} {v : α} {g : Nat → Option β} {u : β} (h1 : Evt f v) (h2 : Evt g u) : ∃ k0, ∀ k, k0 ≤ k → f k = some v ∧ g k = some u := by
  obtain ⟨a, ha⟩ := h1; obtain ⟨b, hb⟩ := h2
  exact ⟨max a b, fun k hk => ⟨ha k (by omega), hb k (by omega)⟩⟩
theorem wrap_succ {i n : Nat} (h : i < n) (hn : n ≤ 140737488355328) : wrap64 ((i : Int) + 1) = ((i + 1 : Nat) : Int) := by simp only [wrap64]; omega
theorem row_refl_l (x : List Int) (hx : x.length ≤ 140737488355318) : ∀ (d i : Nat), x.length ≤ i + d → i ≤ x.length → Evt (fun k => tiltyardref14_row.l0 k x x (i : Int)) true
  | 0, i, h, h2 => ⟨1, fun k hk => by
      obtain ⟨k, rfl⟩ : ∃ m, k = m + 1 := ⟨k - 1, by omega⟩
      show tiltyardref14_row.l0 (k + 1) x x (i : Int) = some true
      unfold tiltyardref14_row.l0
      rw [if_neg (by omega)]⟩
  | d + 1, i, h, h2 => by
    by_cases hi : i < x.length
    · refine (row_refl_l x hx d (i + 1) (by omega) (by omega)).step ⟨0, fun k _ => ?_⟩
      show tiltyardref14_row.l0 (k + 1) x x (i : Int) = _
      conv => lhs; unfold tiltyardref14_row.l0
      rw [if_pos (by omega), if_pos (by omega), if_pos (by omega), if_pos rfl, wrap_succ hi (by omega)]
    · refine ⟨1, fun k hk => ?_⟩
      obtain ⟨k, rfl⟩ : ∃ m, k = m + 1 := ⟨k - 1, by omega⟩
      show tiltyardref14_row.l0 (k + 1) x x (i : Int) = some true
      unfold tiltyardref14_row.l0
      rw [if_neg (by omega)]
theorem row_refl (x : List Int) (hx : x.length ≤ 140737488355318) : Evt (fun k => tiltyardref14_row.f k x x) true := by
  obtain ⟨a, ha⟩ := row_refl_l x hx x.length 0 (by omega) (by omega)
  refine ⟨a, fun k hk => ?_⟩
  show tiltyardref14_row.f k x x = some true
  unfold tiltyardref14_row.f
  rw [if_pos rfl]
  exact ha k hk
theorem row_same (A0 : Option Addr) (c0 : Nat) (A1 : Option Addr) (c1 : Nat) (l : List Int) (w : World) (hr0 : Kd.C (Kd.int .i64) w A0 l.length l) (hc0 : l.length ≤ c0) (hr1 : Kd.C (Kd.int .i64) w A1 l.length l) (hc1 : l.length ≤ c1) (hl : l.length ≤ 140737488355318) :
    Calls Tryd.prog 33 #[.slice A0 l.length c0, .slice A1 l.length c1] w fun e w' => e = .returned (.bool true) ∧ Below w.heap.size w w' := by
  obtain ⟨a, ha⟩ := row_refl l hl
  refine (tiltyardref14_row.calls a A0 c0 l A1 c1 l true w hr0 hc0 hr1 hc1 (ha a (by omega))).mono fun e w' h => ⟨h.1, ?_⟩
  obtain ⟨n, rfl⟩ := h.2.out
  exact pw_below_drewN (Below.refl _ _) n
def sameA (gs : List S48) (fs : List S54) : Prop := gs.length ≤ 140737488355318 ∧ fs.length ≤ 140737488355318 ∧ (∀ f ∈ fs, fnIn f) ∧ True
instance (gs : List S48) (fs : List S54) : Decidable (sameA gs fs) := by unfold sameA; infer_instance
instance : DecidableEq S48 := fun a b => decidable_of_iff (a.f0 = b.f0 ∧ a.f1 = b.f1 ∧ a.f2 = b.f2) (by cases a; cases b; simp)
instance : DecidableEq S50 := fun a b => decidable_of_iff (a.f0 = b.f0 ∧ a.f1 = b.f1 ∧ a.f2 = b.f2) (by cases a; cases b; simp)
instance : DecidableEq S54 := fun a b => decidable_of_iff (a.f0 = b.f0 ∧ a.f1 = b.f1 ∧ a.f2 = b.f2 ∧ a.f3 = b.f3 ∧ a.f4 = b.f4) (by cases a; cases b; simp)
theorem ne3 (a b c : Int) : (!(a == a) || (!(b == b) || !(c == c))) = false := by simp
theorem and3 (a b c : Int) : ((a == a) && ((b == b) && (c == c))) = true := by simp
set_option maxHeartbeats 8000000 in
set_option maxRecDepth 100000 in
theorem same_calls (A0 : Option Addr) (c0 : Nat) (A1 : Option Addr) (c1 : Nat) (B0 : Option Addr) (d0 : Nat) (B1 : Option Addr) (d1 : Nat) (gs : List S48) (fs : List S54) (w : World) (hr0 : Kd.C k48 w A0 gs.length gs) (hr1 : Kd.C k54 w A1 fs.length fs) (hs0 : Kd.C k48 w B0 gs.length gs) (hs1 : Kd.C k54 w B1 fs.length fs) (hA : sameA gs fs) :
    Calls Tryd.prog 12 #[.agg #[.slice A0 gs.length c0, .slice A1 fs.length c1], .agg #[.slice B0 gs.length d0, .slice B1 fs.length d1]] w
      fun e w' => e = .returned (.bool true) ∧ Below w.heap.size w w' := by
  have HB := Aside0.mk (Below.refl w.heap.size w)
  have hu25 := Tryd.underlying25; have hu54 := Tryd.underlying54
  have HR0 := Aside0.mk hr0; have HR1 := Aside0.mk hr1; have HS0 := Aside0.mk hs0; have HS1 := Aside0.mk hs1; have HA := Aside0.mk hA
  clear hr0 hr1 hs0 hs1 hA
  go_enter Tryd.func12, Tryd.ntmps12
  go_wp2_with (first | ((with_reducible refine gate_dst (N := 2) rfl ?_); refine box_event ?hg (N := 2) ?hd (cs := #[.slice A0 gs.length c0, .slice A1 fs.length c1]) (t := 25) ?hr ?_; (case hd => rfl); (case hg => rfl); (case hr => first | (go_simp; done) | (go_simp; rfl)); intro ga hg_ W1 hbox_ hb_; have GEga := Aside0.mk ((by rw [hg_]; exact (below_size HB.out)) : w.heap.size ≤ ga); clear hg_; have n_ := Aside0.mk (below_step HB.out hb_); clear HB; have HB := n_; clear n_; have BKga := Aside0.mk hbox_; clear hbox_ hb_; have hcga_0 : W1.cell? ⟨ga, 0, none⟩ = some (.slice A0 gs.length c0) := (blk_cell BKga.out 0).trans rfl; have hfga_0 := blk_frozen BKga.out 0; have hcga_1 : W1.cell? ⟨ga, 1, none⟩ = some (.slice A1 fs.length c1) := (blk_cell BKga.out 1).trans rfl; have hfga_1 := blk_frozen BKga.out 1) | ((with_reducible refine gate_dst (N := 3) rfl ?_); refine box_event ?hg (N := 3) ?hd (cs := #[.slice B0 gs.length d0, .slice B1 fs.length d1]) (t := 25) ?hr ?_; (case hd => rfl); (case hg => rfl); (case hr => first | (go_simp; done) | (go_simp; rfl)); intro gb hg_ W2 hbox_ hb_; have GEgb := Aside0.mk ((by rw [hg_]; exact (below_size HB.out)) : w.heap.size ≤ gb); have NBga_gb : ga ≠ gb := (by rw [hg_]; exact Nat.ne_of_lt (blk_lt BKga.out)); have NBgb_ga : gb ≠ ga := Ne.symm NBga_gb; clear hg_; have n_ := Aside0.mk (blk_below BKga.out hb_); clear BKga; have BKga := n_; clear n_; clear hcga_0 hfga_0; clear hcga_1 hfga_1; have n_ := Aside0.mk (below_step HB.out hb_); clear HB; have HB := n_; clear n_; have BKgb := Aside0.mk hbox_; clear hbox_ hb_; have hcga_0 : W2.cell? ⟨ga, 0, none⟩ = some (.slice A0 gs.length c0) := (blk_cell BKga.out 0).trans rfl; have hfga_0 := blk_frozen BKga.out 0; have hcga_1 : W2.cell? ⟨ga, 1, none⟩ = some (.slice A1 fs.length c1) := (blk_cell BKga.out 1).trans rfl; have hfga_1 := blk_frozen BKga.out 1; have hcgb_0 : W2.cell? ⟨gb, 0, none⟩ = some (.slice B0 gs.length d0) := (blk_cell BKgb.out 0).trans rfl; have hfgb_0 := blk_frozen BKgb.out 0; have hcgb_1 : W2.cell? ⟨gb, 1, none⟩ = some (.slice B1 fs.length d1) := (blk_cell BKgb.out 1).trans rfl; have hfgb_1 := blk_frozen BKgb.out 1))
  clear hcga_0 hfga_0
  clear hcga_1 hfga_1
  clear hcgb_0 hfgb_0
  clear hcgb_1 hfgb_1
  go_loopw [5] (fun vi wr => ∃ i : Nat, vi = .int .i64 i ∧ Aside0 (i ≤ gs.length) ∧ Aside0 (wr.heap[ga]? = some (.cells #[.slice A0 gs.length c0, .slice A1 fs.length c1] 25 (0, 0))) ∧ Aside0 (wr.heap[gb]? = some (.cells #[.slice B0 gs.length d0, .slice B1 fs.length d1] 25 (0, 0))) ∧ Aside0 (Below w.heap.size w wr)) (fun vi _ => gs.length - (intOf vi).toNat)
  case atStart => exact ⟨0, rfl, ⟨Nat.zero_le _⟩, BKga, BKgb, HB⟩
  case round =>
    clear BKga BKgb HB
    obtain ⟨i, rfl, HN, BKga, BKgb, HB⟩ := hrel
    have hcga_0 : wr.cell? ⟨ga, 0, none⟩ = some (.slice A0 gs.length c0) := (blk_cell BKga.out 0).trans rfl
    have hfga_0 := blk_frozen BKga.out 0
    have hcga_1 : wr.cell? ⟨ga, 1, none⟩ = some (.slice A1 fs.length c1) := (blk_cell BKga.out 1).trans rfl
    have hfga_1 := blk_frozen BKga.out 1
    have hcgb_0 : wr.cell? ⟨gb, 0, none⟩ = some (.slice B0 gs.length d0) := (blk_cell BKgb.out 0).trans rfl
    have hfgb_0 := blk_frozen BKgb.out 0
    have hcgb_1 : wr.cell? ⟨gb, 1, none⟩ = some (.slice B1 fs.length d1) := (blk_cell BKgb.out 1).trans rfl
    have hfgb_1 := blk_frozen BKgb.out 1
    by_cases hi : i < gs.length
    · have z1 : decide ((i : Int) < (gs.length : Int)) = true := decide_eq_true (by omega)
      have hlen := HA.out.1
      have q1 : (0 ≤ (i : Int)) = True := eq_true (by omega)
      have q2 : ((i : Int) < (gs.length : Int)) = True := eq_true (by omega)
      obtain ⟨ada, ea, x0, x1, x2⟩ := at_T48 HR0.out (i : Int) (by omega) (by omega)
      obtain ⟨adb, eb, y0, y1, y2⟩ := at_T48 HS0.out (i : Int) (by omega) (by omega)
      cases ea; cases eb
      replace x0 := (HB.out.cell (World.block_lt_of_cell? w _ x0)).trans x0
      replace x1 := (HB.out.cell (World.block_lt_of_cell? w _ x1)).trans x1
      replace x2 := (HB.out.cell (World.block_lt_of_cell? w _ x2)).trans x2
      replace y0 := (HB.out.cell (World.block_lt_of_cell? w _ y0)).trans y0
      replace y1 := (HB.out.cell (World.block_lt_of_cell? w _ y1)).trans y1
      replace y2 := (HB.out.cell (World.block_lt_of_cell? w _ y2)).trans y2
      generalize rd_T48 gs (i : Int) = g at x0 x1 x2 y0 y1 y2
      simp only [Int.toNat_natCast] at x0 x1 x2 y0 y1 y2
      have n3 := ne3 g.f0 g.f1 g.f2; have a3 := and3 g.f0 g.f1 g.f2
      have HWS := Aside0.mk (wrap_succ hi (by omega))
      have HI := Aside0.mk hi
      clear hi hlen
      go_wp2
      go_quiet (fail)
      go_wp2
      rw [HWS.out]
      exact ⟨⟨i + 1, rfl, ⟨HI.out⟩, ⟨blk_drewN BKga.out _⟩, ⟨blk_drewN BKgb.out _⟩, ⟨pw_below_drewN HB.out _⟩⟩, by have := HI.out; simp only [intOf, Int.toNat_natCast]; omega⟩
    · have z1 : decide ((i : Int) < (gs.length : Int)) = false := decide_eq_false (by omega)
      have z2 : decide (i < gs.length) = false := decide_eq_false hi
      clear hi HN
      go_wp2_with fail
      clear hcga_0 hfga_0
      clear hcga_1 hfga_1
      clear hcgb_0 hfgb_0
      clear hcgb_1 hfgb_1
      go_loopw [6] (fun vi wr => ∃ i : Nat, vi = .int .i64 i ∧ Aside0 (i ≤ fs.length) ∧ Aside0 (wr.heap[ga]? = some (.cells #[.slice A0 gs.length c0, .slice A1 fs.length c1] 25 (0, 0))) ∧ Aside0 (wr.heap[gb]? = some (.cells #[.slice B0 gs.length d0, .slice B1 fs.length d1] 25 (0, 0))) ∧ Aside0 (Below w.heap.size w wr)) (fun vi _ => fs.length - (intOf vi).toNat)
      case atStart => exact ⟨0, rfl, ⟨Nat.zero_le _⟩, BKga, BKgb, HB⟩
      case round =>
        clear BKga BKgb HB
        obtain ⟨i, rfl, HN, BKga, BKgb, HB⟩ := hrel
        have hcga_0 : wr.cell? ⟨ga, 0, none⟩ = some (.slice A0 gs.length c0) := (blk_cell BKga.out 0).trans rfl
        have hfga_0 := blk_frozen BKga.out 0
        have hcga_1 : wr.cell? ⟨ga, 1, none⟩ = some (.slice A1 fs.length c1) := (blk_cell BKga.out 1).trans rfl
        have hfga_1 := blk_frozen BKga.out 1
        have hcgb_0 : wr.cell? ⟨gb, 0, none⟩ = some (.slice B0 gs.length d0) := (blk_cell BKgb.out 0).trans rfl
        have hfgb_0 := blk_frozen BKgb.out 0
        have hcgb_1 : wr.cell? ⟨gb, 1, none⟩ = some (.slice B1 fs.length d1) := (blk_cell BKgb.out 1).trans rfl
        have hfgb_1 := blk_frozen BKgb.out 1
        by_cases hi : i < fs.length
        · have z1 : decide ((i : Int) < (fs.length : Int)) = true := decide_eq_true (by omega)
          have hlen := HA.out.2.1
          have q1 : (0 ≤ (i : Int)) = True := eq_true (by omega)
          have q2 : ((i : Int) < (fs.length : Int)) = True := eq_true (by omega)
          have HFI := Aside0.mk (HA.out.2.2.1 _ (show rd_T54 fs (i : Int) ∈ fs by unfold rd_T54; rw [Int.toNat_natCast, List.getD_eq_getElem?_getD, List.getElem?_eq_getElem hi]; exact List.getElem_mem hi))
          obtain ⟨adx, Ax1, bx1, Ax3, bx3, Ax4, bx4, ex, x0, x1, x2, x3, x4, lx1, gx1, lx3, gx3, lx4, gx4⟩ := at_T54 HR1.out (i : Int) (by omega) (by omega)
          cases ex
          replace x0 := (HB.out.cell (World.block_lt_of_cell? w _ x0)).trans x0
          replace x1 := (HB.out.cell (World.block_lt_of_cell? w _ x1)).trans x1
          replace x2 := (HB.out.cell (World.block_lt_of_cell? w _ x2)).trans x2
          replace x3 := (HB.out.cell (World.block_lt_of_cell? w _ x3)).trans x3
          replace x4 := (HB.out.cell (World.block_lt_of_cell? w _ x4)).trans x4
          have Gx1 := Aside0.mk gx1; have Lx1 := Aside0.mk lx1; clear gx1 lx1
          have Gx3 := Aside0.mk gx3; have Lx3 := Aside0.mk lx3; clear gx3 lx3
          have Gx4 := Aside0.mk gx4; have Lx4 := Aside0.mk lx4; clear gx4 lx4
          obtain ⟨ady, Ay1, by1, Ay3, by3, Ay4, by4, ey, y0, y1, y2, y3, y4, ly1, gy1, ly3, gy3, ly4, gy4⟩ := at_T54 HS1.out (i : Int) (by omega) (by omega)
          cases ey
          replace y0 := (HB.out.cell (World.block_lt_of_cell? w _ y0)).trans y0
          replace y1 := (HB.out.cell (World.block_lt_of_cell? w _ y1)).trans y1
          replace y2 := (HB.out.cell (World.block_lt_of_cell? w _ y2)).trans y2
          replace y3 := (HB.out.cell (World.block_lt_of_cell? w _ y3)).trans y3
          replace y4 := (HB.out.cell (World.block_lt_of_cell? w _ y4)).trans y4
          have Gy1 := Aside0.mk gy1; have Ly1 := Aside0.mk ly1; clear gy1 ly1
          have Gy3 := Aside0.mk gy3; have Ly3 := Aside0.mk ly3; clear gy3 ly3
          have Gy4 := Aside0.mk gy4; have Ly4 := Aside0.mk ly4; clear gy4 ly4
          simp only [Int.toNat_natCast] at x0 x1 x2 x3 x4 y0 y1 y2 y3 y4
          have HWS := Aside0.mk (wrap_succ hi (by omega))
          have HI := Aside0.mk hi
          clear hi hlen
          generalize rd_T54 fs (i : Int) = f at *
          have HL1 := Aside0.mk HFI.out.2.1; have HL3 := Aside0.mk HFI.out.2.2.1
          have s1 : (f.f0.toList == f.f0.toList) = true := by simp
          have s2 : (f.f2 == f.f2) = true := by simp
          have s2b : (f.f2 != f.f2) = false := by simp
          have s3 : ((f.f4.length : Int) != (f.f4.length : Int)) = false := by simp
          have s3b : (f.f4.length != f.f4.length) = false := by simp
          have fgb : ∀ o, (wr.alloc o).cell? ⟨gb, 1, none⟩ = some (.slice (some ady) fs.length d1) := fun o => ((below_alloc (Below.refl wr.heap.size wr) o).cell (World.block_lt_of_cell? wr _ hcgb_1)).trans hcgb_1
          have fy0 := fun o => ((below_alloc (Below.refl wr.heap.size wr) o).cell (World.block_lt_of_cell? wr _ y0)).trans y0
          have fy1 := fun o => ((below_alloc (Below.refl wr.heap.size wr) o).cell (World.block_lt_of_cell? wr _ y1)).trans y1
          have fy2 := fun o => ((below_alloc (Below.refl wr.heap.size wr) o).cell (World.block_lt_of_cell? wr _ y2)).trans y2
          have fy3 := fun o => ((below_alloc (Below.refl wr.heap.size wr) o).cell (World.block_lt_of_cell? wr _ y3)).trans y3
          have fy4 := fun o => ((below_alloc (Below.refl wr.heap.size wr) o).cell (World.block_lt_of_cell? wr _ y4)).trans y4
          go_wp2_with fail
          have kx : Aside0 (((wr.alloc (.cells #[.string f.f0, .slice Ax1 f.f1.length bx1, .int .i64 f.f2, .slice Ax3 f.f3.length bx3, .slice Ax4 f.f4.length bx4] 54 (0, 0))).alloc (.cells #[.string f.f0, .slice Ay1 f.f1.length by1, .int .i64 f.f2, .slice Ay3 f.f3.length by3, .slice Ay4 f.f4.length by4] 54 (0, 0))).heap[wr.heap.size]? = some (.cells #[.string f.f0, .slice Ax1 f.f1.length bx1, .int .i64 f.f2, .slice Ax3 f.f3.length bx3, .slice Ax4 f.f4.length bx4] 54 (0, 0))) := ⟨blk_alloc (blk_new wr _) _⟩
          have ky : Aside0 (((wr.alloc (.cells #[.string f.f0, .slice Ax1 f.f1.length bx1, .int .i64 f.f2, .slice Ax3 f.f3.length bx3, .slice Ax4 f.f4.length bx4] 54 (0, 0))).alloc (.cells #[.string f.f0, .slice Ay1 f.f1.length by1, .int .i64 f.f2, .slice Ay3 f.f3.length by3, .slice Ay4 f.f4.length by4] 54 (0, 0))).heap[wr.heap.size + 1]? = some (.cells #[.string f.f0, .slice Ay1 f.f1.length by1, .int .i64 f.f2, .slice Ay3 f.f3.length by3, .slice Ay4 f.f4.length by4] 54 (0, 0))) := ⟨by have := blk_new (wr.alloc (.cells #[.string f.f0, .slice Ax1 f.f1.length bx1, .int .i64 f.f2, .slice Ax3 f.f3.length bx3, .slice Ax4 f.f4.length bx4] 54 (0, 0))) (.cells #[.string f.f0, .slice Ay1 f.f1.length by1, .int .i64 f.f2, .slice Ay3 f.f3.length by3, .slice Ay4 f.f4.length by4] 54 (0, 0)); simpa using this⟩
          have ka : Aside0 (((wr.alloc (.cells #[.string f.f0, .slice Ax1 f.f1.length bx1, .int .i64 f.f2, .slice Ax3 f.f3.length bx3, .slice Ax4 f.f4.length bx4] 54 (0, 0))).alloc (.cells #[.string f.f0, .slice Ay1 f.f1.length by1, .int .i64 f.f2, .slice Ay3 f.f3.length by3, .slice Ay4 f.f4.length by4] 54 (0, 0))).heap[ga]? = some (.cells #[.slice A0 gs.length c0, .slice (some adx) fs.length c1] 25 (0, 0))) := ⟨blk_alloc (blk_alloc BKga.out _) _⟩
          have kb : Aside0 (((wr.alloc (.cells #[.string f.f0, .slice Ax1 f.f1.length bx1, .int .i64 f.f2, .slice Ax3 f.f3.length bx3, .slice Ax4 f.f4.length bx4] 54 (0, 0))).alloc (.cells #[.string f.f0, .slice Ay1 f.f1.length by1, .int .i64 f.f2, .slice Ay3 f.f3.length by3, .slice Ay4 f.f4.length by4] 54 (0, 0))).heap[gb]? = some (.cells #[.slice B0 gs.length d0, .slice (some ady) fs.length d1] 25 (0, 0))) := ⟨blk_alloc (blk_alloc BKgb.out _) _⟩
          have kk : Aside0 (Below w.heap.size w ((wr.alloc (.cells #[.string f.f0, .slice Ax1 f.f1.length bx1, .int .i64 f.f2, .slice Ax3 f.f3.length bx3, .slice Ax4 f.f4.length bx4] 54 (0, 0))).alloc (.cells #[.string f.f0, .slice Ay1 f.f1.length by1, .int .i64 f.f2, .slice Ay3 f.f3.length by3, .slice Ay4 f.f4.length by4] 54 (0, 0)))) := ⟨below_alloc (below_alloc HB.out _) _⟩
          clear x0 x1 x2 x3 x4 y0 y1 y2 y3 y4 fgb fy0 fy1 fy2 fy3 fy4 BKga BKgb HB
          clear hcga_0 hfga_0
          clear hcga_1 hfga_1
          clear hcgb_0 hfgb_0
          clear hcgb_1 hfgb_1
          have BKga := ka; have BKgb := kb; have BKgx := kx; have BKgy := ky; have HB := kk; clear ka kb kx ky kk
          generalize ((wr.alloc (.cells #[.string f.f0, .slice Ax1 f.f1.length bx1, .int .i64 f.f2, .slice Ax3 f.f3.length bx3, .slice Ax4 f.f4.length bx4] 54 (0, 0))).alloc (.cells #[.string f.f0, .slice Ay1 f.f1.length by1, .int .i64 f.f2, .slice Ay3 f.f3.length by3, .slice Ay4 f.f4.length by4] 54 (0, 0))) = W3 at *
          generalize wr.heap.size + 1 = gy at *
          generalize wr.heap.size = gx at *
          have hcga_0 : W3.cell? ⟨ga, 0, none⟩ = some (.slice A0 gs.length c0) := (blk_cell BKga.out 0).trans rfl
          have hfga_0 := blk_frozen BKga.out 0
          have hcga_1 : W3.cell? ⟨ga, 1, none⟩ = some (.slice (some adx) fs.length c1) := (blk_cell BKga.out 1).trans rfl
          have hfga_1 := blk_frozen BKga.out 1
          have hcgb_0 : W3.cell? ⟨gb, 0, none⟩ = some (.slice B0 gs.length d0) := (blk_cell BKgb.out 0).trans rfl
          have hfgb_0 := blk_frozen BKgb.out 0
          have hcgb_1 : W3.cell? ⟨gb, 1, none⟩ = some (.slice (some ady) fs.length d1) := (blk_cell BKgb.out 1).trans rfl
          have hfgb_1 := blk_frozen BKgb.out 1
          have hcgx_0 : W3.cell? ⟨gx, 0, none⟩ = some (.string f.f0) := (blk_cell BKgx.out 0).trans rfl
          have hfgx_0 := blk_frozen BKgx.out 0
          have hcgx_1 : W3.cell? ⟨gx, 1, none⟩ = some (.slice Ax1 f.f1.length bx1) := (blk_cell BKgx.out 1).trans rfl
          have hfgx_1 := blk_frozen BKgx.out 1
          have hcgx_2 : W3.cell? ⟨gx, 2, none⟩ = some (.int .i64 f.f2) := (blk_cell BKgx.out 2).trans rfl
          have hfgx_2 := blk_frozen BKgx.out 2
          have hcgx_3 : W3.cell? ⟨gx, 3, none⟩ = some (.slice Ax3 f.f3.length bx3) := (blk_cell BKgx.out 3).trans rfl
          have hfgx_3 := blk_frozen BKgx.out 3
          have hcgx_4 : W3.cell? ⟨gx, 4, none⟩ = some (.slice Ax4 f.f4.length bx4) := (blk_cell BKgx.out 4).trans rfl
          have hfgx_4 := blk_frozen BKgx.out 4
          have hcgy_0 : W3.cell? ⟨gy, 0, none⟩ = some (.string f.f0) := (blk_cell BKgy.out 0).trans rfl
          have hfgy_0 := blk_frozen BKgy.out 0
          have hcgy_1 : W3.cell? ⟨gy, 1, none⟩ = some (.slice Ay1 f.f1.length by1) := (blk_cell BKgy.out 1).trans rfl
          have hfgy_1 := blk_frozen BKgy.out 1
          have hcgy_2 : W3.cell? ⟨gy, 2, none⟩ = some (.int .i64 f.f2) := (blk_cell BKgy.out 2).trans rfl
          have hfgy_2 := blk_frozen BKgy.out 2
          have hcgy_3 : W3.cell? ⟨gy, 3, none⟩ = some (.slice Ay3 f.f3.length by3) := (blk_cell BKgy.out 3).trans rfl
          have hfgy_3 := blk_frozen BKgy.out 3
          have hcgy_4 : W3.cell? ⟨gy, 4, none⟩ = some (.slice Ay4 f.f4.length by4) := (blk_cell BKgy.out 4).trans rfl
          have hfgy_4 := blk_frozen BKgy.out 4
          ((with_reducible refine (row_same Ax1 bx1 Ay1 by1 f.f1 _ (Kd.C_below Gx1.out HB.out) Lx1.out (Kd.C_below Gy1.out HB.out) Ly1.out HL1.out).mono ?_); rintro e_ W4 ⟨rfl, hb_⟩)
          have n_ := Aside0.mk (blk_below BKga.out hb_); clear BKga; have BKga := n_; clear n_
          clear hcga_0 hfga_0
          clear hcga_1 hfga_1
          have n_ := Aside0.mk (blk_below BKgb.out hb_); clear BKgb; have BKgb := n_; clear n_
          clear hcgb_0 hfgb_0
          clear hcgb_1 hfgb_1
          have n_ := Aside0.mk (blk_below BKgx.out hb_); clear BKgx; have BKgx := n_; clear n_
          clear hcgx_0 hfgx_0
          clear hcgx_1 hfgx_1
          clear hcgx_2 hfgx_2
          clear hcgx_3 hfgx_3
          clear hcgx_4 hfgx_4
          have n_ := Aside0.mk (blk_below BKgy.out hb_); clear BKgy; have BKgy := n_; clear n_
          clear hcgy_0 hfgy_0
          clear hcgy_1 hfgy_1
          clear hcgy_2 hfgy_2
          clear hcgy_3 hfgy_3
          clear hcgy_4 hfgy_4
          have n_ := Aside0.mk (below_step HB.out hb_); clear HB; have HB := n_; clear n_
          clear hb_
          have hcga_0 : W4.cell? ⟨ga, 0, none⟩ = some (.slice A0 gs.length c0) := (blk_cell BKga.out 0).trans rfl
          have hfga_0 := blk_frozen BKga.out 0
          have hcga_1 : W4.cell? ⟨ga, 1, none⟩ = some (.slice (some adx) fs.length c1) := (blk_cell BKga.out 1).trans rfl
          have hfga_1 := blk_frozen BKga.out 1
          have hcgb_0 : W4.cell? ⟨gb, 0, none⟩ = some (.slice B0 gs.length d0) := (blk_cell BKgb.out 0).trans rfl
          have hfgb_0 := blk_frozen BKgb.out 0
          have hcgb_1 : W4.cell? ⟨gb, 1, none⟩ = some (.slice (some ady) fs.length d1) := (blk_cell BKgb.out 1).trans rfl
          have hfgb_1 := blk_frozen BKgb.out 1
          have hcgx_0 : W4.cell? ⟨gx, 0, none⟩ = some (.string f.f0) := (blk_cell BKgx.out 0).trans rfl
          have hfgx_0 := blk_frozen BKgx.out 0
          have hcgx_1 : W4.cell? ⟨gx, 1, none⟩ = some (.slice Ax1 f.f1.length bx1) := (blk_cell BKgx.out 1).trans rfl
          have hfgx_1 := blk_frozen BKgx.out 1
          have hcgx_2 : W4.cell? ⟨gx, 2, none⟩ = some (.int .i64 f.f2) := (blk_cell BKgx.out 2).trans rfl
          have hfgx_2 := blk_frozen BKgx.out 2
          have hcgx_3 : W4.cell? ⟨gx, 3, none⟩ = some (.slice Ax3 f.f3.length bx3) := (blk_cell BKgx.out 3).trans rfl
          have hfgx_3 := blk_frozen BKgx.out 3
          have hcgx_4 : W4.cell? ⟨gx, 4, none⟩ = some (.slice Ax4 f.f4.length bx4) := (blk_cell BKgx.out 4).trans rfl
          have hfgx_4 := blk_frozen BKgx.out 4
          have hcgy_0 : W4.cell? ⟨gy, 0, none⟩ = some (.string f.f0) := (blk_cell BKgy.out 0).trans rfl
          have hfgy_0 := blk_frozen BKgy.out 0
          have hcgy_1 : W4.cell? ⟨gy, 1, none⟩ = some (.slice Ay1 f.f1.length by1) := (blk_cell BKgy.out 1).trans rfl
          have hfgy_1 := blk_frozen BKgy.out 1
          have hcgy_2 : W4.cell? ⟨gy, 2, none⟩ = some (.int .i64 f.f2) := (blk_cell BKgy.out 2).trans rfl
          have hfgy_2 := blk_frozen BKgy.out 2
          have hcgy_3 : W4.cell? ⟨gy, 3, none⟩ = some (.slice Ay3 f.f3.length by3) := (blk_cell BKgy.out 3).trans rfl
          have hfgy_3 := blk_frozen BKgy.out 3
          have hcgy_4 : W4.cell? ⟨gy, 4, none⟩ = some (.slice Ay4 f.f4.length by4) := (blk_cell BKgy.out 4).trans rfl
          have hfgy_4 := blk_frozen BKgy.out 4
          go_wp2_with fail
          ((with_reducible refine (row_same Ax3 bx3 Ay3 by3 f.f3 _ (Kd.C_below Gx3.out HB.out) Lx3.out (Kd.C_below Gy3.out HB.out) Ly3.out HL3.out).mono ?_); rintro e_ W5 ⟨rfl, hb_⟩)
          have n_ := Aside0.mk (blk_below BKga.out hb_); clear BKga; have BKga := n_; clear n_
          clear hcga_0 hfga_0
          clear hcga_1 hfga_1
          have n_ := Aside0.mk (blk_below BKgb.out hb_); clear BKgb; have BKgb := n_; clear n_
          clear hcgb_0 hfgb_0
          clear hcgb_1 hfgb_1
          have n_ := Aside0.mk (blk_below BKgx.out hb_); clear BKgx; have BKgx := n_; clear n_
          clear hcgx_0 hfgx_0
          clear hcgx_1 hfgx_1
          clear hcgx_2 hfgx_2
          clear hcgx_3 hfgx_3
          clear hcgx_4 hfgx_4
          have n_ := Aside0.mk (blk_below BKgy.out hb_); clear BKgy; have BKgy := n_; clear n_
          clear hcgy_0 hfgy_0
          clear hcgy_1 hfgy_1
          clear hcgy_2 hfgy_2
          clear hcgy_3 hfgy_3
          clear hcgy_4 hfgy_4
          have n_ := Aside0.mk (below_step HB.out hb_); clear HB; have HB := n_; clear n_
          clear hb_
          have hcga_0 : W5.cell? ⟨ga, 0, none⟩ = some (.slice A0 gs.length c0) := (blk_cell BKga.out 0).trans rfl
          have hfga_0 := blk_frozen BKga.out 0
          have hcga_1 : W5.cell? ⟨ga, 1, none⟩ = some (.slice (some adx) fs.length c1) := (blk_cell BKga.out 1).trans rfl
          have hfga_1 := blk_frozen BKga.out 1
          have hcgb_0 : W5.cell? ⟨gb, 0, none⟩ = some (.slice B0 gs.length d0) := (blk_cell BKgb.out 0).trans rfl
          have hfgb_0 := blk_frozen BKgb.out 0
          have hcgb_1 : W5.cell? ⟨gb, 1, none⟩ = some (.slice (some ady) fs.length d1) := (blk_cell BKgb.out 1).trans rfl
          have hfgb_1 := blk_frozen BKgb.out 1
          have hcgx_0 : W5.cell? ⟨gx, 0, none⟩ = some (.string f.f0) := (blk_cell BKgx.out 0).trans rfl
          have hfgx_0 := blk_frozen BKgx.out 0
          have hcgx_1 : W5.cell? ⟨gx, 1, none⟩ = some (.slice Ax1 f.f1.length bx1) := (blk_cell BKgx.out 1).trans rfl
          have hfgx_1 := blk_frozen BKgx.out 1
          have hcgx_2 : W5.cell? ⟨gx, 2, none⟩ = some (.int .i64 f.f2) := (blk_cell BKgx.out 2).trans rfl
          have hfgx_2 := blk_frozen BKgx.out 2
          have hcgx_3 : W5.cell? ⟨gx, 3, none⟩ = some (.slice Ax3 f.f3.length bx3) := (blk_cell BKgx.out 3).trans rfl
          have hfgx_3 := blk_frozen BKgx.out 3
          have hcgx_4 : W5.cell? ⟨gx, 4, none⟩ = some (.slice Ax4 f.f4.length bx4) := (blk_cell BKgx.out 4).trans rfl
          have hfgx_4 := blk_frozen BKgx.out 4
          have hcgy_0 : W5.cell? ⟨gy, 0, none⟩ = some (.string f.f0) := (blk_cell BKgy.out 0).trans rfl
          have hfgy_0 := blk_frozen BKgy.out 0
          have hcgy_1 : W5.cell? ⟨gy, 1, none⟩ = some (.slice Ay1 f.f1.length by1) := (blk_cell BKgy.out 1).trans rfl
          have hfgy_1 := blk_frozen BKgy.out 1
          have hcgy_2 : W5.cell? ⟨gy, 2, none⟩ = some (.int .i64 f.f2) := (blk_cell BKgy.out 2).trans rfl
          have hfgy_2 := blk_frozen BKgy.out 2
          have hcgy_3 : W5.cell? ⟨gy, 3, none⟩ = some (.slice Ay3 f.f3.length by3) := (blk_cell BKgy.out 3).trans rfl
          have hfgy_3 := blk_frozen BKgy.out 3
          have hcgy_4 : W5.cell? ⟨gy, 4, none⟩ = some (.slice Ay4 f.f4.length by4) := (blk_cell BKgy.out 4).trans rfl
          have hfgy_4 := blk_frozen BKgy.out 4
          go_wp2_with fail
          clear hcga_0 hfga_0
          clear hcga_1 hfga_1
          clear hcgb_0 hfgb_0
          clear hcgb_1 hfgb_1
          clear hcgx_0 hfgx_0
          clear hcgx_1 hfgx_1
          clear hcgx_2 hfgx_2
          clear hcgx_3 hfgx_3
          clear hcgx_4 hfgx_4
          clear hcgy_0 hfgy_0
          clear hcgy_1 hfgy_1
          clear hcgy_2 hfgy_2
          clear hcgy_3 hfgy_3
          clear hcgy_4 hfgy_4
          go_loopw [11] (fun vi wr => ∃ j : Nat, vi = .int .i64 j ∧ Aside0 (j ≤ f.f4.length) ∧ Aside0 (wr.heap[ga]? = some (.cells #[.slice A0 gs.length c0, .slice (some adx) fs.length c1] 25 (0, 0))) ∧ Aside0 (wr.heap[gb]? = some (.cells #[.slice B0 gs.length d0, .slice (some ady) fs.length d1] 25 (0, 0))) ∧ Aside0 (wr.heap[gx]? = some (.cells #[.string f.f0, .slice Ax1 f.f1.length bx1, .int .i64 f.f2, .slice Ax3 f.f3.length bx3, .slice Ax4 f.f4.length bx4] 54 (0, 0))) ∧ Aside0 (wr.heap[gy]? = some (.cells #[.string f.f0, .slice Ay1 f.f1.length by1, .int .i64 f.f2, .slice Ay3 f.f3.length by3, .slice Ay4 f.f4.length by4] 54 (0, 0))) ∧ Aside0 (Below w.heap.size w wr)) (fun vi _ => f.f4.length - (intOf vi).toNat)
          case atStart => exact ⟨0, rfl, ⟨Nat.zero_le _⟩, BKga, BKgb, BKgx, BKgy, HB⟩
          case round =>
            clear BKga BKgb BKgx BKgy HB
            obtain ⟨j, rfl, HNj, BKga, BKgb, BKgx, BKgy, HB⟩ := hrel
            have hcga_0 : wr.cell? ⟨ga, 0, none⟩ = some (.slice A0 gs.length c0) := (blk_cell BKga.out 0).trans rfl
            have hfga_0 := blk_frozen BKga.out 0
            have hcga_1 : wr.cell? ⟨ga, 1, none⟩ = some (.slice (some adx) fs.length c1) := (blk_cell BKga.out 1).trans rfl
            have hfga_1 := blk_frozen BKga.out 1
            have hcgb_0 : wr.cell? ⟨gb, 0, none⟩ = some (.slice B0 gs.length d0) := (blk_cell BKgb.out 0).trans rfl
            have hfgb_0 := blk_frozen BKgb.out 0
            have hcgb_1 : wr.cell? ⟨gb, 1, none⟩ = some (.slice (some ady) fs.length d1) := (blk_cell BKgb.out 1).trans rfl
            have hfgb_1 := blk_frozen BKgb.out 1
            have hcgx_0 : wr.cell? ⟨gx, 0, none⟩ = some (.string f.f0) := (blk_cell BKgx.out 0).trans rfl
            have hfgx_0 := blk_frozen BKgx.out 0
            have hcgx_1 : wr.cell? ⟨gx, 1, none⟩ = some (.slice Ax1 f.f1.length bx1) := (blk_cell BKgx.out 1).trans rfl
            have hfgx_1 := blk_frozen BKgx.out 1
            have hcgx_2 : wr.cell? ⟨gx, 2, none⟩ = some (.int .i64 f.f2) := (blk_cell BKgx.out 2).trans rfl
            have hfgx_2 := blk_frozen BKgx.out 2
            have hcgx_3 : wr.cell? ⟨gx, 3, none⟩ = some (.slice Ax3 f.f3.length bx3) := (blk_cell BKgx.out 3).trans rfl
            have hfgx_3 := blk_frozen BKgx.out 3
            have hcgx_4 : wr.cell? ⟨gx, 4, none⟩ = some (.slice Ax4 f.f4.length bx4) := (blk_cell BKgx.out 4).trans rfl
            have hfgx_4 := blk_frozen BKgx.out 4
            have hcgy_0 : wr.cell? ⟨gy, 0, none⟩ = some (.string f.f0) := (blk_cell BKgy.out 0).trans rfl
            have hfgy_0 := blk_frozen BKgy.out 0
            have hcgy_1 : wr.cell? ⟨gy, 1, none⟩ = some (.slice Ay1 f.f1.length by1) := (blk_cell BKgy.out 1).trans rfl
            have hfgy_1 := blk_frozen BKgy.out 1
            have hcgy_2 : wr.cell? ⟨gy, 2, none⟩ = some (.int .i64 f.f2) := (blk_cell BKgy.out 2).trans rfl
            have hfgy_2 := blk_frozen BKgy.out 2
            have hcgy_3 : wr.cell? ⟨gy, 3, none⟩ = some (.slice Ay3 f.f3.length by3) := (blk_cell BKgy.out 3).trans rfl
            have hfgy_3 := blk_frozen BKgy.out 3
            have hcgy_4 : wr.cell? ⟨gy, 4, none⟩ = some (.slice Ay4 f.f4.length by4) := (blk_cell BKgy.out 4).trans rfl
            have hfgy_4 := blk_frozen BKgy.out 4
            by_cases hj : j < f.f4.length
            · have z1 : decide ((j : Int) < (f.f4.length : Int)) = true := decide_eq_true (by omega)
              have q1 : (0 ≤ (j : Int)) = True := eq_true (by omega)
              have q2 : ((j : Int) < (f.f4.length : Int)) = True := eq_true (by omega)
              obtain ⟨adp, ep, p0, p1, p2⟩ := at_T50 Gx4.out (j : Int) (by omega) (by omega)
              obtain ⟨adr, er, r0, r1, r2⟩ := at_T50 Gy4.out (j : Int) (by omega) (by omega)
              cases ep; cases er
              replace p0 := (HB.out.cell (World.block_lt_of_cell? w _ p0)).trans p0
              replace p1 := (HB.out.cell (World.block_lt_of_cell? w _ p1)).trans p1
              replace p2 := (HB.out.cell (World.block_lt_of_cell? w _ p2)).trans p2
              replace r0 := (HB.out.cell (World.block_lt_of_cell? w _ r0)).trans r0
              replace r1 := (HB.out.cell (World.block_lt_of_cell? w _ r1)).trans r1
              replace r2 := (HB.out.cell (World.block_lt_of_cell? w _ r2)).trans r2
              generalize rd_T50 f.f4 (j : Int) = g at p0 p1 p2 r0 r1 r2
              simp only [Int.toNat_natCast] at p0 p1 p2 r0 r1 r2
              have n3 := ne3 g.f0 g.f1 g.f2; have a3 := and3 g.f0 g.f1 g.f2
              have HWJ := Aside0.mk (wrap_succ hj (by obtain ⟨h0_, h1_, h3_, h4_⟩ := HFI.out; omega))
              have HJ := Aside0.mk hj
              clear hj
              go_wp2
              go_quiet (fail)
              go_wp2
              rw [HWJ.out]
              exact ⟨⟨j + 1, rfl, ⟨HJ.out⟩, ⟨blk_drewN BKga.out _⟩, ⟨blk_drewN BKgb.out _⟩, ⟨blk_drewN BKgx.out _⟩, ⟨blk_drewN BKgy.out _⟩, ⟨pw_below_drewN HB.out _⟩⟩, by have := HJ.out; simp only [intOf, Int.toNat_natCast]; omega⟩
            · have z1 : decide ((j : Int) < (f.f4.length : Int)) = false := decide_eq_false (by omega)
              have z2 : decide (j < f.f4.length) = false := decide_eq_false hj
              clear hj
              go_wp2
              rw [HWS.out]
              exact ⟨⟨i + 1, rfl, ⟨HI.out⟩, BKga, BKgb, HB⟩, by have := HI.out; simp only [intOf, Int.toNat_natCast]; omega⟩
        · have z1 : decide ((i : Int) < (fs.length : Int)) = false := decide_eq_false (by omega)
          have z2 : decide (i < fs.length) = false := decide_eq_false hi
          clear hi
          go_wp2
          go_ret
          exact ⟨rfl, HB.out⟩
def PIm.tiltyardref14_Same.f (k : Nat) (g : List S48) (f : List S54) (g2 : List S48) (f2 : List S54) : Option Bool := if g = g2 ∧ f = f2 ∧ sameA g f then some true else none
theorem PIm.tiltyardref14_Same.mono : ∀ a0 a1 a2 a3 k, LeO (tiltyardref14_Same.f k a0 a1 a2 a3) (tiltyardref14_Same.f (k + 1) a0 a1 a2 a3) := fun _ _ _ _ _ _ h => h
theorem same_refl {gs : List S48} {fs : List S54} (h : argA gs fs) : Evt (fun k => tiltyardref14_Same.f k gs fs gs fs) true := ⟨0, fun k _ => by
  show tiltyardref14_Same.f k gs fs gs fs = some true
  unfold tiltyardref14_Same.f
  rw [if_pos ⟨rfl, rfl, h.1, h.2.1, h.2.2.1, trivial⟩]⟩
theorem PIm.tiltyardref14_Same.calls (k : Nat) (A0_0 : Option Addr) (c0_0 : Nat) (l0_0 : List S48) (A0_1 : Option Addr) (c0_1 : Nat) (l0_1 : List S54) (A1_0 : Option Addr) (c1_0 : Nat) (l1_0 : List S48) (A1_1 : Option Addr) (c1_1 : Nat) (l1_1 : List S54) (r : Bool) (w : World)
    (hr0_0 : Kd.C k48 w A0_0 l0_0.length l0_0) (hc0_0 : l0_0.length ≤ c0_0) (hr0_1 : Kd.C k54 w A0_1 l0_1.length l0_1) (hc0_1 : l0_1.length ≤ c0_1) (hr1_0 : Kd.C k48 w A1_0 l1_0.length l1_0) (hc1_0 : l1_0.length ≤ c1_0) (hr1_1 : Kd.C k54 w A1_1 l1_1.length l1_1) (hc1_1 : l1_1.length ≤ c1_1) (h : tiltyardref14_Same.f k l0_0 l0_1 l1_0 l1_1 = some r) :
    Calls Tryd.prog 12 #[.agg #[.slice A0_0 l0_0.length c0_0, .slice A0_1 l0_1.length c0_1], .agg #[.slice A1_0 l1_0.length c1_0, .slice A1_1 l1_1.length c1_1]] w fun e w' => e = .returned (.bool r) ∧ Below w.heap.size w w' := by
  unfold tiltyardref14_Same.f at h
  split at h
  · next hc =>
    obtain ⟨rfl, rfl, hA⟩ := hc
    obtain rfl := Option.some.inj h
    exact same_calls A0_0 c0_0 A0_1 c0_1 A1_0 c1_0 A1_1 c1_1 l0_0 l0_1 w hr0_0 hr0_1 hr1_0 hr1_1 hA
  · cases h
end Go.Proofs.YteidgpaakoeefaaDoor
namespace Go.Proofs.YteidgpaakoeefaaDoor
open Go.RowKit Go.Proofs.YteidgpaakoeefaaDoorW.PrintWords Go.Proofs.YteidgpaakoeefaaDoorW.PrintLast Go.Proofs.YteidgpaakoeefaaDoorW.PrintMore
set_option linter.unusedVariables false
set_option linter.unusedSimpArgs false
open PIm
def Pg (w : World) (P m : Nat) (b : List Int) : Prop := ∃ v, w.heap[P]? = some (.cells #[v] 69 (0, 0)) ∧ Kd.R (Kd.int .u8) 5 w m (fun k => k ≠ P) v b
theorem Pg.set {w w1 : World} {P m : Nat} {v v1 : Value} {b1 : List Int} (hp : w.heap[P]? = some (.cells #[v] 69 (0, 0))) (hv : Kd.R (Kd.int .u8) 5 w1 m (fun k => k ≠ P) v1 b1)
    (hg : w1.heap[P]? = w.heap[P]?) : Pg (w1.setCell ⟨P, 0, none⟩ v1) P m b1 := by
  have hp1 : w1.heap[P]? = some (.cells #[v] 69 (0, 0)) := hg.trans hp
  exact ⟨v1, blk_put (cs := #[v]) hp1 0 _ rfl, Kd.R_set hv hp1 (by decide) 0 _⟩
def Sd (w w' : World) (P : Nat) : Prop := ∀ g cs t f, w.heap[g]? = some (.cells cs t f) → t ≠ 5 → g ≠ P → w'.heap[g]? = some (.cells cs t f)
theorem Sd.trans {w w1 w2 : World} {P : Nat} (h : Sd w w1 P) (k : Sd w1 w2 P) : Sd w w2 P := fun g cs t f hg ht hP => k g cs t f (h g cs t f hg ht hP) ht hP
theorem Sd.refl (w : World) (P : Nat) : Sd w w P := fun _ _ _ _ h _ _ => h
theorem Sd.below {w w1 : World} (P : Nat) (h : Below w.heap.size w w1) : Sd w w1 P := fun g cs t f hg _ _ => (h.block g (blk_lt hg)).trans hg
theorem Sd.grown {w w1 : World} (P : Nat) {m : Nat} {ok : Nat → Prop} {v : Value} {b : List Int} (hv : Kd.R (Kd.int .u8) 5 w m ok v b) (hg : w.grownBy w1 v.ownBlock) : Sd w w1 P := by
  intro g cs t f h ht _
  refine (hg.block g (blk_lt h) (fun e => ?_)).trans h
  obtain ⟨_, _, _, q, hq, cells, hc⟩ := (Kd.R_bound hv).1 g e.symm
  rw [h] at hc
  have hq5 : q = 5 := (List.mem_cons.1 hq).elim id (fun h_ => by cases h_)
  cases hc
  exact ht hq5
theorem Sd.set {w w1 : World} {P : Nat} (h : Sd w w1 P) (u : Value) : Sd w (w1.setCell ⟨P, 0, none⟩ u) P := fun g cs t f hg ht hP =>
  (Below.heap_setCell w1 ⟨P, 0, none⟩ u g hP).trans (h g cs t f hg ht hP)
theorem RS.R5 {base : Nat} {w : World} {v : Value} {xs : List Int} (h : RS base w v xs) : Kd.R (Kd.int .u8) 5 w base (fun _ => True) v xs := by
  obtain ⟨sp, h⟩ := h
  exact h.R
set_option maxHeartbeats 2000000 in
set_option maxRecDepth 100000 in
theorem pg_nat (P m : Nat) (b : List Int) (n : Int) (w : World) (hp : Pg w P m b) (hm : m ≤ w.heap.size) (hmP : m ≤ P) (hn0 : 0 ≤ n) (hn1 : n ≤ 9223372036854775807) (hl : (b ++ natB n).length ≤ 140737488355318) :
    Calls Tryd.prog 35 #[.pointer (some ⟨P, 0, none⟩), .int .i64 n] w fun e w' => e = .returned (.tuple #[]) ∧ Pg w' P m (b ++ natB n) ∧ Below m w w' ∧ Sd w w' P := by
  obtain ⟨v, hp, hv⟩ := hp
  have HC := Aside0.mk (fun W : World => rNum_callsF none 0 [] n W (Kd.C_nil _ _) (by simp) (by omega) hn1)
  have hc0 := (blk_cell hp 0).trans rfl
  have hf0 := blk_frozen hp 0
  have HP := Aside0.mk hp; have HV := Aside0.mk hv; have HM := Aside0.mk hm; have HMP := Aside0.mk hmP; have HL := Aside0.mk hl
  have HLL : Aside0 (b.length + ((numF [] n).1).length ≤ 140737488355318) := ⟨by have h_ := hl; rw [List.length_append] at h_; exact h_⟩
  clear hp hv hm hmP hl
  go_enter Tryd.func35, Tryd.ntmps35
  go_wp2_with fail
  (refine (HC.out _).mono ?_); rintro e_ W1 ⟨v0, rfl, ho_, hb_⟩; obtain ⟨A1, c1, rfl⟩ := Kd.R_slice ho_.R5; have HA := Aside0.mk (Kd.R_reads' ho_.R5).2.2; have n_ := Aside0.mk (blk_below (w := w) HP.out hb_); have m_ := Aside0.mk (Kd.R_below (w := w) (HV.out) hb_); have HS : Aside0 (Sd w W1 P) := ⟨Sd.below P (w := w) ⟨hb_.os, hb_.tape, hb_.output, hb_.size, hb_.block⟩⟩; have HB : Aside0 (Below m w W1) := ⟨Below.mono (w := w) ⟨hb_.os, hb_.tape, hb_.output, hb_.size, hb_.block⟩ HM.out⟩; clear hc0 hf0 ho_ hb_ HP HV; have HP := n_; have HV := m_; clear n_ m_; have hc0 := (blk_cell HP.out 0).trans rfl; have hf0 := blk_frozen HP.out 0
  go_wp2_with (first | ((with_reducible refine gate_builtin (b := .append) (xs := #[.tmp 15, .tmp 16]) rfl ?_); at_builtin; refine Kd.R_append_rows (Kd.int .u8) (w0 := w) m rfl (.tmp 15) (.tmp 16) 30 5 (.int .u8 0) 1 rfl Tryd.underlying30 infoB rfl (by decide) (by omega) _ b (natB n) _ _ _ (fun k => k ≠ P) (fun _ => False) rfl rfl ?aO ?aR (fun _ _ h => h) (fun _ h => h.elim) ?aF ?aB ?aS ?aL ?_; (case aR => exact HA.out); (case aB => exact HB.out); (case aF => (intro k_ h_ e_; have := blk_lt HP.out; have := HB.out.size; omega)); (case aO => exact HV.out); (case aS => (have := HB.out.size; have := HM.out; omega)); (case aL => (have := HLL.out; omega)); intro v1 W2 ho hb hg hat; have hgP := (hg.block P (blk_lt HP.out) (fun e_ => HV.out.1 P e_.symm rfl)); obtain ⟨A2, c2, rfl⟩ := Kd.R_slice ho; rw [List.length_append] at ho; have HO1 := Aside0.mk ho; have HB2 := Aside0.mk hb; have hc0 := (blk_cell (hgP.trans HP.out) 0).trans rfl; have hf0 := blk_frozen (hgP.trans HP.out) 0; have HG := Aside0.mk hgP; have HS2 := Aside0.mk (HS.out.trans (Sd.grown P HV.out hg)); clear ho hb hg hat hgP))
  all_goals (refine bodyPost_end (results_none rfl _ _ _) rfl ⟨rfl, Pg.set HP.out HO1.out HG.out, HB2.out.setCell (p := ⟨P, 0, none⟩) HMP.out _, HS2.out.set _⟩)
set_option maxHeartbeats 2000000 in
set_option maxRecDepth 100000 in
theorem pg_num (P m : Nat) (b : List Int) (n : Int) (w : World) (hp : Pg w P m b) (hm : m ≤ w.heap.size) (hmP : m ≤ P) (hn0 : -9223372036854775808 ≤ n) (hn1 : n ≤ 9223372036854775807) (hl : (b ++ wholeB n).length ≤ 140737488355318) :
    Calls Tryd.prog 36 #[.pointer (some ⟨P, 0, none⟩), .int .i64 n] w fun e w' => e = .returned (.tuple #[]) ∧ Pg w' P m (b ++ wholeB n) ∧ Below m w w' ∧ Sd w w' P := by
  obtain ⟨v, hp, hv⟩ := hp
  have HC := Aside0.mk (fun W : World => rInt_callsF none 0 [] n W (Kd.C_nil _ _) (by simp) hn0 hn1)
  have hc0 := (blk_cell hp 0).trans rfl
  have hf0 := blk_frozen hp 0
  have HP := Aside0.mk hp; have HV := Aside0.mk hv; have HM := Aside0.mk hm; have HMP := Aside0.mk hmP; have HL := Aside0.mk hl
  have HLL : Aside0 (b.length + (venc (zz n).toNat).length ≤ 140737488355318) := ⟨by have h_ := hl; rw [List.length_append] at h_; exact h_⟩
  clear hp hv hm hmP hl
  go_enter Tryd.func36, Tryd.ntmps36
  go_region_law (first | (go_simp; (refine Calls.mono (HC.out _) ?_); rintro e_ W1 ⟨v0, rfl, ho_, hb_⟩; obtain ⟨A1, c1, rfl⟩ := Kd.R_slice ho_.R5; have HA := Aside0.mk (Kd.R_reads' ho_.R5).2.2; have n_ := Aside0.mk (blk_below (w := w.drew) HP.out hb_); have m_ := Aside0.mk (Kd.R_below (w := w.drew) (Kd.R_drew HV.out) hb_); have HS : Aside0 (Sd w W1 P) := ⟨Sd.below P (w := w) ⟨hb_.os, hb_.tape, hb_.output, hb_.size, hb_.block⟩⟩; have HB : Aside0 (Below m w W1) := ⟨Below.mono (w := w) ⟨hb_.os, hb_.tape, hb_.output, hb_.size, hb_.block⟩ HM.out⟩; clear hc0 hf0 ho_ hb_ HP HV; have HP := n_; have HV := m_; clear n_ m_; have hc0 := (blk_cell HP.out 0).trans rfl; have hf0 := blk_frozen HP.out 0) | (refine Kd.R_append_rows_step (Kd.int .u8) (w0 := w) m (by rfl) (.tmp 8) (.tmp 10) 30 5 (.int .u8 0) 1 rfl Tryd.underlying30 infoB rfl (by decide) (by omega) _ b (wholeB n) _ _ _ (fun k => k ≠ P) (fun _ => False) rfl rfl ?aO ?aR (fun _ _ h => h) (fun _ h => h.elim) ?aF ?aB ?aS ?aL ?_; (case aR => exact HA.out); (case aB => exact HB.out); (case aF => (intro k_ h_ e_; have := blk_lt HP.out; have := HB.out.size; omega)); (case aO => exact HV.out); (case aS => (have := HB.out.size; have := HM.out; omega)); (case aL => (have := HLL.out; omega)); intro v1 W2 ho hb hg hat; have hgP := (hg.block P (blk_lt HP.out) (fun e_ => HV.out.1 P e_.symm rfl)); obtain ⟨A2, c2, rfl⟩ := Kd.R_slice ho; rw [List.length_append] at ho; have HO1 := Aside0.mk ho; have HB2 := Aside0.mk hb; have hc0 := (blk_cell (hgP.trans HP.out) 0).trans rfl; have hf0 := blk_frozen (hgP.trans HP.out) 0; have HG := Aside0.mk hgP; have HS2 := Aside0.mk (HS.out.trans (Sd.grown P HV.out hg)); clear ho hb hg hat hgP))
  all_goals (refine bodyPost_end (results_none rfl _ _ _) rfl ⟨rfl, Pg.set HP.out HO1.out HG.out, HB2.out.setCell (p := ⟨P, 0, none⟩) HMP.out _, HS2.out.set _⟩)
set_option maxHeartbeats 2000000 in
set_option maxRecDepth 100000 in
theorem pg_row (P m : Nat) (b : List Int) (A0 : Option Addr) (c0 : Nat) (l : List Int) (w : World) (hp : Pg w P m b) (hm : m ≤ w.heap.size) (hmP : m ≤ P)
    (hr : ∀ W', Below m w W' → Kd.C (Kd.int .i64) W' A0 l.length l) (hx : ∀ x ∈ l, 0 ≤ x ∧ x ≤ 9223372036854775807) (hll : l.length ≤ 140737488355318) (hl : (b ++ natB l.length ++ l.flatMap putI).length ≤ 140737488355318) :
    Calls Tryd.prog 37 #[.pointer (some ⟨P, 0, none⟩), .slice A0 l.length c0] w fun e w' => e = .returned (.tuple #[]) ∧ Pg w' P m (b ++ natB l.length ++ l.flatMap putI) ∧ Below m w w' ∧ Sd w w' P := by
  have hnat := pg_nat P m b (l.length : Int) w hp hm hmP (by omega) (by omega) (by simp only [List.length_append] at hl ⊢; omega)
  have HR := Aside0.mk hr; have HL := Aside0.mk hl; have HX := Aside0.mk hx; have HM := Aside0.mk hm; have HMP := Aside0.mk hmP
  clear hr hl hx hp hm hmP
  go_enter Tryd.func37, Tryd.ntmps37
  go_wp2_with fail
  ((with_reducible refine hnat.mono ?_); rintro e_ w1 ⟨rfl, hp, hb, hs⟩)
  have HP := Aside0.mk hp; have HB := Aside0.mk hb; have HS := Aside0.mk hs
  clear hnat hp hb hs
  go_wp2_with fail
  go_loopw [4] (fun vi wr => ∃ (k : Nat), vi = .int .i64 k ∧ Aside0 (k ≤ l.length) ∧ Aside0 (Pg wr P m (b ++ natB l.length ++ (l.take k).flatMap putI)) ∧ Aside0 (Below m w wr) ∧ Aside0 (Sd w wr P)) (fun v _ => l.length - (intOf v).toNat)
  case atStart => exact ⟨0, rfl, ⟨Nat.zero_le _⟩, ⟨by simpa using HP.out⟩, HB, HS⟩
  case round =>
    clear HP HB HS
    obtain ⟨k, rfl, HN, HP, HB, HS⟩ := hrel
    have hk := HN.out
    by_cases hlt : k < l.length
    · have hC := HR.out _ HB.out
      obtain ⟨ad, e, hx⟩ := Kd.at_int hC (k : Int) (by omega) (by omega)
      cases e
      have hget : rd l (k : Int) = l[k] := by
        unfold rd
        simp only [Int.toNat_natCast, List.getD_eq_getElem?_getD]
        rw [List.getElem?_eq_getElem hlt]; rfl
      have hxx : l[k]? = some l[k] := List.getElem?_eq_getElem hlt
      have hrx := HX.out l[k] (List.getElem_mem hlt)
      rw [hget] at hx
      simp only [Int.toNat_natCast] at hx
      generalize l[k] = x at hx hxx hrx
      have z1 : decide ((k : Int) < (l.length : Int)) = true := decide_eq_true (by omega)
      have q1 : (0 ≤ (k : Int)) = True := eq_true (by omega)
      have q2 : ((k : Int) < (l.length : Int)) = True := eq_true (by omega)
      have hln : (b ++ natB l.length ++ (l.take k).flatMap putI ++ natB x).length ≤ 140737488355318 := by
        have h1 := take_put (put := putI) hxx (b ++ natB l.length)
        have h2 := take_le (put := putI) l (k + 1) (b ++ natB l.length)
        rw [← h1] at h2
        exact Nat.le_trans h2 HL.out
      have hcall := pg_nat P m _ x _ HP.out (by have := HB.out.size; have := HM.out; omega) HMP.out hrx.1 hrx.2 hln
      have HXX := Lib.hid hxx; have HLT := Lib.hid hlt
      clear hC hget hxx hrx hlt hln
      go_wp2_with fail
      ((with_reducible refine hcall.mono ?_); rintro e_ w_ ⟨rfl, hp, hb, hs⟩)
      clear hcall
      have HP2 := Aside0.mk hp; have HB2 := Aside0.mk (HB.out.trans hb); have HS2 := Aside0.mk (HS.out.trans hs)
      clear hp hb hs HP HB HS
      go_wp2
      exact ⟨⟨k + 1, by go_num, ⟨HLT.out⟩, ⟨by rw [← take_put HXX.out]; exact HP2.out⟩, HB2, HS2⟩, by have := HLT.out; simp [intOf]; omega⟩
    · have z1 : decide ((k : Int) < (l.length : Int)) = false := decide_eq_false (by omega)
      obtain rfl : k = l.length := by omega
      go_wp2
      refine bodyPost_end (results_none rfl _ _ _) rfl ⟨rfl, by rw [← List.take_length (l := l)]; simpa using HP.out, HB.out, HS.out⟩
end Go.Proofs.YteidgpaakoeefaaDoor
namespace Go.Proofs.YteidgpaakoeefaaDoor
open Go.RowKit Go.Proofs.YteidgpaakoeefaaDoorW.PrintWords Go.Proofs.YteidgpaakoeefaaDoorW.PrintLast Go.Proofs.YteidgpaakoeefaaDoorW.PrintMore
set_option linter.unusedVariables false
set_option linter.unusedSimpArgs false
open PIm
theorem Pg.alloc {w : World} {P m : Nat} {b : List Int} (h : Pg w P m b) (o : Obj) : Pg (w.alloc o) P m b := by
  obtain ⟨v, hp, hv⟩ := h
  exact ⟨v, blk_alloc hp o, Kd.R_below hv (below_alloc (Below.refl _ _) o)⟩
theorem cell_up {w w' : World} (h : Below w.heap.size w w') {a : Addr} {v : Value} (hc : w.cell? a = some v) : w'.cell? a = some v := by
  rcases Nat.lt_or_ge a.block w.heap.size with h1 | h1
  · rw [h.cell h1]; exact hc
  · have h2 : w.heap[a.block]? = none := by simp; omega
    simp [World.cell?, h2] at hc
def natN (n : Int) : Prop := 0 ≤ n ∧ n ≤ 9223372036854775807
def natG (x : S48) : Prop := natN x.f0 ∧ natN x.f1 ∧ rng x.f2
def natC (x : S50) : Prop := natN x.f0 ∧ rng x.f1 ∧ natN x.f2
def natF (f : S54) : Prop := f.f0.size ≤ 1000 ∧ (∀ x ∈ f.f1, natN x) ∧ natN f.f2 ∧ (∀ x ∈ f.f3, natN x) ∧ f.f1.length ≤ f.f3.length ∧ f.f3.length ≤ 1000 ∧ f.f4.length ≤ 100000 ∧ ∀ x ∈ f.f4, natC x
theorem pg_str_step {ops : Array Oper} {o : Oper} {a : Act} {Kc : Act → World → Prop} {Q : Exit → Act → World → Prop} {w0 W : World} (m P : Nat) (hw : Region.wanted o (yielded ops a.tmps) = true) (s x : Operand)
    (ho : o.op = .call { callee := .builtin .append, args := #[s, x], argTypes := #[30, 9] }) (v : Value) (xs : List Int) (y : ByteArray) (hs : a.eval s = v) (hx : a.eval x = .string y)
    (HO : Kd.R (Kd.int .u8) 5 W m (fun k => k ≠ P) v xs) (HP : W.heap[P]? = some (.cells #[v] 69 (0, 0))) (HB : Below m w0 W) (hbase : m ≤ W.heap.size) (hl : xs.length + y.size ≤ 140737488355318)
    (h : ∀ v1 w1, Kd.R (Kd.int .u8) 5 w1 m (fun k => k ≠ P) v1 (xs ++ bytesOf y) → Below m w0 w1 → W.grownBy w1 v.ownBlock → Kc (a.put o.dst v1) w1) :
    if Region.wanted o (yielded ops a.tmps) = true then Oper.wp Tryd.prog o a W Kc Q else Kc (a.put o.dst undef) W := by
  rw [if_pos hw]
  obtain ⟨i0, hi, hz, hsz, hby⟩ := info_parts info5
  obtain ⟨v1, w1, hr, hown, hg, _⟩ := Lib.run_append_own_string (P := Tryd.prog) W m 30 9 o.type 5 i0 Tryd.underlying30 Tryd.underlying9 hi hz hsz hby v xs.length _ (Kd.own_of_R HO) y (by simp only [maxLen]; omega) (by omega) hbase
  unfold Oper.wp
  have hc : encs (Value.int .u8) (xs ++ bytesOf y) = encs (Value.int .u8) xs ++ Lib.strCells y := by simp [encs, bytesOf, Lib.strCells]
  have hlen : (xs ++ bytesOf y).length = xs.length + y.size := by rw [List.length_append, bytesOf_length]
  have hK := h v1 w1 (Kd.R_of_own (enc := Value.int .u8) (h1 := fun _ => rfl) (by rw [hlen, hc]; exact hown) (fun k hk e_ => by
    obtain ⟨cells, hcl⟩ := own_typed hown k hk
    subst e_
    rw [hg.block k (blk_lt HP) (fun e2 => HO.1 k e2.symm rfl), HP] at hcl
    cases hcl)) (HB.grown hg hbase (own_base (Kd.own_of_R HO))) hg
  simp [execOp, ho, resolve, invoke, builtin, hs, hx, hr, Result.andThen]
  exact hK
def dencR (gs : List S48) (fs : List S54) : List Int × Int := if 1048576 < (frameF (bodyF gs fs)).length then ([], 2) else (frameF (bodyF gs fs), 0)
set_option maxHeartbeats 8000000 in
set_option maxRecDepth 100000 in
theorem denc_ok (A0 : Option Addr) (c0 : Nat) (gs : List S48) (A1 : Option Addr) (c1 : Nat) (fs : List S54) (w : World) (hr0 : Kd.C k48 w A0 gs.length gs) (hc0 : gs.length ≤ c0) (hr1 : Kd.C k54 w A1 fs.length fs) (hc1 : fs.length ≤ c1)
    (hok : ∀ W, Below w.heap.size w W → Calls Tryd.prog 34 #[.agg #[.slice A0 gs.length c0, .slice A1 fs.length c1]] W fun e w' => e = .returned (.bool true) ∧ Below W.heap.size W w')
    (hG : ∀ x ∈ gs, natG x) (hF : ∀ f ∈ fs, natF f) (hgl : gs.length ≤ 100000) (hfl : fs.length ≤ 100000) (hl : (bodyF gs fs).length ≤ 140737488355318) :
    Calls Tryd.prog 13 #[.agg #[.slice A0 gs.length c0, .slice A1 fs.length c1]] w fun e w' => ∃ v, e = .returned (.tuple #[v, .int .i64 (dencR gs fs).2]) ∧
      RS w.heap.size w' v (dencR gs fs).1 ∧ Below w.heap.size w w' := by
  obtain ⟨E, hE⟩ : ∃ E, E = dencR gs fs := ⟨_, rfl⟩
  rw [← hE]
  have HE := Aside0.mk hE; clear hE
  have hu25 := Tryd.underlying25
  have hu54 := Tryd.underlying54
  have HR0 := Aside0.mk hr0; have HR1 := Aside0.mk hr1; have HOK := Aside0.mk hok; have HG := Aside0.mk hG; have HF := Aside0.mk hF; have HL := Aside0.mk hl; have HGL := Aside0.mk hgl; have HFL := Aside0.mk hfl
  clear hr0 hr1 hok hG hF hl hc0 hc1
  go_enter Tryd.func13, Tryd.ntmps13
  go_wp2_with (first | ((with_reducible refine gate_dst (N := 1) rfl ?_); refine box_event ?hg (N := 1) ?hd (cs := #[.slice A0 gs.length c0, .slice A1 fs.length c1]) (t := 25) ?hr ?_; (case hd => rfl); (case hg => rfl); (case hr => first | (go_simp; done) | (go_simp; rfl)); intro gX hg_ WX hbox_ hb_; have HX : Aside0 (Below w.heap.size w WX) := ⟨hb_⟩; have BX := Aside0.mk hbox_; clear hg_ hbox_ hb_; have hcX0 := (blk_cell BX.out 0).trans rfl; have hcX1 := (blk_cell BX.out 1).trans rfl))
  refine (HOK.out _ HX.out).mono ?_
  rintro e_ W2 ⟨rfl, hb_⟩
  have n_ := Aside0.mk (blk_below BX.out hb_); have m_ : Aside0 (Below WX.heap.size WX W2) := ⟨hb_⟩
  clear hcX0 hcX1 BX hb_; have BX := n_; have HB := m_; clear n_ m_
  have hcX0 := (blk_cell BX.out 0).trans rfl; have hcX1 := (blk_cell BX.out 1).trans rfl
  go_wp2_with (first | ((with_reducible refine gate_dst (N := 17) rfl ?_); refine box_event ?hg (N := 17) ?hd (cs := #[.slice (some ⟨W2.heap.size, 0, none⟩) 4 4]) (t := 69) ?hr ?_; (case hd => rfl); (case hg => rfl); (case hr => first | (go_simp; done) | (go_simp; rfl)); intro P hg_ WP hbox_ hb_; have GP : Aside0 (WX.heap.size ≤ P) := ⟨by rw [hg_]; exact Nat.le_trans HB.out.size (below_alloc (Below.refl _ _) _).size⟩; have NXP : Aside0 (gX ≠ P) := ⟨by rw [hg_]; exact Nat.ne_of_lt (blk_lt (blk_alloc BX.out _))⟩; have n_ := Aside0.mk (blk_below (blk_alloc BX.out _) hb_); have m_ : Aside0 (Below WX.heap.size WX WP) := ⟨below_then (HB.out.alloc HB.out.size _) (Nat.le_trans HB.out.size (below_alloc (Below.refl _ _) _).size) hb_⟩; have HP : Aside0 (Pg WP P WX.heap.size [84, 73, 76, 84]) := ⟨⟨_, hbox_, Kd.R_below (Kd.R_of_own (enc := Value.int .u8) (h1 := fun _ => rfl) (ok := fun k => k ≠ P) (own_lit_of (enc := Value.int .u8) W2 WX.heap.size 5 [84, 73, 76, 84] HB.out.size (by decide)) (fun k hk e_ => absurd (((Option.some.inj hk : W2.heap.size = k)).trans (e_.trans hg_)) (Nat.ne_of_lt (blk_lt (blk_new W2 _))))) hb_⟩⟩; clear hcX0 hcX1 BX HB hg_ hbox_ hb_; have BX := n_; have HB := m_; clear n_ m_; have hcX0 := (blk_cell BX.out 0).trans rfl; have hcX1 := (blk_cell BX.out 1).trans rfl))
  have HRG : Aside0 (∀ W, Below WX.heap.size WX W → Kd.C k48 W A0 gs.length gs) := ⟨fun W hb => Kd.C_below HR0.out (below_step HX.out hb)⟩
  have HRF : Aside0 (∀ W, Below WX.heap.size WX W → Kd.C k54 W A1 fs.length fs) := ⟨fun W hb => Kd.C_below HR1.out (below_step HX.out hb)⟩
  have HLT1 : Aside0 (([84, 73, 76, 84] ++ natB (gs.length : Int) ++ gs.flatMap putG : List Int).length + (rowF fs).length ≤ 140737488355318) := ⟨by have h_ := HL.out; unfold bodyF rowG at h_; simp only [List.length_append] at h_ ⊢; omega⟩
  refine (pg_nat P WX.heap.size ([84, 73, 76, 84]) ((gs.length : Int)) _ HP.out HB.out.size GP.out (by omega) (by have := HGL.out; omega) (by have h_ := HLT1.out; simp only [List.length_append] at h_ ⊢; omega)).mono ?_
  rintro e_ W13 ⟨rfl, hp_, hb_, hs_⟩
  have n_ := Aside0.mk hp_; have m_ := Aside0.mk (HB.out.trans hb_); have o_ := Aside0.mk (hs_ gX _ _ _ BX.out (by decide) NXP.out)
  clear HP HB BX hcX0 hcX1 hp_ hb_ hs_; have HP := n_; have HB := m_; have BX := o_; clear n_ m_ o_
  have hcX0 := (blk_cell BX.out 0).trans rfl; have hcX1 := (blk_cell BX.out 1).trans rfl
  go_wp2_with fail
  obtain ⟨B0, hB0⟩ : ∃ B0 : List Int, B0 = [84, 73, 76, 84] ++ natB (gs.length : Int) := ⟨_, rfl⟩
  rw [← hB0] at HP HLT1
  have HB0 := Aside0.mk hB0; clear hB0
  go_loopw [6] (fun vi wr => ∃ (k : Nat), vi = .int .i64 k ∧ Aside0 (k ≤ gs.length) ∧ Aside0 (Pg wr P WX.heap.size (B0 ++ (gs.take k).flatMap putG)) ∧ Aside0 (Below WX.heap.size WX wr) ∧ Aside0 (wr.heap[gX]? = some (.cells #[.slice A0 gs.length c0, .slice A1 fs.length c1] 25 (0, 0)))) (fun v _ => gs.length - (intOf v).toNat)
  case atStart => exact ⟨0, rfl, ⟨Nat.zero_le _⟩, ⟨by simpa using HP.out⟩, HB, BX⟩
  case round =>
    clear HP HB BX hcX0 hcX1
    obtain ⟨k6, rfl, HN6, HP, HB, BX⟩ := hrel
    have hcX0 := (blk_cell BX.out 0).trans rfl; have hcX1 := (blk_cell BX.out 1).trans rfl
    have hk6 := HN6.out
    by_cases hlt6 : k6 < gs.length
    · obtain ⟨x6, hxx⟩ : ∃ x, gs[k6]? = some x := ⟨_, List.getElem?_eq_getElem hlt6⟩
      have HGET6 : Aside0 (rd_T48 gs (k6 : Int) = x6) := ⟨by unfold rd_T48; simp only [Int.toNat_natCast, List.getD_eq_getElem?_getD]; rw [hxx]; rfl⟩
      have HX6 : Aside0 (natG x6) := ⟨HG.out x6 (List.mem_of_getElem? hxx)⟩
      have HXX6 := Lib.hid hxx; have HLT6_ := Lib.hid hlt6
      obtain ⟨b6, hb_⟩ : ∃ b_ : List Int, b_ = B0 ++ (gs.take k6).flatMap putG := ⟨_, rfl⟩
      rw [← hb_] at HP; have Hb6 := Aside0.mk hb_; clear hb_
      have HLx6 : Aside0 ((b6 ++ putG x6).length ≤ 140737488355318) := ⟨by rw [Hb6.out, take_put HXX6.out]; exact Nat.le_trans (take_le _ _ _) (by have := HLT1.out; omega)⟩
      have z1_6 : decide ((k6 : Int) < (gs.length : Int)) = true := decide_eq_true (by omega)
      have q1_6 : (0 ≤ (k6 : Int)) = True := eq_true (by omega)
      have q2_6 : ((k6 : Int) < (gs.length : Int)) = True := eq_true (by omega)
      clear hxx hlt6
      obtain ⟨ad, e_, h0_, h1_, h2_⟩ := at_T48 (HRG.out _ HB.out) (k6 : Int) (by omega) (by have := HLT6_.out; omega)
      cases e_
      rw [HGET6.out] at h0_ h1_ h2_
      simp only [Int.toNat_natCast] at h0_ h1_ h2_
      go_wp2_with fail
      refine (pg_nat P WX.heap.size (b6) (x6.f0) _ HP.out HB.out.size GP.out HX6.out.1.1 HX6.out.1.2 (by have h_ := HLx6.out; simp only [putG, List.length_append] at h_ ⊢; omega)).mono ?_
      rintro e_ W14 ⟨rfl, hp_, hb_, hs_⟩
      have n_ := Aside0.mk hp_; have m_ := Aside0.mk (HB.out.trans hb_); have o_ := Aside0.mk (hs_ gX _ _ _ BX.out (by decide) NXP.out)
      clear HP HB BX hcX0 hcX1 hp_ hb_ hs_; have HP := n_; have HB := m_; have BX := o_; clear n_ m_ o_
      have hcX0 := (blk_cell BX.out 0).trans rfl; have hcX1 := (blk_cell BX.out 1).trans rfl
      clear h0_ h1_ h2_
      obtain ⟨ad_, e_, h0_, h1_, h2_⟩ := at_T48 (HRG.out _ HB.out) (k6 : Int) (by omega) (by have := HLT6_.out; omega)
      cases e_
      rw [HGET6.out] at h0_ h1_ h2_
      simp only [Int.toNat_natCast] at h0_ h1_ h2_
      go_wp2_with fail
      refine (pg_nat P WX.heap.size (b6 ++ natB x6.f0) (x6.f1) _ HP.out HB.out.size GP.out HX6.out.2.1.1 HX6.out.2.1.2 (by have h_ := HLx6.out; simp only [putG, List.length_append] at h_ ⊢; omega)).mono ?_
      rintro e_ W15 ⟨rfl, hp_, hb_, hs_⟩
      have n_ := Aside0.mk hp_; have m_ := Aside0.mk (HB.out.trans hb_); have o_ := Aside0.mk (hs_ gX _ _ _ BX.out (by decide) NXP.out)
      clear HP HB BX hcX0 hcX1 hp_ hb_ hs_; have HP := n_; have HB := m_; have BX := o_; clear n_ m_ o_
      have hcX0 := (blk_cell BX.out 0).trans rfl; have hcX1 := (blk_cell BX.out 1).trans rfl
      clear h0_ h1_ h2_
      obtain ⟨ad_, e_, h0_, h1_, h2_⟩ := at_T48 (HRG.out _ HB.out) (k6 : Int) (by omega) (by have := HLT6_.out; omega)
      cases e_
      rw [HGET6.out] at h0_ h1_ h2_
      simp only [Int.toNat_natCast] at h0_ h1_ h2_
      go_wp2_with fail
      refine (pg_num P WX.heap.size (b6 ++ natB x6.f0 ++ natB x6.f1) (x6.f2) _ HP.out HB.out.size GP.out HX6.out.2.2.1 HX6.out.2.2.2 (by have h_ := HLx6.out; simp only [putG, List.length_append] at h_ ⊢; omega)).mono ?_
      rintro e_ W16 ⟨rfl, hp_, hb_, hs_⟩
      have n_ := Aside0.mk hp_; have m_ := Aside0.mk (HB.out.trans hb_); have o_ := Aside0.mk (hs_ gX _ _ _ BX.out (by decide) NXP.out)
      clear HP HB BX hcX0 hcX1 hp_ hb_ hs_; have HP := n_; have HB := m_; have BX := o_; clear n_ m_ o_
      have hcX0 := (blk_cell BX.out 0).trans rfl; have hcX1 := (blk_cell BX.out 1).trans rfl
      clear h0_ h1_ h2_
      go_wp2_with fail
      rw [show b6 ++ natB x6.f0 ++ natB x6.f1 ++ wholeB x6.f2 = b6 ++ putG x6 by simp [putG]] at HP
      have e_ : b6 ++ putG x6 = B0 ++ (gs.take (k6 + 1)).flatMap putG := by rw [Hb6.out, take_put HXX6.out]
      exact ⟨⟨k6 + 1, by go_num, ⟨HLT6_.out⟩, ⟨by rw [← e_]; exact HP.out⟩, HB, BX⟩, by have := HLT6_.out; simp [intOf]; omega⟩
    · have z1_6 : decide ((k6 : Int) < (gs.length : Int)) = false := decide_eq_false (by omega)
      obtain rfl : k6 = gs.length := by omega
      rw [List.take_length] at HP
      clear hlt6 hk6 HN6
      go_wp2_with fail
      have HLT2 : Aside0 ((B0 ++ gs.flatMap putG ++ natB (fs.length : Int) ++ fs.flatMap putF).length ≤ 140737488355318) := ⟨by have h_ := HLT1.out; unfold rowF at h_; simp only [List.length_append] at h_ ⊢; omega⟩
      refine (pg_nat P WX.heap.size (B0 ++ gs.flatMap putG) ((fs.length : Int)) _ HP.out HB.out.size GP.out (by omega) (by have := HFL.out; omega) (by have h_ := HLT2.out; simp only [List.length_append] at h_ ⊢; omega)).mono ?_
      rintro e_ W17 ⟨rfl, hp_, hb_, hs_⟩
      have n_ := Aside0.mk hp_; have m_ := Aside0.mk (HB.out.trans hb_); have o_ := Aside0.mk (hs_ gX _ _ _ BX.out (by decide) NXP.out)
      clear HP HB BX hcX0 hcX1 hp_ hb_ hs_; have HP := n_; have HB := m_; have BX := o_; clear n_ m_ o_
      have hcX0 := (blk_cell BX.out 0).trans rfl; have hcX1 := (blk_cell BX.out 1).trans rfl
      go_wp2_with fail
      obtain ⟨B1, hB1⟩ : ∃ B1 : List Int, B1 = B0 ++ gs.flatMap putG ++ natB (fs.length : Int) := ⟨_, rfl⟩
      rw [← hB1] at HP HLT2
      have HB1 := Aside0.mk hB1; clear hB1
      go_loopw [7] (fun vi wr => ∃ (k : Nat), vi = .int .i64 k ∧ Aside0 (k ≤ fs.length) ∧ Aside0 (Pg wr P WX.heap.size (B1 ++ (fs.take k).flatMap putF)) ∧ Aside0 (Below WX.heap.size WX wr) ∧ Aside0 (wr.heap[gX]? = some (.cells #[.slice A0 gs.length c0, .slice A1 fs.length c1] 25 (0, 0)))) (fun v _ => fs.length - (intOf v).toNat)
      case atStart => exact ⟨0, rfl, ⟨Nat.zero_le _⟩, ⟨by simpa using HP.out⟩, HB, BX⟩
      case round =>
        clear HP HB BX hcX0 hcX1
        obtain ⟨k7, rfl, HN7, HP, HB, BX⟩ := hrel
        have hcX0 := (blk_cell BX.out 0).trans rfl; have hcX1 := (blk_cell BX.out 1).trans rfl
        have hk7 := HN7.out
        by_cases hlt7 : k7 < fs.length
        · obtain ⟨x7, hxx⟩ : ∃ x, fs[k7]? = some x := ⟨_, List.getElem?_eq_getElem hlt7⟩
          have HGET7 : Aside0 (rd_T54 fs (k7 : Int) = x7) := ⟨by unfold rd_T54; simp only [Int.toNat_natCast, List.getD_eq_getElem?_getD]; rw [hxx]; rfl⟩
          have HX7 : Aside0 (natF x7) := ⟨HF.out x7 (List.mem_of_getElem? hxx)⟩
          have HXX7 := Lib.hid hxx; have HLT7_ := Lib.hid hlt7
          obtain ⟨b7, hb_⟩ : ∃ b_ : List Int, b_ = B1 ++ (fs.take k7).flatMap putF := ⟨_, rfl⟩
          rw [← hb_] at HP; have Hb7 := Aside0.mk hb_; clear hb_
          have HLx7 : Aside0 ((b7 ++ putF x7).length ≤ 140737488355318) := ⟨by rw [Hb7.out, take_put HXX7.out]; exact Nat.le_trans (take_le _ _ _) (HLT2.out)⟩
          have z1_7 : decide ((k7 : Int) < (fs.length : Int)) = true := decide_eq_true (by omega)
          have q1_7 : (0 ≤ (k7 : Int)) = True := eq_true (by omega)
          have q2_7 : ((k7 : Int) < (fs.length : Int)) = True := eq_true (by omega)
          clear hxx hlt7
          obtain ⟨ad, RA1, rc1, RA3, rc3, RA4, rc4, e_, h0w, h1w, h2w, h3w, h4w, l1, g1, l3, g3, l4, g4⟩ := at_T54 HR1.out (k7 : Int) (by omega) (by have := HLT7_.out; omega)
          cases e_
          rw [HGET7.out] at h0w h1w h2w h3w h4w l1 g1 l3 g3 l4 g4
          simp only [Int.toNat_natCast] at h0w h1w h2w h3w h4w
          have h0_ := cell_up (below_step HX.out HB.out) h0w
          have h1_ := cell_up (below_step HX.out HB.out) h1w
          have h2_ := cell_up (below_step HX.out HB.out) h2w
          have h3_ := cell_up (below_step HX.out HB.out) h3w
          have h4_ := cell_up (below_step HX.out HB.out) h4w
          obtain ⟨y7, hy7⟩ : ∃ y, y = x7.f3.drop x7.f1.length := ⟨_, rfl⟩
          have HPF : Aside0 (putF x7 = natB (x7.f0.size : Int) ++ bytesOf x7.f0 ++ natB (x7.f1.length : Int) ++ x7.f1.flatMap putI ++ natB x7.f2 ++ natB (y7.length : Int) ++ y7.flatMap putI ++ natB (x7.f4.length : Int) ++ x7.f4.flatMap putC) := ⟨by unfold putF textB rowI rowC; rw [← hy7, natB_eq (n := (x7.f0.size : Int)) (by omega)]; simp⟩
          obtain ⟨RA5, rc5, hcut, g5⟩ : ∃ RA5 rc5, (∀ W : World, (Instr.slice 52 (.slice RA3 x7.f3.length rc3) (some (.int .i64 (x7.f1.length : Int))) none none).run Tryd.prog W = .ok (.slice RA5 y7.length rc5) W) ∧ Kd.C (Kd.int .i64) w RA5 y7.length y7 := by
            obtain ⟨i0, hi, hz, hsz, hby⟩ := info_parts info3
            have hle := HX7.out.2.2.2.2.1
            refine ⟨(if rc3 = x7.f1.length then RA3 else RA3.map (·.add (x7.f1.length * 1))), rc3 - x7.f1.length, fun W => ?_, by rw [hy7]; exact Kd.C_drop g3 hle l3⟩
            rw [cut_from 52 3 .i64 Tryd.underlying52 hi 1 hsz RA3 x7.f3.length rc3 (x7.f1.length : Int) (by omega) (by omega) W, hy7, List.length_drop]
            rfl
          have HY7 := Aside0.mk hy7; clear hy7
          have HR4 : Aside0 (∀ W, Below WX.heap.size WX W → Kd.C k50 W RA4 x7.f4.length x7.f4) := ⟨fun W hb => Kd.C_below g4 (below_step HX.out hb)⟩
          have HRp : Aside0 (∀ W, Below WX.heap.size WX W → Kd.C (Kd.int .i64) W RA1 x7.f1.length x7.f1) := ⟨fun W hb => Kd.C_below g1 (below_step HX.out hb)⟩
          have HRl : Aside0 (∀ W, Below WX.heap.size WX W → Kd.C (Kd.int .i64) W RA5 y7.length y7) := ⟨fun W hb => Kd.C_below g5 (below_step HX.out hb)⟩
          have HCAP := Aside0.mk (And.intro l1 (And.intro l3 l4))
          clear h0w h1w h2w h3w h4w g1 g3 g4 g5 l1 l3 l4
          go_wp2_with fail
          clear h0_ h1_ h2_ h3_ h4_
          generalize hWG : World.alloc wr _ = WG
          obtain ⟨G, hGe⟩ : ∃ G, G = wr.heap.size := ⟨_, rfl⟩
          rw [← hGe]
          have BG : Aside0 (WG.heap[G]? = some (.cells #[.string x7.f0, .slice RA1 x7.f1.length rc1, .int .i64 x7.f2, .slice RA3 x7.f3.length rc3, .slice RA4 x7.f4.length rc4] 54 (0, 0))) := ⟨by rw [← hWG, hGe]; exact blk_new wr _⟩
          have NGP : Aside0 (G ≠ P) := ⟨by obtain ⟨v_, hp_, _⟩ := HP.out; have := blk_lt hp_; omega⟩
          have n_ : Aside0 (Pg WG P WX.heap.size b7) := ⟨by rw [← hWG]; exact HP.out.alloc _⟩; have m_ : Aside0 (Below WX.heap.size WX WG) := ⟨by rw [← hWG]; exact HB.out.alloc HB.out.size _⟩; have o_ : Aside0 (WG.heap[gX]? = some (.cells #[.slice A0 gs.length c0, .slice (some ad) fs.length c1] 25 (0, 0))) := ⟨by rw [← hWG]; exact blk_alloc BX.out _⟩
          clear hWG hGe HP HB BX hcX0 hcX1; have HP := n_; have HB := m_; have BX := o_; clear n_ m_ o_
          have hcX0 := (blk_cell BX.out 0).trans rfl; have hcX1 := (blk_cell BX.out 1).trans rfl
          have hcG0 := (blk_cell BG.out 0).trans rfl; have hcG1 := (blk_cell BG.out 1).trans rfl; have hcG2 := (blk_cell BG.out 2).trans rfl; have hcG3 := (blk_cell BG.out 3).trans rfl; have hcG4 := (blk_cell BG.out 4).trans rfl
          refine (pg_nat P WX.heap.size (b7) ((x7.f0.size : Int)) _ HP.out HB.out.size GP.out (by omega) (by have := HX7.out.1; omega) (by have h_ := HLx7.out; rw [HPF.out] at h_; simp only [List.length_append] at h_ ⊢; omega)).mono ?_
          rintro e_ W18 ⟨rfl, hp_, hb_, hs_⟩
          have n_ := Aside0.mk hp_; have m_ := Aside0.mk (HB.out.trans hb_); have o_ := Aside0.mk (hs_ gX _ _ _ BX.out (by decide) NXP.out)
          have q_ := Aside0.mk (hs_ G _ _ _ BG.out (by decide) NGP.out); clear BG; clear hcG0; clear hcG1; clear hcG2; clear hcG3; clear hcG4; have BG := q_; clear q_
          clear HP HB BX hcX0 hcX1 hp_ hb_ hs_; have HP := n_; have HB := m_; have BX := o_; clear n_ m_ o_
          have hcX0 := (blk_cell BX.out 0).trans rfl; have hcX1 := (blk_cell BX.out 1).trans rfl
          have hcG0 := (blk_cell BG.out 0).trans rfl; have hcG1 := (blk_cell BG.out 1).trans rfl; have hcG2 := (blk_cell BG.out 2).trans rfl; have hcG3 := (blk_cell BG.out 3).trans rfl; have hcG4 := (blk_cell BG.out 4).trans rfl
          go_wp2_with fail
          obtain ⟨v_, hp_, hv_⟩ := HP.out
          have hcP0 := (blk_cell hp_ 0).trans rfl; have hfP0 := blk_frozen hp_ 0; have HPc := Aside0.mk hp_; have HPv := Aside0.mk hv_; clear hp_ hv_
          have HXS := Aside0.mk HX7.out.1
          go_region_law (first | (refine pg_str_step (w0 := WX) WX.heap.size P (by rfl) (.tmp 80) (.tmp 82) rfl v_ (b7 ++ natB (x7.f0.size : Int)) x7.f0 rfl rfl ?aO ?aP ?aB ?aS ?aL ?_; (case aO => exact Kd.R_drew HPv.out); (case aP => exact blk_drew HPc.out); (case aB => exact HB.out.drew); (case aS => exact HB.out.size); (case aL => (have h_ := HLx7.out; rw [HPF.out] at h_; simp only [List.length_append, bytesOf_length] at h_ ⊢; omega; skip)); intro v1 WS ho hb hg; have hgP := (hg.block P (blk_lt (blk_drew HPc.out)) (fun e_ => HPv.out.1 P e_.symm rfl)); have HSd := Aside0.mk (Sd.grown P (Kd.R_drew HPv.out) hg); obtain ⟨bs, hbs⟩ : ∃ l : List Int, l = b7 ++ natB (x7.f0.size : Int) ++ bytesOf x7.f0 := ⟨_, rfl⟩; rw [← hbs] at ho; have HBS := Aside0.mk hbs; clear hbs; obtain ⟨A2, c2, rfl⟩ := Kd.R_slice ho; have HO1 := Aside0.mk ho; have HB2 := Aside0.mk hb; have HGP := Aside0.mk hgP; clear hcP0 hfP0; have hcP0 := (blk_cell (hgP.trans HPc.out) 0).trans rfl; have hfP0 := blk_frozen (hgP.trans HPc.out) 0; clear ho hb hg hgP))
          all_goals
            have n_ := Aside0.mk (Pg.set HPc.out HO1.out HGP.out); have m_ := Aside0.mk (HB2.out.setCell (p := ⟨P, 0, none⟩) GP.out (.slice A2 bs.length c2)); have o_ := Aside0.mk ((Sd.set HSd.out (.slice A2 bs.length c2)) gX _ _ _ (blk_drew BX.out) (by decide) NXP.out); have q_ := Aside0.mk ((Sd.set HSd.out (.slice A2 bs.length c2)) G _ _ _ (blk_drew BG.out) (by decide) NGP.out)
            clear hcP0 hfP0 HPc HPv HGP HB2 HO1 HSd HP HB BX BG hcX0 hcX1 hcG0 hcG1 hcG2 hcG3 hcG4
            generalize hWT : WS.setCell ⟨P, 0, none⟩ (.slice A2 bs.length c2) = WT at n_ m_ o_ q_ ⊢
            clear hWT
            have HP := n_; have HB := m_; have BX := o_; have BG := q_; clear n_ m_ o_ q_
            have hcX0 := (blk_cell BX.out 0).trans rfl; have hcX1 := (blk_cell BX.out 1).trans rfl
            have hcG0 := (blk_cell BG.out 0).trans rfl; have hcG1 := (blk_cell BG.out 1).trans rfl; have hcG2 := (blk_cell BG.out 2).trans rfl; have hcG3 := (blk_cell BG.out 3).trans rfl; have hcG4 := (blk_cell BG.out 4).trans rfl
            go_wp2_with fail
            refine (pg_row P WX.heap.size (bs) RA1 rc1 x7.f1 _ HP.out HB.out.size GP.out (fun W' hb' => HRp.out W' (HB.out.trans hb')) (HX7.out.2.1) (by have := HX7.out.2.2.2.2.1; have := HX7.out.2.2.2.2.2.1; omega) (by have h_ := HLx7.out; rw [HPF.out] at h_; have hb_ := congrArg List.length HBS.out; simp only [List.length_append] at h_ hb_ ⊢; omega)).mono ?_
            rintro e_ W19 ⟨rfl, hp_, hb_, hs_⟩
            have n_ := Aside0.mk hp_; have m_ := Aside0.mk (HB.out.trans hb_); have o_ := Aside0.mk (hs_ gX _ _ _ BX.out (by decide) NXP.out)
            have q_ := Aside0.mk (hs_ G _ _ _ BG.out (by decide) NGP.out); clear BG; clear hcG0; clear hcG1; clear hcG2; clear hcG3; clear hcG4; have BG := q_; clear q_
            clear HP HB BX hcX0 hcX1 hp_ hb_ hs_; have HP := n_; have HB := m_; have BX := o_; clear n_ m_ o_
            have hcX0 := (blk_cell BX.out 0).trans rfl; have hcX1 := (blk_cell BX.out 1).trans rfl
            have hcG0 := (blk_cell BG.out 0).trans rfl; have hcG1 := (blk_cell BG.out 1).trans rfl; have hcG2 := (blk_cell BG.out 2).trans rfl; have hcG3 := (blk_cell BG.out 3).trans rfl; have hcG4 := (blk_cell BG.out 4).trans rfl
            go_wp2_with fail
            refine (pg_nat P WX.heap.size (bs ++ natB (x7.f1.length : Int) ++ x7.f1.flatMap putI) (x7.f2) _ HP.out HB.out.size GP.out HX7.out.2.2.1.1 HX7.out.2.2.1.2 (by have h_ := HLx7.out; rw [HPF.out] at h_; have hb_ := congrArg List.length HBS.out; simp only [List.length_append] at h_ hb_ ⊢; omega)).mono ?_
            rintro e_ W20 ⟨rfl, hp_, hb_, hs_⟩
            have n_ := Aside0.mk hp_; have m_ := Aside0.mk (HB.out.trans hb_); have o_ := Aside0.mk (hs_ gX _ _ _ BX.out (by decide) NXP.out)
            have q_ := Aside0.mk (hs_ G _ _ _ BG.out (by decide) NGP.out); clear BG; clear hcG0; clear hcG1; clear hcG2; clear hcG3; clear hcG4; have BG := q_; clear q_
            clear HP HB BX hcX0 hcX1 hp_ hb_ hs_; have HP := n_; have HB := m_; have BX := o_; clear n_ m_ o_
            have hcX0 := (blk_cell BX.out 0).trans rfl; have hcX1 := (blk_cell BX.out 1).trans rfl
            have hcG0 := (blk_cell BG.out 0).trans rfl; have hcG1 := (blk_cell BG.out 1).trans rfl; have hcG2 := (blk_cell BG.out 2).trans rfl; have hcG3 := (blk_cell BG.out 3).trans rfl; have hcG4 := (blk_cell BG.out 4).trans rfl
            go_wp2_with fail
            refine (pg_row P WX.heap.size (bs ++ natB (x7.f1.length : Int) ++ x7.f1.flatMap putI ++ natB x7.f2) RA5 rc5 y7 _ HP.out HB.out.size GP.out (fun W' hb' => HRl.out W' (HB.out.trans hb')) (fun x hx => HX7.out.2.2.2.1 x (by rw [HY7.out] at hx; exact List.mem_of_mem_drop hx)) (by have h_ := congrArg List.length HY7.out; rw [List.length_drop] at h_; have := HX7.out.2.2.2.2.2.1; omega) (by have h_ := HLx7.out; rw [HPF.out] at h_; have hb_ := congrArg List.length HBS.out; simp only [List.length_append] at h_ hb_ ⊢; omega)).mono ?_
            rintro e_ W21 ⟨rfl, hp_, hb_, hs_⟩
            have n_ := Aside0.mk hp_; have m_ := Aside0.mk (HB.out.trans hb_); have o_ := Aside0.mk (hs_ gX _ _ _ BX.out (by decide) NXP.out)
            have q_ := Aside0.mk (hs_ G _ _ _ BG.out (by decide) NGP.out); clear BG; clear hcG0; clear hcG1; clear hcG2; clear hcG3; clear hcG4; have BG := q_; clear q_
            clear HP HB BX hcX0 hcX1 hp_ hb_ hs_; have HP := n_; have HB := m_; have BX := o_; clear n_ m_ o_
            have hcX0 := (blk_cell BX.out 0).trans rfl; have hcX1 := (blk_cell BX.out 1).trans rfl
            have hcG0 := (blk_cell BG.out 0).trans rfl; have hcG1 := (blk_cell BG.out 1).trans rfl; have hcG2 := (blk_cell BG.out 2).trans rfl; have hcG3 := (blk_cell BG.out 3).trans rfl; have hcG4 := (blk_cell BG.out 4).trans rfl
            go_wp2_with fail
            refine (pg_nat P WX.heap.size (bs ++ natB (x7.f1.length : Int) ++ x7.f1.flatMap putI ++ natB x7.f2 ++ natB (y7.length : Int) ++ y7.flatMap putI) ((x7.f4.length : Int)) _ HP.out HB.out.size GP.out (by omega) (by have := HX7.out.2.2.2.2.2.2.1; omega) (by have h_ := HLx7.out; rw [HPF.out] at h_; have hb_ := congrArg List.length HBS.out; simp only [List.length_append] at h_ hb_ ⊢; omega)).mono ?_
            rintro e_ W22 ⟨rfl, hp_, hb_, hs_⟩
            have n_ := Aside0.mk hp_; have m_ := Aside0.mk (HB.out.trans hb_); have o_ := Aside0.mk (hs_ gX _ _ _ BX.out (by decide) NXP.out)
            have q_ := Aside0.mk (hs_ G _ _ _ BG.out (by decide) NGP.out); clear BG; clear hcG0; clear hcG1; clear hcG2; clear hcG3; clear hcG4; have BG := q_; clear q_
            clear HP HB BX hcX0 hcX1 hp_ hb_ hs_; have HP := n_; have HB := m_; have BX := o_; clear n_ m_ o_
            have hcX0 := (blk_cell BX.out 0).trans rfl; have hcX1 := (blk_cell BX.out 1).trans rfl
            have hcG0 := (blk_cell BG.out 0).trans rfl; have hcG1 := (blk_cell BG.out 1).trans rfl; have hcG2 := (blk_cell BG.out 2).trans rfl; have hcG3 := (blk_cell BG.out 3).trans rfl; have hcG4 := (blk_cell BG.out 4).trans rfl
            go_wp2_with fail
            have HLT3 : Aside0 ((bs ++ natB (x7.f1.length : Int) ++ x7.f1.flatMap putI ++ natB x7.f2 ++ natB (y7.length : Int) ++ y7.flatMap putI ++ natB (x7.f4.length : Int) ++ x7.f4.flatMap putC).length ≤ 140737488355318) := ⟨by have h_ := HLx7.out; rw [HPF.out] at h_; have hb_ := congrArg List.length HBS.out; simp only [List.length_append] at h_ hb_ ⊢; omega⟩
            obtain ⟨B3, hB3⟩ : ∃ B3 : List Int, B3 = bs ++ natB (x7.f1.length : Int) ++ x7.f1.flatMap putI ++ natB x7.f2 ++ natB (y7.length : Int) ++ y7.flatMap putI ++ natB (x7.f4.length : Int) := ⟨_, rfl⟩
            rw [← hB3] at HP HLT3
            have HB3 := Aside0.mk hB3; clear hB3
            have hf4 := HX7.out.2.2.2.2.2.2.1
            go_loopw [9] (fun vi wr => ∃ (k : Nat), vi = .int .i64 k ∧ Aside0 (k ≤ x7.f4.length) ∧ Aside0 (Pg wr P WX.heap.size (B3 ++ (x7.f4.take k).flatMap putC)) ∧ Aside0 (Below WX.heap.size WX wr) ∧ Aside0 (wr.heap[gX]? = some (.cells #[.slice A0 gs.length c0, .slice (some ad) fs.length c1] 25 (0, 0))) ∧ Aside0 (wr.heap[G]? = some (.cells #[.string x7.f0, .slice RA1 x7.f1.length rc1, .int .i64 x7.f2, .slice RA3 x7.f3.length rc3, .slice RA4 x7.f4.length rc4] 54 (0, 0)))) (fun v _ => x7.f4.length - (intOf v).toNat)
            case atStart => exact ⟨0, rfl, ⟨Nat.zero_le _⟩, ⟨by simpa using HP.out⟩, HB, BX, BG⟩
            case round =>
              clear HP HB BX hcX0 hcX1 BG hcG0 hcG1 hcG2 hcG3 hcG4
              obtain ⟨k9, rfl, HN9, HP, HB, BX, BG⟩ := hrel
              have hcX0 := (blk_cell BX.out 0).trans rfl; have hcX1 := (blk_cell BX.out 1).trans rfl
              have hcG0 := (blk_cell BG.out 0).trans rfl; have hcG1 := (blk_cell BG.out 1).trans rfl; have hcG2 := (blk_cell BG.out 2).trans rfl; have hcG3 := (blk_cell BG.out 3).trans rfl; have hcG4 := (blk_cell BG.out 4).trans rfl
              have hk9 := HN9.out
              by_cases hlt9 : k9 < x7.f4.length
              · obtain ⟨x9, hxx⟩ : ∃ x, x7.f4[k9]? = some x := ⟨_, List.getElem?_eq_getElem hlt9⟩
                have HGET9 : Aside0 (rd_T50 x7.f4 (k9 : Int) = x9) := ⟨by unfold rd_T50; simp only [Int.toNat_natCast, List.getD_eq_getElem?_getD]; rw [hxx]; rfl⟩
                have HX9 : Aside0 (natC x9) := ⟨HX7.out.2.2.2.2.2.2.2 x9 (List.mem_of_getElem? hxx)⟩
                have HXX9 := Lib.hid hxx; have HLT9_ := Lib.hid hlt9
                obtain ⟨b9, hb_⟩ : ∃ b_ : List Int, b_ = B3 ++ (x7.f4.take k9).flatMap putC := ⟨_, rfl⟩
                rw [← hb_] at HP; have Hb9 := Aside0.mk hb_; clear hb_
                have HLx9 : Aside0 ((b9 ++ putC x9).length ≤ 140737488355318) := ⟨by rw [Hb9.out, take_put HXX9.out]; exact Nat.le_trans (take_le _ _ _) (HLT3.out)⟩
                have z1_9 : decide ((k9 : Int) < (x7.f4.length : Int)) = true := decide_eq_true (by omega)
                have q1_9 : (0 ≤ (k9 : Int)) = True := eq_true (by omega)
                have q2_9 : ((k9 : Int) < (x7.f4.length : Int)) = True := eq_true (by omega)
                clear hxx hlt9
                obtain ⟨ad, e_, h0_, h1_, h2_⟩ := at_T50 (HR4.out _ HB.out) (k9 : Int) (by omega) (by have := HLT9_.out; omega)
                cases e_
                rw [HGET9.out] at h0_ h1_ h2_
                simp only [Int.toNat_natCast] at h0_ h1_ h2_
                go_wp2_with fail
                refine (pg_nat P WX.heap.size (b9) (x9.f0) _ HP.out HB.out.size GP.out HX9.out.1.1 HX9.out.1.2 (by have h_ := HLx9.out; simp only [putC, List.length_append] at h_ ⊢; omega)).mono ?_
                rintro e_ W23 ⟨rfl, hp_, hb_, hs_⟩
                have n_ := Aside0.mk hp_; have m_ := Aside0.mk (HB.out.trans hb_); have o_ := Aside0.mk (hs_ gX _ _ _ BX.out (by decide) NXP.out)
                have q_ := Aside0.mk (hs_ G _ _ _ BG.out (by decide) NGP.out); clear BG; clear hcG0; clear hcG1; clear hcG2; clear hcG3; clear hcG4; have BG := q_; clear q_
                clear HP HB BX hcX0 hcX1 hp_ hb_ hs_; have HP := n_; have HB := m_; have BX := o_; clear n_ m_ o_
                have hcX0 := (blk_cell BX.out 0).trans rfl; have hcX1 := (blk_cell BX.out 1).trans rfl
                have hcG0 := (blk_cell BG.out 0).trans rfl; have hcG1 := (blk_cell BG.out 1).trans rfl; have hcG2 := (blk_cell BG.out 2).trans rfl; have hcG3 := (blk_cell BG.out 3).trans rfl; have hcG4 := (blk_cell BG.out 4).trans rfl
                clear h0_ h1_ h2_
                obtain ⟨ad_, e_, h0_, h1_, h2_⟩ := at_T50 (HR4.out _ HB.out) (k9 : Int) (by omega) (by have := HLT9_.out; omega)
                cases e_
                rw [HGET9.out] at h0_ h1_ h2_
                simp only [Int.toNat_natCast] at h0_ h1_ h2_
                go_wp2_with fail
                refine (pg_num P WX.heap.size (b9 ++ natB x9.f0) (x9.f1) _ HP.out HB.out.size GP.out HX9.out.2.1.1 HX9.out.2.1.2 (by have h_ := HLx9.out; simp only [putC, List.length_append] at h_ ⊢; omega)).mono ?_
                rintro e_ W24 ⟨rfl, hp_, hb_, hs_⟩
                have n_ := Aside0.mk hp_; have m_ := Aside0.mk (HB.out.trans hb_); have o_ := Aside0.mk (hs_ gX _ _ _ BX.out (by decide) NXP.out)
                have q_ := Aside0.mk (hs_ G _ _ _ BG.out (by decide) NGP.out); clear BG; clear hcG0; clear hcG1; clear hcG2; clear hcG3; clear hcG4; have BG := q_; clear q_
                clear HP HB BX hcX0 hcX1 hp_ hb_ hs_; have HP := n_; have HB := m_; have BX := o_; clear n_ m_ o_
                have hcX0 := (blk_cell BX.out 0).trans rfl; have hcX1 := (blk_cell BX.out 1).trans rfl
                have hcG0 := (blk_cell BG.out 0).trans rfl; have hcG1 := (blk_cell BG.out 1).trans rfl; have hcG2 := (blk_cell BG.out 2).trans rfl; have hcG3 := (blk_cell BG.out 3).trans rfl; have hcG4 := (blk_cell BG.out 4).trans rfl
                clear h0_ h1_ h2_
                obtain ⟨ad_, e_, h0_, h1_, h2_⟩ := at_T50 (HR4.out _ HB.out) (k9 : Int) (by omega) (by have := HLT9_.out; omega)
                cases e_
                rw [HGET9.out] at h0_ h1_ h2_
                simp only [Int.toNat_natCast] at h0_ h1_ h2_
                go_wp2_with fail
                refine (pg_nat P WX.heap.size (b9 ++ natB x9.f0 ++ wholeB x9.f1) (x9.f2) _ HP.out HB.out.size GP.out HX9.out.2.2.1 HX9.out.2.2.2 (by have h_ := HLx9.out; simp only [putC, List.length_append] at h_ ⊢; omega)).mono ?_
                rintro e_ W25 ⟨rfl, hp_, hb_, hs_⟩
                have n_ := Aside0.mk hp_; have m_ := Aside0.mk (HB.out.trans hb_); have o_ := Aside0.mk (hs_ gX _ _ _ BX.out (by decide) NXP.out)
                have q_ := Aside0.mk (hs_ G _ _ _ BG.out (by decide) NGP.out); clear BG; clear hcG0; clear hcG1; clear hcG2; clear hcG3; clear hcG4; have BG := q_; clear q_
                clear HP HB BX hcX0 hcX1 hp_ hb_ hs_; have HP := n_; have HB := m_; have BX := o_; clear n_ m_ o_
                have hcX0 := (blk_cell BX.out 0).trans rfl; have hcX1 := (blk_cell BX.out 1).trans rfl
                have hcG0 := (blk_cell BG.out 0).trans rfl; have hcG1 := (blk_cell BG.out 1).trans rfl; have hcG2 := (blk_cell BG.out 2).trans rfl; have hcG3 := (blk_cell BG.out 3).trans rfl; have hcG4 := (blk_cell BG.out 4).trans rfl
                clear h0_ h1_ h2_
                go_wp2_with fail
                rw [show b9 ++ natB x9.f0 ++ wholeB x9.f1 ++ natB x9.f2 = b9 ++ putC x9 by simp [putC]] at HP
                have e_ : b9 ++ putC x9 = B3 ++ (x7.f4.take (k9 + 1)).flatMap putC := by rw [Hb9.out, take_put HXX9.out]
                exact ⟨⟨k9 + 1, by go_num, ⟨HLT9_.out⟩, ⟨by rw [← e_]; exact HP.out⟩, HB, BX, BG⟩, by have := HLT9_.out; simp [intOf]; omega⟩
              · have z1_9 : decide ((k9 : Int) < (x7.f4.length : Int)) = false := decide_eq_false (by omega)
                obtain rfl : k9 = x7.f4.length := by omega
                rw [List.take_length] at HP
                clear hlt9 hk9 HN9
                rw [HB3.out, HBS.out] at HP
                go_wp2_with fail
                have e_ : b7 ++ natB (x7.f0.size : Int) ++ bytesOf x7.f0 ++ natB (x7.f1.length : Int) ++ x7.f1.flatMap putI ++ natB x7.f2 ++ natB (y7.length : Int) ++ y7.flatMap putI ++ natB (x7.f4.length : Int) ++ x7.f4.flatMap putC = B1 ++ (fs.take (k7 + 1)).flatMap putF := by rw [← take_put HXX7.out, ← Hb7.out, HPF.out]; simp
                exact ⟨⟨k7 + 1, by go_num, ⟨HLT7_.out⟩, ⟨by rw [← e_]; exact HP.out⟩, HB, BX⟩, by have := HLT7_.out; simp [intOf]; omega⟩
        · have z1_7 : decide ((k7 : Int) < (fs.length : Int)) = false := decide_eq_false (by omega)
          obtain rfl : k7 = fs.length := by omega
          rw [List.take_length] at HP
          clear hlt7 hk7 HN7
          rw [show B1 ++ fs.flatMap putF = bodyF gs fs from by rw [HB1.out, HB0.out]; simp [bodyF, rowG, rowF]] at HP
          have hbl := HL.out
          obtain ⟨v_, hp_, hv_⟩ := HP.out
          obtain ⟨AP, cP, rfl⟩ := Kd.R_slice hv_
          have HRd := Aside0.mk (Kd.R_reads' hv_).2.2
          have hcP0 := (blk_cell hp_ 0).trans rfl
          clear hp_ hv_ HP
          obtain ⟨bd, hbd⟩ : ∃ bd, bd = bodyF gs fs := ⟨_, rfl⟩
          rw [← hbd] at HRd hbl hcP0
          have HBL := Aside0.mk hbl; have HBD := Aside0.mk hbd; clear hbl hbd
          go_wp2_with fail
          refine (rFrame_callsF AP cP bd.length bd _ rfl HRd.out (by have := HBL.out; omega)).mono ?_
          rintro e_ WF ⟨v0, rfl, ho, hb⟩
          obtain ⟨fr, hfr⟩ : ∃ fr, fr = frameF bd := ⟨_, rfl⟩
          rw [← hfr] at ho
          obtain ⟨AF, cF, rfl⟩ := Kd.R_slice ho.R5
          have HO1 := Aside0.mk ho; have HB2 := Aside0.mk hb; have HFR := Aside0.mk hfr; clear ho hb hcP0 hfr
          by_cases hlong : 1048576 < fr.length
          · have z_ : decide ((fr.length : Int) > 1048576) = true := decide_eq_true (by omega)
            have hE2 : Aside0 (E = ([], 2)) := ⟨by rw [HE.out]; unfold dencR; rw [← HBD.out, ← HFR.out, if_pos hlong]⟩
            clear hlong
            go_wp2
            go_ret2
            rw [hE2.out]
            exact ⟨_, rfl, RS.nil _ _, below_step (below_step HX.out HB.out) HB2.out⟩
          · have z_ : decide ((fr.length : Int) > 1048576) = false := decide_eq_false (by omega)
            have hE2 : Aside0 (E = (fr, 0)) := ⟨by rw [HE.out]; unfold dencR; rw [← HBD.out, ← HFR.out, if_neg hlong]⟩
            clear hlong
            go_wp2
            go_ret2
            rw [hE2.out]
            exact ⟨_, rfl, HO1.out.lower (below_step HX.out HB.out).size, below_step (below_step HX.out HB.out) HB2.out⟩
end Go.Proofs.YteidgpaakoeefaaDoor
namespace Go.Proofs.YteidgpaakoeefaaDoor
open Go.RowKit Go.Proofs.YteidgpaakoeefaaDoorW.PrintWords Go.Proofs.YteidgpaakoeefaaDoorW.PrintLast Go.Proofs.YteidgpaakoeefaaDoorW.PrintMore
set_option linter.unusedVariables false
set_option linter.unusedSimpArgs false
open PIm
set_option maxHeartbeats 2000000 in
set_option maxRecDepth 100000 in
theorem denc_no (A0 : Option Addr) (c0 : Nat) (gs : List S48) (A1 : Option Addr) (c1 : Nat) (fs : List S54) (w : World)
    (hok : ∀ W, Below w.heap.size w W → Calls Tryd.prog 34 #[.agg #[.slice A0 gs.length c0, .slice A1 fs.length c1]] W fun e w' => e = .returned (.bool false) ∧ Below W.heap.size W w') :
    Calls Tryd.prog 13 #[.agg #[.slice A0 gs.length c0, .slice A1 fs.length c1]] w fun e w' => ∃ v, e = .returned (.tuple #[v, .int .i64 150]) ∧ RS w.heap.size w' v [] ∧ Below w.heap.size w w' := by
  have hu25 := Tryd.underlying25
  have HOK := Aside0.mk hok
  clear hok
  go_enter Tryd.func13, Tryd.ntmps13
  go_wp2_with (first | ((with_reducible refine gate_dst (N := 1) rfl ?_); refine box_event ?hg (N := 1) ?hd (cs := #[.slice A0 gs.length c0, .slice A1 fs.length c1]) (t := 25) ?hr ?_; (case hd => rfl); (case hg => rfl); (case hr => first | (go_simp; done) | (go_simp; rfl)); intro gX hg_ WX hbox_ hb_; have HX : Aside0 (Below w.heap.size w WX) := ⟨hb_⟩; have BX := Aside0.mk hbox_; clear hg_ hbox_ hb_; have hcX0 := (blk_cell BX.out 0).trans rfl; have hcX1 := (blk_cell BX.out 1).trans rfl))
  refine (HOK.out _ HX.out).mono ?_
  rintro e_ W2 ⟨rfl, hb_⟩
  have HB := Aside0.mk hb_
  clear hcX0 hcX1 BX hb_
  go_wp2
  go_ret2
  exact ⟨_, rfl, RS.nil _ _, below_step HX.out HB.out⟩
theorem denc_nat {gs : List S48} {fs : List S54} (h : okF gs fs = true) (hr : rngA gs fs) : (∀ x ∈ gs, natG x) ∧ (∀ f ∈ fs, natF f) ∧ gs.length ≤ 100000 ∧ fs.length ≤ 100000 := by
  obtain ⟨h1, h2, h3, h4⟩ := okF_parts h
  refine ⟨fun x hx => ?_, fun f hf => ?_, by omega, by omega⟩
  · have a := globB_ok (h3 x hx)
    exact ⟨⟨a.1, by omega⟩, ⟨a.2.2.1, by omega⟩, (hr.1 x hx).2.2⟩
  · obtain ⟨b0, b1, b3, b4, bt, b2, ble, beq, bi⟩ := fnB_ok (h4 f hf)
    have hN : ∀ x ∈ f.f3, natN x := fun x hx => ⟨(bt x hx).1, by have := (bt x hx).2; omega⟩
    refine ⟨by omega, fun x hx => hN x ?_, ⟨b2.1, by have := b2.2; omega⟩, hN, ble, by omega, by omega, fun x hx => ?_⟩
    · rw [beq] at hx; exact List.mem_of_mem_take hx
    · have := bi x hx
      exact ⟨⟨by omega, by omega⟩, ((hr.2 f hf).2.2.2 x hx).2.1, ⟨by omega, by omega⟩⟩
theorem denc_calls (A0 : Option Addr) (c0 : Nat) (gs : List S48) (A1 : Option Addr) (c1 : Nat) (fs : List S54) (w : World) (hr0 : Kd.C k48 w A0 gs.length gs) (hc0 : gs.length ≤ c0) (hr1 : Kd.C k54 w A1 fs.length fs) (hc1 : fs.length ≤ c1)
    (hok : ∀ W, Below w.heap.size w W → Calls Tryd.prog 34 #[.agg #[.slice A0 gs.length c0, .slice A1 fs.length c1]] W fun e w' => e = .returned (.bool (okF gs fs)) ∧ Below W.heap.size W w')
    (h : argA gs fs) :
    Calls Tryd.prog 13 #[.agg #[.slice A0 gs.length c0, .slice A1 fs.length c1]] w fun e w' => ∃ v, e = .returned (.tuple #[v, .int .i64 (encF gs fs).2]) ∧ RS w.heap.size w' v (encF gs fs).1 ∧ Below w.heap.size w w' := by
  cases ho : okF gs fs with
  | false =>
    rw [ho] at hok
    have e : encF gs fs = ([], 150) := by unfold encF; rw [ho, if_neg (by decide)]
    rw [e]
    exact denc_no A0 c0 gs A1 c1 fs w hok
  | true =>
    rw [ho] at hok
    obtain ⟨h1, h2, h3, h4⟩ := denc_nat ho h.2.2.2
    have e : encF gs fs = dencR gs fs := by unfold encF dencR; rw [ho, if_pos rfl]
    rw [e]
    exact denc_ok A0 c0 gs A1 c1 fs w hr0 hc0 hr1 hc1 hok h1 h2 h3 h4 (body_len (okF_okA ho h.2.2.2))
end Go.Proofs.YteidgpaakoeefaaDoor
namespace Go.Proofs.YteidgpaakoeefaaDoor.PIm
open Go.RowKit Go.Proofs.YteidgpaakoeefaaDoorW.PrintWords Go.Proofs.YteidgpaakoeefaaDoorW.PrintLast Go.Proofs.YteidgpaakoeefaaDoorW.PrintMore
attribute [local go_sem] max2_int min2_int max_two min_two max_three min_three max_four min_four   -- for this text's walks alone
set_option linter.unusedVariables false
set_option linter.unusedSimpArgs false
def tiltyardref08_in.l0 : Nat → List ByteArray → ByteArray → Int → Option (Bool)
  | 0, _, _, _ => none
  | k + 1, x0, x1, x5 => if x5 < (x0.length : Int) then (if 0 ≤ x5 then (if (rdOf ByteArray.empty x0 x5).toList = x1.toList then (some true) else (tiltyardref08_in.l0 k x0 x1 (wrap64 (x5 + 1)))) else (none)) else (some false)
def tiltyardref08_in.f (k : Nat) (l0 : List ByteArray) (a1 : ByteArray) : Option (Bool) := tiltyardref08_in.l0 k l0 a1 0
set_option maxHeartbeats 8000000 in
set_option maxRecDepth 100000 in
theorem tiltyardref08_in.calls (k : Nat) (A0 : Option Addr) (c0 : Nat) (l0 : List ByteArray) (a1 : ByteArray) (r : Bool) (w : World) (hr0 : Kd.C Kd.string w A0 l0.length l0) (hc0 : l0.length ≤ c0) (h : tiltyardref08_in.f k l0 a1 = some r) :
    Calls Tryd.prog 110 #[.slice A0 l0.length c0, .string a1] w fun e w' => e = .returned (.bool r) ∧ Drawn0 w w' := by
  have HR0 := Aside0.mk hr0
  have HC0 := Aside0.mk hc0
  clear hr0 hc0
  have H : (tiltyardref08_in.l0 k l0 a1 0) = some r := h
  clear h
  have H' := Aside0.mk H
  clear H
  go_enter Tryd.func110, Tryd.ntmps110
  go_wp2
  go_loopg [5] k (fun kq v5 w' => ∃ (x5_1 : Int), v5 = .int .i64 x5_1 ∧ Aside0 (tiltyardref08_in.l0 kq l0 a1 x5_1 = some r) ∧ Aside0 (kq ≤ k) ∧ Drawn0 w w')
  case atStart => exact ⟨(0), (by first | rfl | (simp; done) | (simp [*]; done)), H', ⟨Nat.le_refl _⟩, by repeat (first | exact Drawn0.refl _ | apply Drawn0.step)⟩
  case round =>
    clear H'
    try clear c1
    try clear p2
    obtain ⟨x5_1, rfl, HA, HK1, ⟨m1, rfl⟩⟩ := hrel
    cases gk with
    | zero => exact absurd HA.out (by simp [tiltyardref08_in.l0])
    | succ k1 =>
      have H := HA.out
      clear HA
      simp only [tiltyardref08_in.l0] at H
      by_cases c3 : x5_1 < (l0.length : Int)
      · rw [if_pos c3] at H
        have c3b0 : decide (x5_1 < (l0.length : Int)) = true := decide_eq_true c3
        clear c3
        by_cases c4 : 0 ≤ x5_1
        · rw [if_pos c4] at H
          have c4b0 : decide (0 ≤ x5_1) = true := decide_eq_true c4
          clear c4
          by_cases c5 : (rdOf ByteArray.empty l0 x5_1).toList = a1.toList
          · rw [if_pos c5] at H
            have c5b0 : ((rdOf ByteArray.empty l0 x5_1).toList == a1.toList) = true := beq_iff_eq.mpr c5
            have c5b1 : ((rdOf ByteArray.empty l0 x5_1).toList != a1.toList) = false := bne_eq_false_iff_eq.mpr c5
            clear c5
            obtain rfl := Option.some.inj H
            have p276 : 0 ≤ (x5_1 : Int) := of_decide_eq_true (by first | (with_reducible assumption) | assumption)
            have q276 : x5_1 < (l0.length : Int) := of_decide_eq_true (by first | (with_reducible assumption) | assumption)
            obtain ⟨ad276, e276, hx276_0⟩ := Kd.at_string HR0.out x5_1 p276 q276
            cases e276
            replace p276 := eq_true p276
            replace q276 := eq_true q276
            go_wp2
            go_ret
            exact ⟨by first | rfl | (simp; done) | (simp [*]; done), by repeat (first | exact Drawn0.refl _ | apply Drawn0.step)⟩
          · rw [if_neg c5] at H
            have c5b0 : ((rdOf ByteArray.empty l0 x5_1).toList == a1.toList) = false := beq_eq_false_iff_ne.mpr c5
            have c5b1 : ((rdOf ByteArray.empty l0 x5_1).toList != a1.toList) = true := bne_iff_ne.mpr c5
            have H' := Aside0.mk H
            clear H
            have p276 : 0 ≤ (x5_1 : Int) := of_decide_eq_true (by first | (with_reducible assumption) | assumption)
            have q276 : x5_1 < (l0.length : Int) := of_decide_eq_true (by first | (with_reducible assumption) | assumption)
            obtain ⟨ad276, e276, hx276_0⟩ := Kd.at_string HR0.out x5_1 p276 q276
            cases e276
            replace p276 := eq_true p276
            replace q276 := eq_true q276
            go_wp2
            go_roundg k1
            case measure => have := HK1.out; omega
            case rel => exact ⟨(wrap64 (x5_1 + 1)), (by first | rfl | (simp; done) | (simp [*]; done)), H', ⟨by have := HK1.out; omega⟩, by repeat (first | exact Drawn0.refl _ | apply Drawn0.step)⟩
        · rw [if_neg c4] at H
          exact absurd H (by simp)
      · rw [if_neg c3] at H
        have c3b0 : decide (x5_1 < (l0.length : Int)) = false := decide_eq_false c3
        clear c3
        obtain rfl := Option.some.inj H
        go_wp2
        go_ret
        exact ⟨by first | rfl | (simp; done) | (simp [*]; done), by repeat (first | exact Drawn0.refl _ | apply Drawn0.step)⟩
def tiltyardref08_Words.f  : Option (List ByteArray) := some (([(⟨#[98, 111, 111, 108]⟩ : ByteArray), (⟨#[101, 108, 115, 101]⟩ : ByteArray), (⟨#[101, 110, 116]⟩ : ByteArray), (⟨#[102, 97, 108, 115, 101]⟩ : ByteArray), (⟨#[102, 105, 120]⟩ : ByteArray), (⟨#[102, 110]⟩ : ByteArray), (⟨#[105, 102]⟩ : ByteArray), (⟨#[105, 110, 116]⟩ : ByteArray), (⟨#[108, 101, 116]⟩ : ByteArray), (⟨#[110, 117, 108, 108]⟩ : ByteArray), (⟨#[114, 101, 116, 117, 114, 110]⟩ : ByteArray), (⟨#[116, 114, 117, 101]⟩ : ByteArray), (⟨#[118, 97, 114]⟩ : ByteArray), (⟨#[119, 104, 105, 108, 101]⟩ : ByteArray)] : List ByteArray))
set_option maxHeartbeats 8000000 in
set_option maxRecDepth 100000 in
theorem tiltyardref08_Words.calls  (r : List ByteArray) (w : World) (h : tiltyardref08_Words.f  = some r) :
    Calls Tryd.prog 111 #[] w fun e w' => ∃ v0_ : Value, e = .returned (v0_) ∧ Kd.R Kd.string 9 w' w.heap.size (fun _ => True) v0_ r ∧ Below w.heap.size w w' := by
  have HB := Aside0.mk (Below.refl w.heap.size w)
  have H : (some (([(⟨#[98, 111, 111, 108]⟩ : ByteArray), (⟨#[101, 108, 115, 101]⟩ : ByteArray), (⟨#[101, 110, 116]⟩ : ByteArray), (⟨#[102, 97, 108, 115, 101]⟩ : ByteArray), (⟨#[102, 105, 120]⟩ : ByteArray), (⟨#[102, 110]⟩ : ByteArray), (⟨#[105, 102]⟩ : ByteArray), (⟨#[105, 110, 116]⟩ : ByteArray), (⟨#[108, 101, 116]⟩ : ByteArray), (⟨#[110, 117, 108, 108]⟩ : ByteArray), (⟨#[114, 101, 116, 117, 114, 110]⟩ : ByteArray), (⟨#[116, 114, 117, 101]⟩ : ByteArray), (⟨#[118, 97, 114]⟩ : ByteArray), (⟨#[119, 104, 105, 108, 101]⟩ : ByteArray)] : List ByteArray))) = some r := h
  clear h
  obtain ⟨y277, hy277⟩ : ∃ y_ : List ByteArray, y_ = (([(⟨#[98, 111, 111, 108]⟩ : ByteArray), (⟨#[101, 108, 115, 101]⟩ : ByteArray), (⟨#[101, 110, 116]⟩ : ByteArray), (⟨#[102, 97, 108, 115, 101]⟩ : ByteArray), (⟨#[102, 105, 120]⟩ : ByteArray), (⟨#[102, 110]⟩ : ByteArray), (⟨#[105, 102]⟩ : ByteArray), (⟨#[105, 110, 116]⟩ : ByteArray), (⟨#[108, 101, 116]⟩ : ByteArray), (⟨#[110, 117, 108, 108]⟩ : ByteArray), (⟨#[114, 101, 116, 117, 114, 110]⟩ : ByteArray), (⟨#[116, 114, 117, 101]⟩ : ByteArray), (⟨#[118, 97, 114]⟩ : ByteArray), (⟨#[119, 104, 105, 108, 101]⟩ : ByteArray)] : List ByteArray)) := ⟨_, rfl⟩
  replace H : (some y277) = some r := by first | (rw [hy277]; with_reducible exact H) | (have H2_ := (Option.bind_some _ _).symm.trans H; rw [hy277]; with_reducible exact H2_) | (have H2_ := (Option.bind_some _ _).symm.trans H; with_reducible exact H2_) | with_reducible exact H | (rw [hy277]; exact H) | exact H
  have Ny277 := Aside0.mk hy277
  clear hy277
  obtain rfl := Option.some.inj H
  go_enter Tryd.func111, Tryd.ntmps111
  go_wp2_with (first | ((with_reducible refine gate_dst (N := 1) rfl ?_); refine Kd.R_lit Kd.string _ 9 ?hg (N := 1) ?hd (xs := ([(⟨#[98, 111, 111, 108]⟩ : ByteArray), (⟨#[101, 108, 115, 101]⟩ : ByteArray), (⟨#[101, 110, 116]⟩ : ByteArray), (⟨#[102, 97, 108, 115, 101]⟩ : ByteArray), (⟨#[102, 105, 120]⟩ : ByteArray), (⟨#[102, 110]⟩ : ByteArray), (⟨#[105, 102]⟩ : ByteArray), (⟨#[105, 110, 116]⟩ : ByteArray), (⟨#[108, 101, 116]⟩ : ByteArray), (⟨#[110, 117, 108, 108]⟩ : ByteArray), (⟨#[114, 101, 116, 117, 114, 110]⟩ : ByteArray), (⟨#[116, 114, 117, 101]⟩ : ByteArray), (⟨#[118, 97, 114]⟩ : ByteArray), (⟨#[119, 104, 105, 108, 101]⟩ : ByteArray)] : List ByteArray)) (inner := [.string (⟨#[98, 111, 111, 108]⟩ : ByteArray), .string (⟨#[101, 108, 115, 101]⟩ : ByteArray), .string (⟨#[101, 110, 116]⟩ : ByteArray), .string (⟨#[102, 97, 108, 115, 101]⟩ : ByteArray), .string (⟨#[102, 105, 120]⟩ : ByteArray), .string (⟨#[102, 110]⟩ : ByteArray), .string (⟨#[105, 102]⟩ : ByteArray), .string (⟨#[105, 110, 116]⟩ : ByteArray), .string (⟨#[108, 101, 116]⟩ : ByteArray), .string (⟨#[110, 117, 108, 108]⟩ : ByteArray), .string (⟨#[114, 101, 116, 117, 114, 110]⟩ : ByteArray), .string (⟨#[116, 114, 117, 101]⟩ : ByteArray), .string (⟨#[118, 97, 114]⟩ : ByteArray), .string (⟨#[119, 104, 105, 108, 101]⟩ : ByteArray)]) (ok := fun _ => True) (okp := fun _ => True) ?hr ?hp (fun _ hk => hk) trivial (Below.refl _ _) (Nat.le_refl _) (by simp) ?_; (case hd => rfl); (case hg => rfl); (case hr => first | (go_simp; done) | (go_simp; rfl)); (case hp => exact (Reps.one (show Kd.M Kd.string _ _ _ (⟨#[98, 111, 111, 108]⟩ : ByteArray) [.string (⟨#[98, 111, 111, 108]⟩ : ByteArray)] from rfl) (Reps.one (show Kd.M Kd.string _ _ _ (⟨#[101, 108, 115, 101]⟩ : ByteArray) [.string (⟨#[101, 108, 115, 101]⟩ : ByteArray)] from rfl) (Reps.one (show Kd.M Kd.string _ _ _ (⟨#[101, 110, 116]⟩ : ByteArray) [.string (⟨#[101, 110, 116]⟩ : ByteArray)] from rfl) (Reps.one (show Kd.M Kd.string _ _ _ (⟨#[102, 97, 108, 115, 101]⟩ : ByteArray) [.string (⟨#[102, 97, 108, 115, 101]⟩ : ByteArray)] from rfl) (Reps.one (show Kd.M Kd.string _ _ _ (⟨#[102, 105, 120]⟩ : ByteArray) [.string (⟨#[102, 105, 120]⟩ : ByteArray)] from rfl) (Reps.one (show Kd.M Kd.string _ _ _ (⟨#[102, 110]⟩ : ByteArray) [.string (⟨#[102, 110]⟩ : ByteArray)] from rfl) (Reps.one (show Kd.M Kd.string _ _ _ (⟨#[105, 102]⟩ : ByteArray) [.string (⟨#[105, 102]⟩ : ByteArray)] from rfl) (Reps.one (show Kd.M Kd.string _ _ _ (⟨#[105, 110, 116]⟩ : ByteArray) [.string (⟨#[105, 110, 116]⟩ : ByteArray)] from rfl) (Reps.one (show Kd.M Kd.string _ _ _ (⟨#[108, 101, 116]⟩ : ByteArray) [.string (⟨#[108, 101, 116]⟩ : ByteArray)] from rfl) (Reps.one (show Kd.M Kd.string _ _ _ (⟨#[110, 117, 108, 108]⟩ : ByteArray) [.string (⟨#[110, 117, 108, 108]⟩ : ByteArray)] from rfl) (Reps.one (show Kd.M Kd.string _ _ _ (⟨#[114, 101, 116, 117, 114, 110]⟩ : ByteArray) [.string (⟨#[114, 101, 116, 117, 114, 110]⟩ : ByteArray)] from rfl) (Reps.one (show Kd.M Kd.string _ _ _ (⟨#[116, 114, 117, 101]⟩ : ByteArray) [.string (⟨#[116, 114, 117, 101]⟩ : ByteArray)] from rfl) (Reps.one (show Kd.M Kd.string _ _ _ (⟨#[118, 97, 114]⟩ : ByteArray) [.string (⟨#[118, 97, 114]⟩ : ByteArray)] from rfl) (Reps.one (show Kd.M Kd.string _ _ _ (⟨#[119, 104, 105, 108, 101]⟩ : ByteArray) [.string (⟨#[119, 104, 105, 108, 101]⟩ : ByteArray)] from rfl) (Reps.none _ _)))))))))))))))); intro v278 w1 ho2 hb hg_ hnew_; clear hg_ hnew_; (first | rw [← Ny277.out] at ho2 | (simp only [Int.reduceToNat] at ho2; rw [← Ny277.out] at ho2)); have n0_ := Aside0.mk (Kd.R_lower ho2 (below_size (by repeat (first | (with_reducible first | exact HB.out | apply below_alloc | apply pw_below_drewN | apply below_drew1) | exact HB.out)))); have n1_ := Aside0.mk (below_step (by repeat (first | (with_reducible first | exact HB.out | apply below_alloc | apply pw_below_drewN | apply below_drew1) | exact HB.out)) hb); clear HB; have HO279 := n0_; have HB := n1_; clear n0_ n1_; clear hb ho2))
  go_ret
  exact ⟨_, by first | rfl | (simp [errW_none, errW_some] <;> rfl) | (simp [*, errW_none, errW_some] <;> rfl), by (with_reducible repeat (first | apply Kd.R_alloc | apply Kd.R_drewN | apply Kd.R_drew)); exact HO279.out, by repeat (first | (with_reducible first | exact HB.out | apply below_alloc | apply pw_below_drewN | apply below_drew1) | exact HB.out)⟩
def tiltyardref08_Word.f (k : Nat) (a0 : ByteArray) : Option (Bool) := (tiltyardref08_Words.f).bind fun t280 => ((tiltyardref08_in.f k t280 a0).bind fun t283 => (some t283))
set_option maxHeartbeats 8000000 in
set_option maxRecDepth 100000 in
theorem tiltyardref08_Word.calls (k : Nat) (a0 : ByteArray) (r : Bool) (w : World) (h : tiltyardref08_Word.f k a0 = some r) :
    Calls Tryd.prog 105 #[.string a0] w fun e w' => e = .returned (.bool r) ∧ Below w.heap.size w w' := by
  have HB := Aside0.mk (Below.refl w.heap.size w)
  have H : ((tiltyardref08_Words.f).bind fun t280 => ((tiltyardref08_in.f k t280 a0).bind fun t283 => (some t283))) = some r := h
  clear h
  replace H := Option.bind_eq_some_iff.mp H
  obtain ⟨t280, A20, H⟩ := H
  replace H : ((tiltyardref08_in.f k t280 a0).bind fun t283 => (some t283)) = some r := H
  have A2 := Aside0.mk A20
  clear A20
  replace H := Option.bind_eq_some_iff.mp H
  obtain ⟨t283, A30, H⟩ := H
  replace H : (some t283) = some r := H
  have A3 := Aside0.mk A30
  clear A30
  obtain rfl := Option.some.inj H
  go_enter Tryd.func105, Tryd.ntmps105
  go_wp2_with (first | ((with_reducible refine gate_callee (f := 111) rfl ?_); refine goesL_ (some 3) rfl rfl Tryd.func111 (by kernel_rfl) rfl #[] rfl (by (try simp only [List.map_toArray, List.map_cons, List.map_nil]); first | done | rfl | (simp only [List.length_drop, List.length_take]; rfl)) ?_; (with_reducible refine (tiltyardref08_Words.calls  t280 _ A2.out).mono ?_); rintro e w4 ⟨v281, rfl, ho0, hb⟩; refine ⟨_, rfl, ?_⟩; have n0_ := Aside0.mk (Kd.R_lower ho0 (below_size (by repeat (first | (with_reducible first | exact HB.out | apply below_alloc | apply pw_below_drewN | apply below_drew1) | exact HB.out)))); have n1_ := Aside0.mk (below_step (by repeat (first | (with_reducible first | exact HB.out | apply below_alloc | apply pw_below_drewN | apply below_drew1) | exact HB.out)) hb); clear HB; have HO282 := n0_; have HB := n1_; clear n0_ n1_; (try clear hb); (try clear hb2); (try clear hk); (try clear hi); (try clear ho0); obtain ⟨Ao5, co5, eo5⟩ := Kd.R_slice HO282.out; subst eo5) | ((with_reducible refine gate_callee (f := 110) rfl ?_); refine goesL_ (some 5) rfl rfl Tryd.func110 (by kernel_rfl) rfl #[.slice Ao5 t280.length co5, .string a0] rfl (by (try simp only [List.map_toArray, List.map_cons, List.map_nil]); first | done | rfl | (simp only [List.length_drop, List.length_take]; rfl)) ?_; (with_reducible refine (tiltyardref08_in.calls k _ _ t280 a0 t283 _ ?side1 ?side2 A3.out).mono ?_); (case side1 => repeat (first | exact (Kd.R_reads' HO282.out).2.2 | (with_reducible refine Kd.C_alloc ?_ _) | (with_reducible refine Kd.C_drewN ?_ _) | (with_reducible refine Kd.C_drew ?_))); (case side2 => exact (Kd.R_reads' HO282.out).2.1); rintro e w' ⟨rfl, ⟨nd, rfl⟩⟩; refine ⟨_, rfl, ?_⟩))
  go_ret
  exact ⟨by first | rfl | (simp [errW_none, errW_some] <;> rfl) | (simp [*, errW_none, errW_some] <;> rfl), by repeat (first | (with_reducible first | exact HB.out | apply below_alloc | apply pw_below_drewN | apply below_drew1) | exact HB.out)⟩
def tiltyardref08_letter.f (a0 : Int) : Option (Bool) := if a0 ≥ 97 then (if a0 ≤ 122 then (some true) else (some (a0 == 95))) else (some (a0 == 95))
set_option maxHeartbeats 8000000 in
set_option maxRecDepth 100000 in
theorem tiltyardref08_letter.calls (a0 : Int) (r : Bool) (w : World) (h : tiltyardref08_letter.f a0 = some r) :
    Calls Tryd.prog 112 #[.int .u8 a0] w fun e w' => e = .returned (.bool r) ∧ Drawn0 w w' := by
  have H : (if a0 ≥ 97 then (if a0 ≤ 122 then (some true) else (some (a0 == 95))) else (some (a0 == 95))) = some r := h
  clear h
  by_cases c2 : a0 ≥ 97
  · rw [if_pos c2] at H
    have c2b0 : decide (97 ≤ a0) = true := decide_eq_true c2
    clear c2
    by_cases c3 : a0 ≤ 122
    · rw [if_pos c3] at H
      have c3b0 : decide (a0 ≤ 122) = true := decide_eq_true c3
      clear c3
      obtain rfl := Option.some.inj H
      go_enter Tryd.func112, Tryd.ntmps112
      go_wp2
      go_ret
      exact ⟨by first | rfl | (simp; done) | (simp [*]; done), by repeat (first | exact Drawn0.refl _ | apply Drawn0.step)⟩
    · rw [if_neg c3] at H
      have c3b0 : decide (a0 ≤ 122) = false := decide_eq_false c3
      clear c3
      obtain rfl := Option.some.inj H
      go_enter Tryd.func112, Tryd.ntmps112
      go_wp2
      go_ret
      exact ⟨by first | rfl | (simp; done) | (simp [*]; done), by repeat (first | exact Drawn0.refl _ | apply Drawn0.step)⟩
  · rw [if_neg c2] at H
    have c2b0 : decide (97 ≤ a0) = false := decide_eq_false c2
    clear c2
    obtain rfl := Option.some.inj H
    go_enter Tryd.func112, Tryd.ntmps112
    go_wp2
    go_ret
    exact ⟨by first | rfl | (simp; done) | (simp [*]; done), by repeat (first | exact Drawn0.refl _ | apply Drawn0.step)⟩
def tiltyardref08_digit.f (a0 : Int) : Option (Bool) := if a0 ≥ 48 then (some (decide (a0 ≤ 57))) else (some false)
set_option maxHeartbeats 8000000 in
set_option maxRecDepth 100000 in
theorem tiltyardref08_digit.calls (a0 : Int) (r : Bool) (w : World) (h : tiltyardref08_digit.f a0 = some r) :
    Calls Tryd.prog 113 #[.int .u8 a0] w fun e w' => e = .returned (.bool r) ∧ Drawn0 w w' := by
  have H : (if a0 ≥ 48 then (some (decide (a0 ≤ 57))) else (some false)) = some r := h
  clear h
  by_cases c2 : a0 ≥ 48
  · rw [if_pos c2] at H
    have c2b0 : decide (48 ≤ a0) = true := decide_eq_true c2
    clear c2
    obtain rfl := Option.some.inj H
    go_enter Tryd.func113, Tryd.ntmps113
    go_wp2
    go_ret
    exact ⟨by first | rfl | (simp; done) | (simp [*]; done), by repeat (first | exact Drawn0.refl _ | apply Drawn0.step)⟩
  · rw [if_neg c2] at H
    have c2b0 : decide (48 ≤ a0) = false := decide_eq_false c2
    clear c2
    obtain rfl := Option.some.inj H
    go_enter Tryd.func113, Tryd.ntmps113
    go_wp2
    go_ret
    exact ⟨by first | rfl | (simp; done) | (simp [*]; done), by repeat (first | exact Drawn0.refl _ | apply Drawn0.step)⟩
def tiltyardref08_letters.l0 : Nat → ByteArray → Int → Int → Option (Int)
  | 0, _, _, _ => none
  | k + 1, x0, x1, x5 => if (wrap64 (x1 + x5)) < (x0.size : Int) then (if 0 ≤ (wrap64 (x1 + x5)) then ((tiltyardref08_letter.f (bt x0 (wrap64 (x1 + x5)))).bind fun t284 => ((tiltyardref08_digit.f (bt x0 (wrap64 (x1 + x5)))).bind fun t285 => (if t284 = true then (if x5 = 0 then (tiltyardref08_letters.l0 k x0 x1 (wrap64 (x5 + 1))) else (tiltyardref08_letters.l0 k x0 x1 (wrap64 (x5 + 1)))) else (if t285 = true then (if x5 = 0 then (some x5) else (tiltyardref08_letters.l0 k x0 x1 (wrap64 (x5 + 1)))) else (some x5))))) else (none)) else (some x5)
def tiltyardref08_letters.f (k : Nat) (a0 : ByteArray) (a1 : Int) : Option (Int) := tiltyardref08_letters.l0 k a0 a1 0
set_option maxHeartbeats 8000000 in
set_option maxRecDepth 100000 in
theorem tiltyardref08_letters.calls (k : Nat) (a0 : ByteArray) (a1 : Int) (r : Int) (w : World) (h : tiltyardref08_letters.f k a0 a1 = some r) :
    Calls Tryd.prog 106 #[.string a0, .int .i64 a1] w fun e w' => e = .returned (.int .i64 r) ∧ Drawn0 w w' := by
  have H : (tiltyardref08_letters.l0 k a0 a1 0) = some r := h
  clear h
  have H' := Aside0.mk H
  clear H
  go_enter Tryd.func106, Tryd.ntmps106
  go_wp2
  go_loopg [5] k (fun kq v5 w' => ∃ (x5_1 : Int), v5 = .int .i64 x5_1 ∧ Aside0 (tiltyardref08_letters.l0 kq a0 a1 x5_1 = some r) ∧ Aside0 (kq ≤ k) ∧ Drawn0 w w')
  case atStart => exact ⟨(0), (by first | rfl | (simp; done) | (simp [*]; done)), H', ⟨Nat.le_refl _⟩, by repeat (first | exact Drawn0.refl _ | apply Drawn0.step)⟩
  case round =>
    clear H'
    try clear c1
    try clear p2
    obtain ⟨x5_1, rfl, HA, HK1, ⟨m1, rfl⟩⟩ := hrel
    cases gk with
    | zero => exact absurd HA.out (by simp [tiltyardref08_letters.l0])
    | succ k1 =>
      have H := HA.out
      clear HA
      simp only [tiltyardref08_letters.l0] at H
      by_cases c3 : (wrap64 (a1 + x5_1)) < (a0.size : Int)
      · rw [if_pos c3] at H
        have c3b0 : decide ((wrap64 (a1 + x5_1)) < (a0.size : Int)) = true := decide_eq_true c3
        clear c3
        obtain ⟨ji4, hji4⟩ : ∃ j_ : Int, (wrap64 (a1 + x5_1)) = j_ := ⟨_, rfl⟩
        replace H : (if 0 ≤ (ji4) then ((tiltyardref08_letter.f (bt a0 (ji4))).bind fun t284 => ((tiltyardref08_digit.f (bt a0 (ji4))).bind fun t285 => (if t284 = true then (if x5_1 = 0 then (tiltyardref08_letters.l0 k1 a0 a1 (wrap64 (x5_1 + 1))) else (tiltyardref08_letters.l0 k1 a0 a1 (wrap64 (x5_1 + 1)))) else (if t285 = true then (if x5_1 = 0 then (some x5_1) else (tiltyardref08_letters.l0 k1 a0 a1 (wrap64 (x5_1 + 1)))) else (some x5_1))))) else (none)) = some r := by first | (rw [hji4] at H; exact H) | (simp only [hji4] at H ⊢; exact H)
        (try rw [hji4] at c3b0)
        have hji4w : (IntKind.i64.wrap (a1 + x5_1)) = ji4 := (i64_w _).trans hji4
        by_cases c5 : 0 ≤ (ji4)
        · rw [if_pos c5] at H
          have c5b0 : decide (0 ≤ (ji4)) = true := decide_eq_true c5
          clear c5
          replace H := Option.bind_eq_some_iff.mp H
          obtain ⟨t284, A70, H⟩ := H
          replace H : ((tiltyardref08_digit.f (bt a0 (ji4))).bind fun t285 => (if t284 = true then (if x5_1 = 0 then (tiltyardref08_letters.l0 k1 a0 a1 (wrap64 (x5_1 + 1))) else (tiltyardref08_letters.l0 k1 a0 a1 (wrap64 (x5_1 + 1)))) else (if t285 = true then (if x5_1 = 0 then (some x5_1) else (tiltyardref08_letters.l0 k1 a0 a1 (wrap64 (x5_1 + 1)))) else (some x5_1)))) = some r := H
          have A7 := Aside0.mk A70
          clear A70
          replace H := Option.bind_eq_some_iff.mp H
          obtain ⟨t285, A90, H⟩ := H
          replace H : (if t284 = true then (if x5_1 = 0 then (tiltyardref08_letters.l0 k1 a0 a1 (wrap64 (x5_1 + 1))) else (tiltyardref08_letters.l0 k1 a0 a1 (wrap64 (x5_1 + 1)))) else (if t285 = true then (if x5_1 = 0 then (some x5_1) else (tiltyardref08_letters.l0 k1 a0 a1 (wrap64 (x5_1 + 1)))) else (some x5_1))) = some r := H
          have A9 := Aside0.mk A90
          clear A90
          by_cases c10 : t284 = true
          · subst c10
            have H1 : (if x5_1 = 0 then (tiltyardref08_letters.l0 k1 a0 a1 (wrap64 (x5_1 + 1))) else (tiltyardref08_letters.l0 k1 a0 a1 (wrap64 (x5_1 + 1)))) = some r := by rw [if_pos rfl] at H; exact H
            clear H
            have H := H1
            clear H1
            by_cases c11 : x5_1 = 0
            · rw [if_pos c11] at H
              have c11b0 : (x5_1 == 0) = true := beq_iff_eq.mpr c11
              have c11b1 : (x5_1 != 0) = false := bne_eq_false_iff_eq.mpr c11
              clear c11
              have H' := Aside0.mk H
              clear H
              have p6 : 0 ≤ ((ji4) : Int) := of_decide_eq_true (by first | (with_reducible assumption) | assumption)
              have q6 : (ji4) < (a0.size : Int) := of_decide_eq_true (by first | (with_reducible assumption) | assumption)
              have hx6 := bt_at a0 (ji4)
              replace p6 := eq_true p6
              replace q6 := eq_true q6
              go_wp2_with (first | ((with_reducible refine gate_callee (f := 112) rfl ?_); refine goesL_ (some 19) rfl rfl Tryd.func112 (by kernel_rfl) rfl #[.int .u8 (bt a0 (ji4))] rfl (by (try simp only [List.map_toArray, List.map_cons, List.map_nil]); first | done | (simp only [hji4]; rfl) | rfl | (simp only [List.length_drop, List.length_take]; rfl)) ?_; (with_reducible refine (tiltyardref08_letter.calls (bt a0 (ji4)) true _ A7.out).mono ?_); rintro e w' ⟨rfl, ⟨nd, rfl⟩⟩; refine ⟨_, rfl, ?_⟩; have p8 : 0 ≤ ((ji4) : Int) := of_decide_eq_true (by first | (with_reducible assumption) | assumption); have q8 : (ji4) < (a0.size : Int) := of_decide_eq_true (by first | (with_reducible assumption) | assumption); have hx8 := bt_at a0 (ji4); replace p8 := eq_true p8; replace q8 := eq_true q8) | ((with_reducible refine gate_callee (f := 113) rfl ?_); refine goesL_ (some 25) rfl rfl Tryd.func113 (by kernel_rfl) rfl #[.int .u8 (bt a0 (ji4))] rfl (by (try simp only [List.map_toArray, List.map_cons, List.map_nil]); first | done | (simp only [hji4]; rfl) | rfl | (simp only [List.length_drop, List.length_take]; rfl)) ?_; (with_reducible refine (tiltyardref08_digit.calls (bt a0 (ji4)) t285 _ A9.out).mono ?_); rintro e w' ⟨rfl, ⟨nd, rfl⟩⟩; refine ⟨_, rfl, ?_⟩))
              go_roundg k1
              case measure => have := HK1.out; omega
              case rel => exact ⟨(wrap64 (x5_1 + 1)), (by first | rfl | (simp; done) | (simp [*]; done)), H', ⟨by have := HK1.out; omega⟩, by repeat (first | exact Drawn0.refl _ | apply Drawn0.step)⟩
            · rw [if_neg c11] at H
              have c11b0 : (x5_1 == 0) = false := beq_eq_false_iff_ne.mpr c11
              have c11b1 : (x5_1 != 0) = true := bne_iff_ne.mpr c11
              have H' := Aside0.mk H
              clear H
              have p6 : 0 ≤ ((ji4) : Int) := of_decide_eq_true (by first | (with_reducible assumption) | assumption)
              have q6 : (ji4) < (a0.size : Int) := of_decide_eq_true (by first | (with_reducible assumption) | assumption)
              have hx6 := bt_at a0 (ji4)
              replace p6 := eq_true p6
              replace q6 := eq_true q6
              go_wp2_with (first | ((with_reducible refine gate_callee (f := 112) rfl ?_); refine goesL_ (some 19) rfl rfl Tryd.func112 (by kernel_rfl) rfl #[.int .u8 (bt a0 (ji4))] rfl (by (try simp only [List.map_toArray, List.map_cons, List.map_nil]); first | done | (simp only [hji4]; rfl) | rfl | (simp only [List.length_drop, List.length_take]; rfl)) ?_; (with_reducible refine (tiltyardref08_letter.calls (bt a0 (ji4)) true _ A7.out).mono ?_); rintro e w' ⟨rfl, ⟨nd, rfl⟩⟩; refine ⟨_, rfl, ?_⟩; have p8 : 0 ≤ ((ji4) : Int) := of_decide_eq_true (by first | (with_reducible assumption) | assumption); have q8 : (ji4) < (a0.size : Int) := of_decide_eq_true (by first | (with_reducible assumption) | assumption); have hx8 := bt_at a0 (ji4); replace p8 := eq_true p8; replace q8 := eq_true q8) | ((with_reducible refine gate_callee (f := 113) rfl ?_); refine goesL_ (some 25) rfl rfl Tryd.func113 (by kernel_rfl) rfl #[.int .u8 (bt a0 (ji4))] rfl (by (try simp only [List.map_toArray, List.map_cons, List.map_nil]); first | done | (simp only [hji4]; rfl) | rfl | (simp only [List.length_drop, List.length_take]; rfl)) ?_; (with_reducible refine (tiltyardref08_digit.calls (bt a0 (ji4)) t285 _ A9.out).mono ?_); rintro e w' ⟨rfl, ⟨nd, rfl⟩⟩; refine ⟨_, rfl, ?_⟩))
              go_roundg k1
              case measure => have := HK1.out; omega
              case rel => exact ⟨(wrap64 (x5_1 + 1)), (by first | rfl | (simp; done) | (simp [*]; done)), H', ⟨by have := HK1.out; omega⟩, by repeat (first | exact Drawn0.refl _ | apply Drawn0.step)⟩
          · replace c10 := Bool.eq_false_iff.mpr c10
            subst c10
            have H1 : (if t285 = true then (if x5_1 = 0 then (some x5_1) else (tiltyardref08_letters.l0 k1 a0 a1 (wrap64 (x5_1 + 1)))) else (some x5_1)) = some r := by rw [if_neg (show ¬ (false = true) by decide)] at H; exact H
            clear H
            have H := H1
            clear H1
            by_cases c12 : t285 = true
            · subst c12
              have H1 : (if x5_1 = 0 then (some x5_1) else (tiltyardref08_letters.l0 k1 a0 a1 (wrap64 (x5_1 + 1)))) = some r := by rw [if_pos rfl] at H; exact H
              clear H
              have H := H1
              clear H1
              by_cases c13 : x5_1 = 0
              · rw [if_pos c13] at H
                have c13b0 : (x5_1 == 0) = true := beq_iff_eq.mpr c13
                have c13b1 : (x5_1 != 0) = false := bne_eq_false_iff_eq.mpr c13
                clear c13
                obtain rfl := Option.some.inj H
                have p6 : 0 ≤ ((ji4) : Int) := of_decide_eq_true (by first | (with_reducible assumption) | assumption)
                have q6 : (ji4) < (a0.size : Int) := of_decide_eq_true (by first | (with_reducible assumption) | assumption)
                have hx6 := bt_at a0 (ji4)
                replace p6 := eq_true p6
                replace q6 := eq_true q6
                go_wp2_with (first | ((with_reducible refine gate_callee (f := 112) rfl ?_); refine goesL_ (some 19) rfl rfl Tryd.func112 (by kernel_rfl) rfl #[.int .u8 (bt a0 (ji4))] rfl (by (try simp only [List.map_toArray, List.map_cons, List.map_nil]); first | done | (simp only [hji4]; rfl) | rfl | (simp only [List.length_drop, List.length_take]; rfl)) ?_; (with_reducible refine (tiltyardref08_letter.calls (bt a0 (ji4)) false _ A7.out).mono ?_); rintro e w' ⟨rfl, ⟨nd, rfl⟩⟩; refine ⟨_, rfl, ?_⟩; have p8 : 0 ≤ ((ji4) : Int) := of_decide_eq_true (by first | (with_reducible assumption) | assumption); have q8 : (ji4) < (a0.size : Int) := of_decide_eq_true (by first | (with_reducible assumption) | assumption); have hx8 := bt_at a0 (ji4); replace p8 := eq_true p8; replace q8 := eq_true q8) | ((with_reducible refine gate_callee (f := 113) rfl ?_); refine goesL_ (some 25) rfl rfl Tryd.func113 (by kernel_rfl) rfl #[.int .u8 (bt a0 (ji4))] rfl (by (try simp only [List.map_toArray, List.map_cons, List.map_nil]); first | done | (simp only [hji4]; rfl) | rfl | (simp only [List.length_drop, List.length_take]; rfl)) ?_; (with_reducible refine (tiltyardref08_digit.calls (bt a0 (ji4)) true _ A9.out).mono ?_); rintro e w' ⟨rfl, ⟨nd, rfl⟩⟩; refine ⟨_, rfl, ?_⟩))
                go_ret
                exact ⟨by first | rfl | (simp; done) | (simp only [← hji4] <;> (first | rfl | simp)) | (simp [*]; done), by repeat (first | exact Drawn0.refl _ | apply Drawn0.step)⟩
              · rw [if_neg c13] at H
                have c13b0 : (x5_1 == 0) = false := beq_eq_false_iff_ne.mpr c13
                have c13b1 : (x5_1 != 0) = true := bne_iff_ne.mpr c13
                have H' := Aside0.mk H
                clear H
                have p6 : 0 ≤ ((ji4) : Int) := of_decide_eq_true (by first | (with_reducible assumption) | assumption)
                have q6 : (ji4) < (a0.size : Int) := of_decide_eq_true (by first | (with_reducible assumption) | assumption)
                have hx6 := bt_at a0 (ji4)
                replace p6 := eq_true p6
                replace q6 := eq_true q6
                go_wp2_with (first | ((with_reducible refine gate_callee (f := 112) rfl ?_); refine goesL_ (some 19) rfl rfl Tryd.func112 (by kernel_rfl) rfl #[.int .u8 (bt a0 (ji4))] rfl (by (try simp only [List.map_toArray, List.map_cons, List.map_nil]); first | done | (simp only [hji4]; rfl) | rfl | (simp only [List.length_drop, List.length_take]; rfl)) ?_; (with_reducible refine (tiltyardref08_letter.calls (bt a0 (ji4)) false _ A7.out).mono ?_); rintro e w' ⟨rfl, ⟨nd, rfl⟩⟩; refine ⟨_, rfl, ?_⟩; have p8 : 0 ≤ ((ji4) : Int) := of_decide_eq_true (by first | (with_reducible assumption) | assumption); have q8 : (ji4) < (a0.size : Int) := of_decide_eq_true (by first | (with_reducible assumption) | assumption); have hx8 := bt_at a0 (ji4); replace p8 := eq_true p8; replace q8 := eq_true q8) | ((with_reducible refine gate_callee (f := 113) rfl ?_); refine goesL_ (some 25) rfl rfl Tryd.func113 (by kernel_rfl) rfl #[.int .u8 (bt a0 (ji4))] rfl (by (try simp only [List.map_toArray, List.map_cons, List.map_nil]); first | done | (simp only [hji4]; rfl) | rfl | (simp only [List.length_drop, List.length_take]; rfl)) ?_; (with_reducible refine (tiltyardref08_digit.calls (bt a0 (ji4)) true _ A9.out).mono ?_); rintro e w' ⟨rfl, ⟨nd, rfl⟩⟩; refine ⟨_, rfl, ?_⟩))
                go_roundg k1
                case measure => have := HK1.out; omega
                case rel => exact ⟨(wrap64 (x5_1 + 1)), (by first | rfl | (simp; done) | (simp [*]; done)), H', ⟨by have := HK1.out; omega⟩, by repeat (first | exact Drawn0.refl _ | apply Drawn0.step)⟩
            · replace c12 := Bool.eq_false_iff.mpr c12
              subst c12
              have H1 : (some x5_1) = some r := by rw [if_neg (show ¬ (false = true) by decide)] at H; exact H
              clear H
              have H := H1
              clear H1
              obtain rfl := Option.some.inj H
              have p6 : 0 ≤ ((ji4) : Int) := of_decide_eq_true (by first | (with_reducible assumption) | assumption)
              have q6 : (ji4) < (a0.size : Int) := of_decide_eq_true (by first | (with_reducible assumption) | assumption)
              have hx6 := bt_at a0 (ji4)
              replace p6 := eq_true p6
              replace q6 := eq_true q6
              go_wp2_with (first | ((with_reducible refine gate_callee (f := 112) rfl ?_); refine goesL_ (some 19) rfl rfl Tryd.func112 (by kernel_rfl) rfl #[.int .u8 (bt a0 (ji4))] rfl (by (try simp only [List.map_toArray, List.map_cons, List.map_nil]); first | done | (simp only [hji4]; rfl) | rfl | (simp only [List.length_drop, List.length_take]; rfl)) ?_; (with_reducible refine (tiltyardref08_letter.calls (bt a0 (ji4)) false _ A7.out).mono ?_); rintro e w' ⟨rfl, ⟨nd, rfl⟩⟩; refine ⟨_, rfl, ?_⟩; have p8 : 0 ≤ ((ji4) : Int) := of_decide_eq_true (by first | (with_reducible assumption) | assumption); have q8 : (ji4) < (a0.size : Int) := of_decide_eq_true (by first | (with_reducible assumption) | assumption); have hx8 := bt_at a0 (ji4); replace p8 := eq_true p8; replace q8 := eq_true q8) | ((with_reducible refine gate_callee (f := 113) rfl ?_); refine goesL_ (some 25) rfl rfl Tryd.func113 (by kernel_rfl) rfl #[.int .u8 (bt a0 (ji4))] rfl (by (try simp only [List.map_toArray, List.map_cons, List.map_nil]); first | done | (simp only [hji4]; rfl) | rfl | (simp only [List.length_drop, List.length_take]; rfl)) ?_; (with_reducible refine (tiltyardref08_digit.calls (bt a0 (ji4)) false _ A9.out).mono ?_); rintro e w' ⟨rfl, ⟨nd, rfl⟩⟩; refine ⟨_, rfl, ?_⟩))
              go_ret
              exact ⟨by first | rfl | (simp; done) | (simp only [← hji4] <;> (first | rfl | simp)) | (simp [*]; done), by repeat (first | exact Drawn0.refl _ | apply Drawn0.step)⟩
        · rw [if_neg c5] at H
          exact absurd H (by simp)
      · rw [if_neg c3] at H
        have c3b0 : decide ((wrap64 (a1 + x5_1)) < (a0.size : Int)) = false := decide_eq_false c3
        clear c3
        obtain rfl := Option.some.inj H
        go_wp2
        go_ret
        exact ⟨by first | rfl | (simp; done) | (simp [*]; done), by repeat (first | exact Drawn0.refl _ | apply Drawn0.step)⟩
def tiltyardref08_Name.f (k : Nat) (a0 : ByteArray) : Option (Bool) := (tiltyardref08_Word.f k a0).bind fun t286 => ((tiltyardref08_letters.f k a0 0).bind fun t287 => (if t286 = true then (some false) else (if t287 = (a0.size : Int) then (if t287 ≥ 1 then (some (decide (t287 ≤ 24))) else (some false)) else (some false))))
set_option maxHeartbeats 8000000 in
set_option maxRecDepth 100000 in
theorem tiltyardref08_Name.calls (k : Nat) (a0 : ByteArray) (r : Bool) (w : World) (h : tiltyardref08_Name.f k a0 = some r) :
    Calls Tryd.prog 88 #[.string a0] w fun e w' => e = .returned (.bool r) ∧ Below w.heap.size w w' := by
  have HB := Aside0.mk (Below.refl w.heap.size w)
  have H : ((tiltyardref08_Word.f k a0).bind fun t286 => ((tiltyardref08_letters.f k a0 0).bind fun t287 => (if t286 = true then (some false) else (if t287 = (a0.size : Int) then (if t287 ≥ 1 then (some (decide (t287 ≤ 24))) else (some false)) else (some false))))) = some r := h
  clear h
  replace H := Option.bind_eq_some_iff.mp H
  obtain ⟨t286, A20, H⟩ := H
  replace H : ((tiltyardref08_letters.f k a0 0).bind fun t287 => (if t286 = true then (some false) else (if t287 = (a0.size : Int) then (if t287 ≥ 1 then (some (decide (t287 ≤ 24))) else (some false)) else (some false)))) = some r := H
  have A2 := Aside0.mk A20
  clear A20
  replace H := Option.bind_eq_some_iff.mp H
  obtain ⟨t287, A30, H⟩ := H
  replace H : (if t286 = true then (some false) else (if t287 = (a0.size : Int) then (if t287 ≥ 1 then (some (decide (t287 ≤ 24))) else (some false)) else (some false))) = some r := H
  have A3 := Aside0.mk A30
  clear A30
  by_cases c4 : t286 = true
  · subst c4
    have H1 : (some false) = some r := by rw [if_pos rfl] at H; exact H
    clear H
    have H := H1
    clear H1
    obtain rfl := Option.some.inj H
    go_enter Tryd.func88, Tryd.ntmps88
    go_wp2_with (first | ((with_reducible refine gate_callee (f := 105) rfl ?_); refine goesL_ (some 6) rfl rfl Tryd.func105 (by kernel_rfl) rfl #[.string a0] rfl (by (try simp only [List.map_toArray, List.map_cons, List.map_nil]); first | done | rfl | (simp only [List.length_drop, List.length_take]; rfl)) ?_; (with_reducible refine (tiltyardref08_Word.calls k a0 true _ A2.out).mono ?_); rintro e w5 ⟨rfl, hb⟩; refine ⟨_, rfl, ?_⟩; have n0_ := Aside0.mk (below_step (by repeat (first | (with_reducible first | exact HB.out | apply below_alloc | apply pw_below_drewN | apply below_drew1) | exact HB.out)) hb); clear HB; have HB := n0_; clear n0_; (try clear hb); (try clear hb2); (try clear hk); (try clear hi)) | ((with_reducible refine gate_callee (f := 106) rfl ?_); refine goesL_ (some 8) rfl rfl Tryd.func106 (by kernel_rfl) rfl #[.string a0, .int .i64 0] rfl (by (try simp only [List.map_toArray, List.map_cons, List.map_nil]); first | done | rfl | (simp only [List.length_drop, List.length_take]; rfl)) ?_; (with_reducible refine (tiltyardref08_letters.calls k a0 0 t287 _ A3.out).mono ?_); rintro e w' ⟨rfl, ⟨nd, rfl⟩⟩; refine ⟨_, rfl, ?_⟩))
    go_ret
    exact ⟨by first | rfl | (simp [errW_none, errW_some] <;> rfl) | (simp [*, errW_none, errW_some] <;> rfl), by repeat (first | (with_reducible first | exact HB.out | apply below_alloc | apply pw_below_drewN | apply below_drew1) | exact HB.out)⟩
  · replace c4 := Bool.eq_false_iff.mpr c4
    subst c4
    have H1 : (if t287 = (a0.size : Int) then (if t287 ≥ 1 then (some (decide (t287 ≤ 24))) else (some false)) else (some false)) = some r := by rw [if_neg (show ¬ (false = true) by decide)] at H; exact H
    clear H
    have H := H1
    clear H1
    by_cases c6 : t287 = (a0.size : Int)
    · rw [if_pos c6] at H
      have c6b0 : (t287 == (a0.size : Int)) = true := beq_iff_eq.mpr c6
      have c6b1 : (t287 != (a0.size : Int)) = false := bne_eq_false_iff_eq.mpr c6
      clear c6
      by_cases c7 : t287 ≥ 1
      · rw [if_pos c7] at H
        have c7b0 : decide (1 ≤ t287) = true := decide_eq_true c7
        clear c7
        obtain rfl := Option.some.inj H
        go_enter Tryd.func88, Tryd.ntmps88
        go_wp2_with (first | ((with_reducible refine gate_callee (f := 105) rfl ?_); refine goesL_ (some 6) rfl rfl Tryd.func105 (by kernel_rfl) rfl #[.string a0] rfl (by (try simp only [List.map_toArray, List.map_cons, List.map_nil]); first | done | rfl | (simp only [List.length_drop, List.length_take]; rfl)) ?_; (with_reducible refine (tiltyardref08_Word.calls k a0 false _ A2.out).mono ?_); rintro e w8 ⟨rfl, hb⟩; refine ⟨_, rfl, ?_⟩; have n0_ := Aside0.mk (below_step (by repeat (first | (with_reducible first | exact HB.out | apply below_alloc | apply pw_below_drewN | apply below_drew1) | exact HB.out)) hb); clear HB; have HB := n0_; clear n0_; (try clear hb); (try clear hb2); (try clear hk); (try clear hi)) | ((with_reducible refine gate_callee (f := 106) rfl ?_); refine goesL_ (some 8) rfl rfl Tryd.func106 (by kernel_rfl) rfl #[.string a0, .int .i64 0] rfl (by (try simp only [List.map_toArray, List.map_cons, List.map_nil]); first | done | rfl | (simp only [List.length_drop, List.length_take]; rfl)) ?_; (with_reducible refine (tiltyardref08_letters.calls k a0 0 t287 _ A3.out).mono ?_); rintro e w' ⟨rfl, ⟨nd, rfl⟩⟩; refine ⟨_, rfl, ?_⟩))
        go_ret
        exact ⟨by first | rfl | (simp [errW_none, errW_some] <;> rfl) | (simp [*, errW_none, errW_some] <;> rfl), by repeat (first | (with_reducible first | exact HB.out | apply below_alloc | apply pw_below_drewN | apply below_drew1) | exact HB.out)⟩
      · rw [if_neg c7] at H
        have c7b0 : decide (1 ≤ t287) = false := decide_eq_false c7
        clear c7
        obtain rfl := Option.some.inj H
        go_enter Tryd.func88, Tryd.ntmps88
        go_wp2_with (first | ((with_reducible refine gate_callee (f := 105) rfl ?_); refine goesL_ (some 6) rfl rfl Tryd.func105 (by kernel_rfl) rfl #[.string a0] rfl (by (try simp only [List.map_toArray, List.map_cons, List.map_nil]); first | done | rfl | (simp only [List.length_drop, List.length_take]; rfl)) ?_; (with_reducible refine (tiltyardref08_Word.calls k a0 false _ A2.out).mono ?_); rintro e w9 ⟨rfl, hb⟩; refine ⟨_, rfl, ?_⟩; have n0_ := Aside0.mk (below_step (by repeat (first | (with_reducible first | exact HB.out | apply below_alloc | apply pw_below_drewN | apply below_drew1) | exact HB.out)) hb); clear HB; have HB := n0_; clear n0_; (try clear hb); (try clear hb2); (try clear hk); (try clear hi)) | ((with_reducible refine gate_callee (f := 106) rfl ?_); refine goesL_ (some 8) rfl rfl Tryd.func106 (by kernel_rfl) rfl #[.string a0, .int .i64 0] rfl (by (try simp only [List.map_toArray, List.map_cons, List.map_nil]); first | done | rfl | (simp only [List.length_drop, List.length_take]; rfl)) ?_; (with_reducible refine (tiltyardref08_letters.calls k a0 0 t287 _ A3.out).mono ?_); rintro e w' ⟨rfl, ⟨nd, rfl⟩⟩; refine ⟨_, rfl, ?_⟩))
        go_ret
        exact ⟨by first | rfl | (simp [errW_none, errW_some] <;> rfl) | (simp [*, errW_none, errW_some] <;> rfl), by repeat (first | (with_reducible first | exact HB.out | apply below_alloc | apply pw_below_drewN | apply below_drew1) | exact HB.out)⟩
    · rw [if_neg c6] at H
      have c6b0 : (t287 == (a0.size : Int)) = false := beq_eq_false_iff_ne.mpr c6
      have c6b1 : (t287 != (a0.size : Int)) = true := bne_iff_ne.mpr c6
      obtain rfl := Option.some.inj H
      go_enter Tryd.func88, Tryd.ntmps88
      go_wp2_with (first | ((with_reducible refine gate_callee (f := 105) rfl ?_); refine goesL_ (some 6) rfl rfl Tryd.func105 (by kernel_rfl) rfl #[.string a0] rfl (by (try simp only [List.map_toArray, List.map_cons, List.map_nil]); first | done | rfl | (simp only [List.length_drop, List.length_take]; rfl)) ?_; (with_reducible refine (tiltyardref08_Word.calls k a0 false _ A2.out).mono ?_); rintro e w10 ⟨rfl, hb⟩; refine ⟨_, rfl, ?_⟩; have n0_ := Aside0.mk (below_step (by repeat (first | (with_reducible first | exact HB.out | apply below_alloc | apply pw_below_drewN | apply below_drew1) | exact HB.out)) hb); clear HB; have HB := n0_; clear n0_; (try clear hb); (try clear hb2); (try clear hk); (try clear hi)) | ((with_reducible refine gate_callee (f := 106) rfl ?_); refine goesL_ (some 8) rfl rfl Tryd.func106 (by kernel_rfl) rfl #[.string a0, .int .i64 0] rfl (by (try simp only [List.map_toArray, List.map_cons, List.map_nil]); first | done | rfl | (simp only [List.length_drop, List.length_take]; rfl)) ?_; (with_reducible refine (tiltyardref08_letters.calls k a0 0 t287 _ A3.out).mono ?_); rintro e w' ⟨rfl, ⟨nd, rfl⟩⟩; refine ⟨_, rfl, ?_⟩))
      go_ret
      exact ⟨by first | rfl | (simp [errW_none, errW_some] <;> rfl) | (simp [*, errW_none, errW_some] <;> rfl), by repeat (first | (with_reducible first | exact HB.out | apply below_alloc | apply pw_below_drewN | apply below_drew1) | exact HB.out)⟩
end Go.Proofs.YteidgpaakoeefaaDoor.PIm
namespace Go.Proofs.YteidgpaakoeefaaDoor
open Go.RowKit Go.Proofs.YteidgpaakoeefaaDoorW.PrintWords Go.Proofs.YteidgpaakoeefaaDoorW.PrintLast Go.Proofs.YteidgpaakoeefaaDoorW.PrintMore
set_option linter.unusedVariables false
set_option linter.unusedSimpArgs false
open PIm
theorem d_typed (t : Int) (w : World) : Calls Tryd.prog 87 #[.int .i64 t] w fun e w' => e = .returned (.bool (typB t)) ∧ w' = w := by
  obtain ⟨r, hr⟩ : ∃ r, r = typB t := ⟨_, rfl⟩
  rw [← hr]
  have HR := Aside0.mk hr; clear hr
  by_cases h1 : 1 ≤ t
  · by_cases h2 : t ≤ 4
    · have hR : r = true := by rw [HR.out]; simp [typB, h1, h2]
      subst hR
      have z1 : decide (t ≥ 1) = true := decide_eq_true h1
      have z2 : decide (t ≤ 4) = true := decide_eq_true h2
      go_enter Tryd.func87, Tryd.ntmps87
      go_wp2
      go_ret
      exact ⟨rfl, rfl⟩
    · have hR : r = false := by rw [HR.out]; simp [typB, h1, h2]
      subst hR
      have z1 : decide (t ≥ 1) = true := decide_eq_true h1
      have z2 : decide (t ≤ 4) = false := decide_eq_false h2
      go_enter Tryd.func87, Tryd.ntmps87
      go_wp2
      go_ret
      exact ⟨rfl, rfl⟩
  · have hR : r = false := by rw [HR.out]; simp [typB, h1]
    subst hR
    have z1 : decide (t ≥ 1) = false := decide_eq_false h1
    go_enter Tryd.func87, Tryd.ntmps87
    go_wp2
    go_ret
    exact ⟨rfl, rfl⟩
theorem all_take {α : Type} {p : α → Bool} {l : List α} {k : Nat} {x : α} (hx : l[k]? = some x) (h : (l.take k).all p = true) (hp : p x = true) : (l.take (k + 1)).all p = true := by
  obtain ⟨hi, he⟩ := List.getElem?_eq_some_iff.1 hx
  rw [List.take_succ_eq_append_getElem hi, List.all_append, h, he]
  simp [hp]
theorem all_no {α : Type} {p : α → Bool} {l : List α} {k : Nat} {x : α} (hx : l[k]? = some x) (hp : p x = false) : l.all p = false := by
  rw [List.all_eq_false]
  exact ⟨x, List.mem_of_getElem? hx, by simp [hp]⟩
theorem all_all {α : Type} {p : α → Bool} {l : List α} (h : (l.take l.length).all p = true) : l.all p = true := by rwa [List.take_length] at h
set_option maxHeartbeats 2000000 in
theorem d_types (A0 : Option Addr) (c0 : Nat) (l : List Int) (w : World) (hr : Kd.C (Kd.int .i64) w A0 l.length l) (hll : l.length ≤ 140737488355318) :
    Calls Tryd.prog 89 #[.slice A0 l.length c0] w fun e w' => e = .returned (.bool (l.all typB)) ∧ w' = w := by
  obtain ⟨r, hR⟩ : ∃ r, r = l.all typB := ⟨_, rfl⟩
  rw [← hR]
  have HRR := Aside0.mk hR; have HR := Aside0.mk hr
  clear hr hR
  go_enter Tryd.func89, Tryd.ntmps89
  go_wp2_with fail
  go_loopw [3] (fun vi wr => ∃ (k : Nat), vi = .int .i64 k ∧ Aside0 (k ≤ l.length) ∧ Aside0 ((l.take k).all typB = true) ∧ wr = w) (fun v _ => l.length - (intOf v).toNat)
  case atStart => exact ⟨0, rfl, ⟨Nat.zero_le _⟩, ⟨by simp⟩, rfl⟩
  case round =>
    obtain ⟨k, rfl, HN, HA, rfl⟩ := hrel
    have hk := HN.out
    by_cases hlt : k < l.length
    · obtain ⟨x, hxx⟩ : ∃ x, l[k]? = some x := ⟨_, List.getElem?_eq_getElem hlt⟩
      obtain ⟨ad, e, hx⟩ := Kd.at_int HR.out (k : Int) (by omega) (by omega)
      cases e
      have hget : rd l (k : Int) = x := by unfold rd; simp only [Int.toNat_natCast, List.getD_eq_getElem?_getD]; rw [hxx]; rfl
      rw [hget] at hx
      simp only [Int.toNat_natCast] at hx
      have z1 : decide ((k : Int) < (l.length : Int)) = true := decide_eq_true (by omega)
      have q1 : (0 ≤ (k : Int)) = True := eq_true (by omega)
      have q2 : ((k : Int) < (l.length : Int)) = True := eq_true (by omega)
      have HXX := Lib.hid hxx; have HLT := Lib.hid hlt
      clear hget hxx hlt
      go_wp2_with fail
      refine (d_typed x _).mono ?_
      rintro e_ w_ ⟨rfl, rfl⟩
      cases ht : typB x with
      | true =>
        go_wp2
        exact ⟨⟨k + 1, by go_num, ⟨HLT.out⟩, ⟨all_take HXX.out HA.out ht⟩, trivial⟩, by have := HLT.out; simp [intOf]; omega⟩
      | false =>
        have hr2 : r = false := HRR.out.trans (all_no HXX.out ht)
        subst hr2
        go_wp2
        go_ret
        exact ⟨rfl, rfl⟩
    · have z1 : decide ((k : Int) < (l.length : Int)) = false := decide_eq_false (by omega)
      obtain rfl : k = l.length := by omega
      have hr2 : r = true := HRR.out.trans (all_all HA.out)
      subst hr2
      go_wp2
      go_ret
      exact ⟨rfl, rfl⟩
set_option maxHeartbeats 4000000 in
set_option maxRecDepth 100000 in
theorem d_globOk (g : S48) (w : World) : Calls Tryd.prog 61 #[.agg #[.int .i64 g.f0, .int .i64 g.f1, .int .i64 g.f2]] w fun e w' => e = .returned (.bool (globB g)) ∧ Below w.heap.size w w' := by
  obtain ⟨r, hR⟩ : ∃ r, r = globB g := ⟨_, rfl⟩
  rw [← hR]
  have HRR := Aside0.mk hR
  clear hR
  have hu48 := Tryd.underlying48
  go_enter Tryd.func61, Tryd.ntmps61
  go_wp2_with (first | ((with_reducible refine gate_dst (N := 1) rfl ?_); refine box_event ?hg (N := 1) ?hd (cs := #[.int .i64 g.f0, .int .i64 g.f1, .int .i64 g.f2]) (t := 48) ?hr ?_; (case hd => rfl); (case hg => rfl); (case hr => first | (go_simp; done) | (go_simp; rfl)); intro gX hg_ WX hbox_ hb_; have HX : Aside0 (Below w.heap.size w WX) := ⟨hb_⟩; have hcX0 := (blk_cell hbox_ 0).trans rfl; have hcX1 := (blk_cell hbox_ 1).trans rfl; have hcX2 := (blk_cell hbox_ 2).trans rfl; clear hg_ hbox_ hb_))
  refine (d_typed g.f0 _).mono ?_
  rintro e_ w_ ⟨rfl, rfl⟩
  cases ht : typB g.f0 with
  | false =>
    go_wp2
    go_ret
    exact ⟨by rw [HRR.out]; simp [globB, ht], HX.out⟩
  | true =>
    go_wp2
    all_goals go_ret
    all_goals (refine ⟨congrArg (fun b => Ending.returned (Value.bool b)) ?_, HX.out⟩)
    all_goals (show _ = r; rw [HRR.out]; clear HRR HX; clear hcX0 hcX1 hcX2 hu48)
    all_goals (try simp only [beq_iff_eq, beq_eq_false_iff_ne, ne_eq] at *)
    all_goals (unfold globB; rw [ht])
    all_goals (first | (simp [*]; done) | (simp [*]; omega) | skip)
    all_goals (rw [Bool.eq_iff_iff]; simp only [Bool.and_eq_true, decide_eq_true_eq, beq_iff_eq, Bool.or_eq_true, true_and])
    all_goals (split <;> (try split) <;> simp only [Bool.and_eq_true, decide_eq_true_eq] <;> omega)
end Go.Proofs.YteidgpaakoeefaaDoor
namespace Go.Proofs.YteidgpaakoeefaaDoor
open Go.RowKit Go.Proofs.YteidgpaakoeefaaDoorW.PrintWords Go.Proofs.YteidgpaakoeefaaDoorW.PrintLast Go.Proofs.YteidgpaakoeefaaDoorW.PrintMore
set_option linter.unusedVariables false
set_option linter.unusedSimpArgs false
open PIm
theorem fnB_params {f : S54} (h : f.f1.all typB = false) : fnB f = false := by
  cases hf : fnB f with
  | false => rfl
  | true =>
    unfold fnB at hf
    simp only [Bool.and_eq_true, decide_eq_true_eq, Bool.or_eq_true, Bool.not_eq_true', List.all_eq_true] at hf
    obtain ⟨h0, h1, h3, h4, ht, h2, hle, heq, hi⟩ := hf
    have : f.f1.all typB = true := by
      rw [List.all_eq_true]
      intro x hx
      rw [heq] at hx
      exact ht x (List.mem_of_mem_take hx)
    rw [h] at this; cases this
theorem fnB_pair {f : S54} {k : Nat} {x y : Int} (hx : f.f1[k]? = some x) (hy : f.f3[k]? = some y) (h : x ≠ y) : fnB f = false := by
  cases hf : fnB f with
  | false => rfl
  | true =>
    unfold fnB at hf
    simp only [Bool.and_eq_true, decide_eq_true_eq, Bool.or_eq_true, Bool.not_eq_true', List.all_eq_true] at hf
    obtain ⟨h0, h1, h3, h4, ht, h2, hle, heq, hi⟩ := hf
    have hk := (List.getElem?_eq_some_iff.1 hx).1
    have e2 : f.f1[k]? = (f.f3.take f.f1.length)[k]? := by rw [← heq]
    rw [List.getElem?_take, if_pos hk, hx, hy] at e2
    exact absurd (Option.some.inj e2) h
theorem fnB_ins {f : S54} {k : Nat} {x : S50} (hx : f.f4[k]? = some x) (h : insBad x = true) : fnB f = false := by
  have : f.f4.any insBad = true := by rw [List.any_eq_true]; exact ⟨x, List.mem_of_getElem? hx, h⟩
  unfold fnB
  rw [this]; simp
theorem or_zero {z : Int} {b : Bool} (h : b = true ∨ (b = false ∧ (z != 0) = false)) : (decide (z = 0) || b) = true := by
  rcases h with h | ⟨h, h0⟩
  · rw [h]; simp
  · have : z = 0 := by simpa using h0
    simp [this]
theorem fnB_yes {f : S54} (hn : nameF f.f0 = true) (h1 : f.f1.all typB = true) (h3 : f.f3.all typB = true) (l1 : f.f1.length ≤ 8) (l3 : f.f3.length ≤ 32) (l2 : f.f1.length ≤ f.f3.length) (l4 : f.f4.length ≤ 32768)
    (hz : (decide (f.f2 = 0) || typB f.f2) = true) (ht : f.f1 = f.f3.take f.f1.length) (hi : f.f4.all (fun x => !insBad x) = true) : fnB f = true := by
  have h4 : f.f4.any insBad = false := by
    rw [List.any_eq_false]
    intro x hx
    have := List.all_eq_true.1 hi x hx
    simpa using this
  unfold fnB
  rw [hn, h3, hz, h4, decide_eq_true l1, decide_eq_true l3, decide_eq_true l4, decide_eq_true l2, decide_eq_true ht]
  rfl
theorem take_pair {l l' : List Int} {k : Nat} {x : Int} (hx : l[k]? = some x) (hy : l'[k]? = some x) (h : l.take k = l'.take k) : l.take (k + 1) = l'.take (k + 1) := by
  obtain ⟨hi, he⟩ := List.getElem?_eq_some_iff.1 hx
  obtain ⟨hi2, he2⟩ := List.getElem?_eq_some_iff.1 hy
  rw [List.take_succ_eq_append_getElem hi, List.take_succ_eq_append_getElem hi2, h, he, he2]
set_option maxHeartbeats 8000000 in
set_option maxRecDepth 100000 in
theorem d_fnOk (f : S54) (A1 : Option Addr) (c1 : Nat) (A3 : Option Addr) (c3 : Nat) (A4 : Option Addr) (c4 : Nat) (w : World)
    (hN : ∀ W, Calls Tryd.prog 88 #[.string f.f0] W fun e w' => e = .returned (.bool (nameF f.f0)) ∧ Below W.heap.size W w')
    (g1 : Kd.C (Kd.int .i64) w A1 f.f1.length f.f1) (g3 : Kd.C (Kd.int .i64) w A3 f.f3.length f.f3) (g4 : Kd.C k50 w A4 f.f4.length f.f4) (hfin : fnIn f) :
    Calls Tryd.prog 62 #[.agg #[.string f.f0, .slice A1 f.f1.length c1, .int .i64 f.f2, .slice A3 f.f3.length c3, .slice A4 f.f4.length c4]] w fun e w' => e = .returned (.bool (fnB f)) ∧ Below w.heap.size w w' := by
  obtain ⟨r, hR⟩ : ∃ r, r = fnB f := ⟨_, rfl⟩
  rw [← hR]
  have HRR := Aside0.mk hR; have HN := Aside0.mk hN; have G1 := Aside0.mk g1; have G3 := Aside0.mk g3; have G4 := Aside0.mk g4; have HFI := Aside0.mk hfin
  clear hR hN g1 g3 g4 hfin
  have hu54 := Tryd.underlying54
  have hu50 := Tryd.underlying50
  go_enter Tryd.func62, Tryd.ntmps62
  go_wp2_with (first | ((with_reducible refine gate_dst (N := 1) rfl ?_); refine box_event ?hg (N := 1) ?hd (cs := #[.string f.f0, .slice A1 f.f1.length c1, .int .i64 f.f2, .slice A3 f.f3.length c3, .slice A4 f.f4.length c4]) (t := 54) ?hr ?_; (case hd => rfl); (case hg => rfl); (case hr => first | (go_simp; done) | (go_simp; rfl)); intro gX hg_ WX hbox_ hb_; have HB : Aside0 (Below w.heap.size w WX) := ⟨hb_⟩; have BX := Aside0.mk hbox_; clear hg_ hbox_ hb_; have hcX0 := (blk_cell BX.out 0).trans rfl; have hcX1 := (blk_cell BX.out 1).trans rfl; have hcX2 := (blk_cell BX.out 2).trans rfl; have hcX3 := (blk_cell BX.out 3).trans rfl; have hcX4 := (blk_cell BX.out 4).trans rfl))
  refine (HN.out _).mono ?_
  rintro e_ W2 ⟨rfl, hb_⟩
  have n_ := Aside0.mk (blk_below BX.out hb_); have m_ := Aside0.mk (below_step HB.out hb_)
  clear hcX0 hcX1 hcX2 hcX3 hcX4; clear BX HB hb_; have BX := n_; have HB := m_; clear n_ m_
  have hcX0 := (blk_cell BX.out 0).trans rfl; have hcX1 := (blk_cell BX.out 1).trans rfl; have hcX2 := (blk_cell BX.out 2).trans rfl; have hcX3 := (blk_cell BX.out 3).trans rfl; have hcX4 := (blk_cell BX.out 4).trans rfl
  go_wp2_with fail
  refine (d_types A1 c1 f.f1 _ (Kd.C_below G1.out HB.out) HFI.out.2.1).mono ?_
  rintro e_ w_ ⟨rfl, rfl⟩
  go_wp2_with fail
  refine (d_types A3 c3 f.f3 _ (Kd.C_below G3.out HB.out) HFI.out.2.2.1).mono ?_
  rintro e_ w_ ⟨rfl, rfl⟩
  go_wp2_with fail
  refine (d_typed f.f2 _).mono ?_
  rintro e_ w_ ⟨rfl, rfl⟩
  cases hn : nameF f.f0 with
  | false =>
    have hr2 : r = false := HRR.out.trans (by simp [fnB, hn])
    subst hr2
    go_wp2
    go_ret
    exact ⟨rfl, HB.out⟩
  | true =>
    cases h1 : f.f1.all typB with
    | false =>
      have hr2 : r = false := HRR.out.trans (fnB_params h1)
      subst hr2
      go_wp2
      go_ret
      exact ⟨rfl, HB.out⟩
    | true =>
      cases h3 : f.f3.all typB with
      | false =>
        have hr2 : r = false := HRR.out.trans (by simp [fnB, h3])
        subst hr2
        go_wp2
        go_ret
        exact ⟨rfl, HB.out⟩
      | true =>
        by_cases hz : typB f.f2 = false ∧ f.f2 ≠ 0
        · have z0 : (f.f2 != 0) = true := by simp [hz.2]
          rw [hz.1]
          have hr2 : r = false := HRR.out.trans (by simp [fnB, hz.1, hz.2])
          subst hr2
          go_wp2
          go_ret
          exact ⟨rfl, HB.out⟩
        have hz2 : typB f.f2 = true ∨ (typB f.f2 = false ∧ (f.f2 != 0) = false) := by
          cases ht : typB f.f2 with
          | true => exact .inl rfl
          | false => exact .inr ⟨rfl, by simpa using fun h => hz ⟨ht, h⟩⟩
        have HZ : Aside0 ((decide (f.f2 = 0) || typB f.f2) = true) := ⟨or_zero hz2⟩
        clear hz
        rcases hz2 with ht | ⟨ht, hz0⟩ <;> rw [ht]
        all_goals
          by_cases l1 : f.f1.length ≤ 8
          rotate_left
          · have zl1 : decide ((f.f1.length : Int) > 8) = true := decide_eq_true (by omega)
            have hr2 : r = false := HRR.out.trans (by simp [fnB, l1])
            subst hr2
            go_wp2
            go_ret
            exact ⟨rfl, HB.out⟩
          have zl1 : decide ((f.f1.length : Int) > 8) = false := decide_eq_false (by omega)
          by_cases l3 : f.f3.length ≤ 32
          rotate_left
          · have zl3 : decide ((f.f3.length : Int) > 32) = true := decide_eq_true (by omega)
            have hr2 : r = false := HRR.out.trans (by simp [fnB, l3])
            subst hr2
            go_wp2
            go_ret
            exact ⟨rfl, HB.out⟩
          have zl3 : decide ((f.f3.length : Int) > 32) = false := decide_eq_false (by omega)
          by_cases l2 : f.f1.length ≤ f.f3.length
          rotate_left
          · have zl2 : decide ((f.f3.length : Int) < (f.f1.length : Int)) = true := decide_eq_true (by omega)
            have hr2 : r = false := HRR.out.trans (by simp [fnB, l2])
            subst hr2
            go_wp2
            go_ret
            exact ⟨rfl, HB.out⟩
          have zl2 : decide ((f.f3.length : Int) < (f.f1.length : Int)) = false := decide_eq_false (by omega)
          by_cases l4 : f.f4.length ≤ 32768
          rotate_left
          · have zl4 : decide ((f.f4.length : Int) > 32768) = true := decide_eq_true (by omega)
            have hr2 : r = false := HRR.out.trans (by simp [fnB, l4])
            subst hr2
            go_wp2
            go_ret
            exact ⟨rfl, HB.out⟩
          have zl4 : decide ((f.f4.length : Int) > 32768) = false := decide_eq_false (by omega)
          have HLL := Aside0.mk (And.intro hn (And.intro h1 h3))
          go_wp2_with fail
          clear hcX0 hcX1 hcX2 hcX3 hcX4
          go_loopw [7] (fun vi wr => ∃ (k : Nat), vi = .int .i64 k ∧ Aside0 (k ≤ f.f1.length) ∧ Aside0 (f.f1.take k = f.f3.take k) ∧ Aside0 (Below w.heap.size w wr) ∧ Aside0 (wr.heap[gX]? = some (.cells #[.string f.f0, .slice A1 f.f1.length c1, .int .i64 f.f2, .slice A3 f.f3.length c3, .slice A4 f.f4.length c4] 54 (0, 0)))) (fun v _ => f.f1.length - (intOf v).toNat)
          case atStart => exact ⟨0, rfl, ⟨Nat.zero_le _⟩, ⟨rfl⟩, HB, BX⟩
          case round =>
            clear HB BX
            obtain ⟨k, rfl, HK, HT, HB, BX⟩ := hrel
            have hcX0 := (blk_cell BX.out 0).trans rfl; have hcX1 := (blk_cell BX.out 1).trans rfl; have hcX2 := (blk_cell BX.out 2).trans rfl; have hcX3 := (blk_cell BX.out 3).trans rfl; have hcX4 := (blk_cell BX.out 4).trans rfl
            have hk := HK.out
            by_cases hlt : k < f.f1.length
            · obtain ⟨x, hxx⟩ : ∃ x, f.f1[k]? = some x := ⟨_, List.getElem?_eq_getElem hlt⟩
              obtain ⟨y, hyy⟩ : ∃ y, f.f3[k]? = some y := ⟨_, List.getElem?_eq_getElem (by omega)⟩
              obtain ⟨ad, e1_, hx_⟩ := Kd.at_int (Kd.C_below G1.out HB.out) (k : Int) (by omega) (by omega)
              obtain ⟨ad3, e3_, hy_⟩ := Kd.at_int (Kd.C_below G3.out HB.out) (k : Int) (by omega) (by omega)
              cases e1_; cases e3_
              have hget : rd f.f1 (k : Int) = x := by unfold rd; simp only [Int.toNat_natCast, List.getD_eq_getElem?_getD]; rw [hxx]; rfl
              have hget3 : rd f.f3 (k : Int) = y := by unfold rd; simp only [Int.toNat_natCast, List.getD_eq_getElem?_getD]; rw [hyy]; rfl
              rw [hget] at hx_; rw [hget3] at hy_
              simp only [Int.toNat_natCast] at hx_ hy_
              have z1 : decide ((k : Int) < (f.f1.length : Int)) = true := decide_eq_true (by omega)
              have q1 : (0 ≤ (k : Int)) = True := eq_true (by omega)
              have q2 : ((k : Int) < (f.f1.length : Int)) = True := eq_true (by omega)
              have q3 : ((k : Int) < (f.f3.length : Int)) = True := eq_true (by omega)
              have HXX := Lib.hid hxx; have HYY := Lib.hid hyy; have HLT := Lib.hid hlt
              clear hget hget3 hxx hyy hlt
              by_cases hxy : x = y
              · subst hxy
                have zn : (x != x) = false := by simp
                go_wp2_with fail
                go_region
                all_goals
                  go_wp2
                  exact ⟨⟨k + 1, by go_num, ⟨HLT.out⟩, ⟨take_pair HXX.out HYY.out HT.out⟩, ⟨HB.out.drew⟩, ⟨blk_drew BX.out⟩⟩, by have := HLT.out; simp [intOf]; omega⟩
              · have zn : (x != y) = true := by simp [hxy]
                have hr2 : r = false := HRR.out.trans (fnB_pair HXX.out HYY.out hxy)
                subst hr2
                go_wp2_with fail
                go_region
                all_goals
                  go_wp2
                  go_ret
                  exact ⟨rfl, HB.out.drew⟩
            · have z1 : decide ((k : Int) < (f.f1.length : Int)) = false := decide_eq_false (by omega)
              obtain rfl : k = f.f1.length := by omega
              rw [List.take_length] at HT
              clear hlt hk HK
              go_wp2_with fail
              clear z1 hcX0 hcX1 hcX2 hcX3 hcX4
              go_loopw [8] (fun vi wr => ∃ (k : Nat), vi = .int .i64 k ∧ Aside0 (k ≤ f.f4.length) ∧ Aside0 ((f.f4.take k).all (fun x => !insBad x) = true) ∧ Aside0 (Below w.heap.size w wr) ∧ Aside0 (wr.heap[gX]? = some (.cells #[.string f.f0, .slice A1 f.f1.length c1, .int .i64 f.f2, .slice A3 f.f3.length c3, .slice A4 f.f4.length c4] 54 (0, 0)))) (fun v _ => f.f4.length - (intOf v).toNat)
              case atStart => exact ⟨0, rfl, ⟨Nat.zero_le _⟩, ⟨by simp⟩, HB, BX⟩
              case round =>
                clear HB BX
                obtain ⟨k, rfl, HK, HA, HB, BX⟩ := hrel
                have hcX0 := (blk_cell BX.out 0).trans rfl; have hcX1 := (blk_cell BX.out 1).trans rfl; have hcX2 := (blk_cell BX.out 2).trans rfl; have hcX3 := (blk_cell BX.out 3).trans rfl; have hcX4 := (blk_cell BX.out 4).trans rfl
                have hk := HK.out
                by_cases hlt : k < f.f4.length
                · obtain ⟨x, hxx⟩ : ∃ x, f.f4[k]? = some x := ⟨_, List.getElem?_eq_getElem hlt⟩
                  obtain ⟨ad, e1_, h0_, h1_, h2_⟩ := at_T50 (Kd.C_below G4.out HB.out) (k : Int) (by omega) (by omega)
                  cases e1_
                  have hget : rd_T50 f.f4 (k : Int) = x := by unfold rd_T50; simp only [Int.toNat_natCast, List.getD_eq_getElem?_getD]; rw [hxx]; rfl
                  rw [hget] at h0_ h1_ h2_
                  simp only [Int.toNat_natCast] at h0_ h1_ h2_
                  have z1 : decide ((k : Int) < (f.f4.length : Int)) = true := decide_eq_true (by omega)
                  have q1 : (0 ≤ (k : Int)) = True := eq_true (by omega)
                  have q2 : ((k : Int) < (f.f4.length : Int)) = True := eq_true (by omega)
                  have HXX := Lib.hid hxx; have HLT := Lib.hid hlt
                  clear hget hxx hlt
                  by_cases a1 : x.f0 < 1
                  · have za1 : decide (x.f0 < 1) = true := decide_eq_true a1
                    have hr2 : r = false := HRR.out.trans (fnB_ins HXX.out (by simp [insBad]; omega))
                    subst hr2
                    go_wp2
                    go_ret
                    exact ⟨rfl, HB.out.alloc HB.out.size _⟩
                  have za1 : decide (x.f0 < 1) = false := decide_eq_false a1
                  by_cases a2 : x.f0 > 33
                  · have za2 : decide (x.f0 > 33) = true := decide_eq_true a2
                    have hr2 : r = false := HRR.out.trans (fnB_ins HXX.out (by simp [insBad]; omega))
                    subst hr2
                    go_wp2
                    go_ret
                    exact ⟨rfl, HB.out.alloc HB.out.size _⟩
                  have za2 : decide (x.f0 > 33) = false := decide_eq_false a2
                  by_cases a3 : x.f2 < 0
                  · have za3 : decide (x.f2 < 0) = true := decide_eq_true a3
                    have hr2 : r = false := HRR.out.trans (fnB_ins HXX.out (by simp [insBad]; omega))
                    subst hr2
                    go_wp2
                    go_ret
                    exact ⟨rfl, HB.out.alloc HB.out.size _⟩
                  have za3 : decide (x.f2 < 0) = false := decide_eq_false a3
                  by_cases a4 : x.f2 > 4
                  · have za4 : decide (x.f2 > 4) = true := decide_eq_true a4
                    have hr2 : r = false := HRR.out.trans (fnB_ins HXX.out (by simp [insBad]; omega))
                    subst hr2
                    go_wp2
                    go_ret
                    exact ⟨rfl, HB.out.alloc HB.out.size _⟩
                  have za4 : decide (x.f2 > 4) = false := decide_eq_false a4
                  have hgood : (!insBad x) = true := by simp [insBad]; omega
                  have HGD := Aside0.mk hgood; clear hgood
                  go_wp2
                  exact ⟨⟨k + 1, by go_num, ⟨HLT.out⟩, ⟨all_take HXX.out HA.out HGD.out⟩, ⟨HB.out.alloc HB.out.size _⟩, ⟨blk_alloc BX.out _⟩⟩, by have := HLT.out; simp [intOf]; omega⟩
                · have z1 : decide ((k : Int) < (f.f4.length : Int)) = false := decide_eq_false (by omega)
                  obtain rfl : k = f.f4.length := by omega
                  have hr2 : r = true := HRR.out.trans (fnB_yes HLL.out.1 HLL.out.2.1 HLL.out.2.2 l1 l3 l2 l4 HZ.out HT.out (all_all HA.out))
                  subst hr2
                  go_wp2
                  go_ret
                  exact ⟨rfl, HB.out⟩
end Go.Proofs.YteidgpaakoeefaaDoor
namespace Go.Proofs.YteidgpaakoeefaaDoor
open Go.RowKit Go.Proofs.YteidgpaakoeefaaDoorW.PrintWords Go.Proofs.YteidgpaakoeefaaDoorW.PrintLast Go.Proofs.YteidgpaakoeefaaDoorW.PrintMore
set_option linter.unusedVariables false
set_option linter.unusedSimpArgs false
open PIm
theorem okF_glob {gs : List S48} {fs : List S54} {k : Nat} {x : S48} (hx : gs[k]? = some x) (h : globB x = false) : okF gs fs = false := by
  have : (gs.any fun x => !globB x) = true := by rw [List.any_eq_true]; exact ⟨x, List.mem_of_getElem? hx, by simp [h]⟩
  unfold okF
  rw [this]; simp
theorem okF_fn {gs : List S48} {fs : List S54} {k : Nat} {x : S54} (hx : fs[k]? = some x) (h : fnB x = false) : okF gs fs = false := by
  have : (fs.any fun x => !fnB x) = true := by rw [List.any_eq_true]; exact ⟨x, List.mem_of_getElem? hx, by simp [h]⟩
  unfold okF
  rw [this]; simp
theorem okF_yes {gs : List S48} {fs : List S54} (l1 : gs.length ≤ 64) (l2 : fs.length ≤ 64) (h1 : gs.all globB = true) (h2 : fs.all fnB = true) : okF gs fs = true := by
  have e1 : (gs.any fun x => !globB x) = false := by rw [List.any_eq_false]; intro x hx; simp [List.all_eq_true.1 h1 x hx]
  have e2 : (fs.any fun x => !fnB x) = false := by rw [List.any_eq_false]; intro x hx; simp [List.all_eq_true.1 h2 x hx]
  unfold okF
  rw [e1, e2, decide_eq_true l1, decide_eq_true l2]
  rfl
set_option maxHeartbeats 8000000 in
set_option maxRecDepth 100000 in
theorem d_Ok (A0 : Option Addr) (c0 : Nat) (gs : List S48) (A1 : Option Addr) (c1 : Nat) (fs : List S54) (w : World) (hr0 : Kd.C k48 w A0 gs.length gs) (hr1 : Kd.C k54 w A1 fs.length fs)
    (hN : ∀ f ∈ fs, ∀ W, Calls Tryd.prog 88 #[.string f.f0] W fun e w' => e = .returned (.bool (nameF f.f0)) ∧ Below W.heap.size W w') (hfin : ∀ f ∈ fs, fnIn f) :
    Calls Tryd.prog 34 #[.agg #[.slice A0 gs.length c0, .slice A1 fs.length c1]] w fun e w' => e = .returned (.bool (okF gs fs)) ∧ Below w.heap.size w w' := by
  obtain ⟨r, hR⟩ : ∃ r, r = okF gs fs := ⟨_, rfl⟩
  rw [← hR]
  have HRR := Aside0.mk hR; have HN := Aside0.mk hN; have HR0 := Aside0.mk hr0; have HR1 := Aside0.mk hr1; have HFI := Aside0.mk hfin
  clear hR hN hr0 hr1 hfin
  have hu25 := Tryd.underlying25
  have hu48 := Tryd.underlying48
  have hu54 := Tryd.underlying54
  go_enter Tryd.func34, Tryd.ntmps34
  by_cases l1 : gs.length ≤ 64
  rotate_left
  · have z1 : decide ((gs.length : Int) > 64) = true := decide_eq_true (by omega)
    have hr2 : r = false := HRR.out.trans (by unfold okF; rw [decide_eq_false l1]; rfl)
    subst hr2
    go_wp2_with (first | ((with_reducible refine gate_dst (N := 1) rfl ?_); refine box_event ?hg (N := 1) ?hd (cs := #[.slice A0 gs.length c0, .slice A1 fs.length c1]) (t := 25) ?hr ?_; (case hd => rfl); (case hg => rfl); (case hr => first | (go_simp; done) | (go_simp; rfl)); intro gX hg_ WX hbox_ hb_; have HB : Aside0 (Below w.heap.size w WX) := ⟨hb_⟩; have BX := Aside0.mk hbox_; clear hg_ hbox_ hb_; have hcX0 := (blk_cell BX.out 0).trans rfl; have hcX1 := (blk_cell BX.out 1).trans rfl))
    go_ret
    exact ⟨rfl, HB.out⟩
  have z1 : decide ((gs.length : Int) > 64) = false := decide_eq_false (by omega)
  by_cases l2 : fs.length ≤ 64
  rotate_left
  · have z2 : decide ((fs.length : Int) > 64) = true := decide_eq_true (by omega)
    have hr2 : r = false := HRR.out.trans (by unfold okF; rw [decide_eq_false l2]; simp)
    subst hr2
    go_wp2_with (first | ((with_reducible refine gate_dst (N := 1) rfl ?_); refine box_event ?hg (N := 1) ?hd (cs := #[.slice A0 gs.length c0, .slice A1 fs.length c1]) (t := 25) ?hr ?_; (case hd => rfl); (case hg => rfl); (case hr => first | (go_simp; done) | (go_simp; rfl)); intro gX hg_ WX hbox_ hb_; have HB : Aside0 (Below w.heap.size w WX) := ⟨hb_⟩; have BX := Aside0.mk hbox_; clear hg_ hbox_ hb_; have hcX0 := (blk_cell BX.out 0).trans rfl; have hcX1 := (blk_cell BX.out 1).trans rfl))
    go_ret
    exact ⟨rfl, HB.out⟩
  have z2 : decide ((fs.length : Int) > 64) = false := decide_eq_false (by omega)
  go_wp2_with (first | ((with_reducible refine gate_dst (N := 1) rfl ?_); refine box_event ?hg (N := 1) ?hd (cs := #[.slice A0 gs.length c0, .slice A1 fs.length c1]) (t := 25) ?hr ?_; (case hd => rfl); (case hg => rfl); (case hr => first | (go_simp; done) | (go_simp; rfl)); intro gX hg_ WX hbox_ hb_; have HB : Aside0 (Below w.heap.size w WX) := ⟨hb_⟩; have BX := Aside0.mk hbox_; clear hg_ hbox_ hb_; have hcX0 := (blk_cell BX.out 0).trans rfl; have hcX1 := (blk_cell BX.out 1).trans rfl))
  clear hcX0 hcX1 z1 z2
  go_loopw [3] (fun vi wr => ∃ (k : Nat), vi = .int .i64 k ∧ Aside0 (k ≤ gs.length) ∧ Aside0 ((gs.take k).all globB = true) ∧ Aside0 (Below w.heap.size w wr) ∧ Aside0 (wr.heap[gX]? = some (.cells #[.slice A0 gs.length c0, .slice A1 fs.length c1] 25 (0, 0)))) (fun v _ => gs.length - (intOf v).toNat)
  case atStart => exact ⟨0, rfl, ⟨Nat.zero_le _⟩, ⟨by simp⟩, HB, BX⟩
  case round =>
    clear HB BX
    obtain ⟨k, rfl, HK, HA, HB, BX⟩ := hrel
    have hcX0 := (blk_cell BX.out 0).trans rfl; have hcX1 := (blk_cell BX.out 1).trans rfl
    have hk := HK.out
    by_cases hlt : k < gs.length
    · obtain ⟨x, hxx⟩ : ∃ x, gs[k]? = some x := ⟨_, List.getElem?_eq_getElem hlt⟩
      obtain ⟨ad, e1_, h0_, h1_, h2_⟩ := at_T48 (Kd.C_below HR0.out HB.out) (k : Int) (by omega) (by omega)
      cases e1_
      have hget : rd_T48 gs (k : Int) = x := by unfold rd_T48; simp only [Int.toNat_natCast, List.getD_eq_getElem?_getD]; rw [hxx]; rfl
      rw [hget] at h0_ h1_ h2_
      simp only [Int.toNat_natCast] at h0_ h1_ h2_
      have z1 : decide ((k : Int) < (gs.length : Int)) = true := decide_eq_true (by omega)
      have q1 : (0 ≤ (k : Int)) = True := eq_true (by omega)
      have q2 : ((k : Int) < (gs.length : Int)) = True := eq_true (by omega)
      have HXX := Lib.hid hxx; have HLT := Lib.hid hlt
      clear hget hxx hlt
      go_wp2_with fail
      refine (d_globOk x _).mono ?_
      rintro e_ w_ ⟨rfl, hb_⟩
      have n_ := Aside0.mk (blk_below BX.out hb_); have m_ := Aside0.mk (below_step HB.out hb_)
      clear hcX0 hcX1 h0_ h1_ h2_; clear BX HB hb_; have BX := n_; have HB := m_; clear n_ m_
      have hcX0 := (blk_cell BX.out 0).trans rfl; have hcX1 := (blk_cell BX.out 1).trans rfl
      cases ht : globB x with
      | true =>
        go_wp2
        exact ⟨⟨k + 1, by go_num, ⟨HLT.out⟩, ⟨all_take HXX.out HA.out ht⟩, HB, BX⟩, by have := HLT.out; simp [intOf]; omega⟩
      | false =>
        have hr2 : r = false := HRR.out.trans (okF_glob HXX.out ht)
        subst hr2
        go_wp2
        go_ret
        exact ⟨rfl, HB.out⟩
    · have z1 : decide ((k : Int) < (gs.length : Int)) = false := decide_eq_false (by omega)
      obtain rfl : k = gs.length := by omega
      have HGA := Aside0.mk (all_all HA.out)
      clear hlt hk HK HA
      go_wp2_with fail
      clear z1 hcX0 hcX1
      go_loopw [5] (fun vi wr => ∃ (k : Nat), vi = .int .i64 k ∧ Aside0 (k ≤ fs.length) ∧ Aside0 ((fs.take k).all fnB = true) ∧ Aside0 (Below w.heap.size w wr) ∧ Aside0 (wr.heap[gX]? = some (.cells #[.slice A0 gs.length c0, .slice A1 fs.length c1] 25 (0, 0)))) (fun v _ => fs.length - (intOf v).toNat)
      case atStart => exact ⟨0, rfl, ⟨Nat.zero_le _⟩, ⟨by simp⟩, HB, BX⟩
      case round =>
        clear HB BX
        obtain ⟨k, rfl, HK, HA, HB, BX⟩ := hrel
        have hcX0 := (blk_cell BX.out 0).trans rfl; have hcX1 := (blk_cell BX.out 1).trans rfl
        have hk := HK.out
        by_cases hlt : k < fs.length
        · obtain ⟨x, hxx⟩ : ∃ x, fs[k]? = some x := ⟨_, List.getElem?_eq_getElem hlt⟩
          have hmem := List.mem_of_getElem? hxx
          obtain ⟨ad, RA1, rc1, RA3, rc3, RA4, rc4, e1_, h0_, h1_, h2_, h3_, h4_, l1_, g1, l3_, g3, l4_, g4⟩ := at_T54 (Kd.C_below HR1.out HB.out) (k : Int) (by omega) (by omega)
          cases e1_
          have hget : rd_T54 fs (k : Int) = x := by unfold rd_T54; simp only [Int.toNat_natCast, List.getD_eq_getElem?_getD]; rw [hxx]; rfl
          rw [hget] at h0_ h1_ h2_ h3_ h4_ g1 g3 g4
          simp only [Int.toNat_natCast] at h0_ h1_ h2_ h3_ h4_
          have z1 : decide ((k : Int) < (fs.length : Int)) = true := decide_eq_true (by omega)
          have q1 : (0 ≤ (k : Int)) = True := eq_true (by omega)
          have q2 : ((k : Int) < (fs.length : Int)) = True := eq_true (by omega)
          have HXX := Lib.hid hxx; have HLT := Lib.hid hlt
          have HC := Aside0.mk (d_fnOk x RA1 rc1 RA3 rc3 RA4 rc4 wr (HN.out x hmem) g1 g3 g4 (HFI.out x hmem))
          clear hget hxx hlt g1 g3 g4 l1_ l3_ l4_ hmem
          go_wp2_with fail
          refine HC.out.mono ?_
          rintro e_ w_ ⟨rfl, hb_⟩
          have n_ := Aside0.mk (blk_below BX.out hb_); have m_ := Aside0.mk (below_step HB.out hb_)
          clear hcX0 hcX1 h0_ h1_ h2_ h3_ h4_ HC; clear BX HB hb_; have BX := n_; have HB := m_; clear n_ m_
          have hcX0 := (blk_cell BX.out 0).trans rfl; have hcX1 := (blk_cell BX.out 1).trans rfl
          cases ht : fnB x with
          | true =>
            go_wp2
            exact ⟨⟨k + 1, by go_num, ⟨HLT.out⟩, ⟨all_take HXX.out HA.out ht⟩, HB, BX⟩, by have := HLT.out; simp [intOf]; omega⟩
          | false =>
            have hr2 : r = false := HRR.out.trans (okF_fn HXX.out ht)
            subst hr2
            go_wp2
            go_ret
            exact ⟨rfl, HB.out⟩
        · have z1 : decide ((k : Int) < (fs.length : Int)) = false := decide_eq_false (by omega)
          obtain rfl : k = fs.length := by omega
          have hr2 : r = true := HRR.out.trans (okF_yes l1 l2 HGA.out (all_all HA.out))
          subst hr2
          go_wp2
          go_ret
          exact ⟨rfl, HB.out⟩
end Go.Proofs.YteidgpaakoeefaaDoor
namespace Go.Proofs.YteidgpaakoeefaaDoor
open Go.RowKit Go.Proofs.YteidgpaakoeefaaDoorW.PrintWords Go.Proofs.YteidgpaakoeefaaDoorW.PrintLast Go.Proofs.YteidgpaakoeefaaDoorW.PrintMore
set_option linter.unusedVariables false
set_option linter.unusedSimpArgs false
open PIm
theorem w64_small {x : Int} (h0 : -9223372036854775808 ≤ x) (h1 : x ≤ 9223372036854775807) : wrap64 x = x := by
  unfold wrap64; omega
def Ev {α : Type} (f : Nat → Option α) (v : α) : Prop := ∃ k0, ∀ k, k0 ≤ k → f k = some v
theorem Ev.step {α : Type} {f g : Nat → Option α} {v : α} (h : Ev g v) (e : ∀ k, f (k + 1) = g k) : Ev f v := by
  obtain ⟨k0, h⟩ := h
  refine ⟨k0 + 1, fun k hk => ?_⟩
  obtain ⟨k, rfl⟩ : ∃ q, k = q + 1 := ⟨k - 1, by omega⟩
  rw [e]; exact h k (by omega)
theorem Ev.val {α : Type} {f : Nat → Option α} {v : α} (e : ∀ k, f (k + 1) = some v) : Ev f v := Ev.step (g := fun _ => some v) ⟨0, fun _ _ => rfl⟩ e
theorem Ev.bind {α β : Type} {f : Nat → Option α} {g : Nat → α → Option β} {a : α} {v : β} (h : Ev f a) (h2 : Ev (fun k => g k a) v) : Ev (fun k => (f k).bind (g k)) v := by
  obtain ⟨k1, h1⟩ := h
  obtain ⟨k2, h2⟩ := h2
  refine ⟨max k1 k2, fun k hk => ?_⟩
  show (f k).bind (g k) = _
  rw [h1 k (by omega)]
  exact h2 k (by omega)
theorem Ev.const {α : Type} (v : α) : Ev (fun _ => some v) v := ⟨0, fun _ _ => rfl⟩
theorem Ev.congr {α : Type} {f g : Nat → Option α} {v : α} (h : Ev g v) (e : ∀ k, f k = g k) : Ev f v := by
  obtain ⟨k0, h⟩ := h
  exact ⟨k0, fun k hk => (e k).trans (h k hk)⟩
theorem bt_at {x : ByteArray} {i : Nat} (h : i < x.size) : Go.Proofs.YteidgpaakoeefaaDoorW.PrintWords.bt x (i : Int) = ((x[i]).toNat : Int) := by
  unfold Go.Proofs.YteidgpaakoeefaaDoorW.PrintWords.bt
  rw [dif_pos (by simpa using h)]
  rfl
theorem next64 {i : Nat} (h : i < 1000000) : wrap64 ((i : Int) + 1) = ((i + 1 : Nat) : Int) := by rw [w64_small (by omega) (by omega)]; omega
theorem in_ev (L : List ByteArray) (s : ByteArray) (hL : L.length ≤ 1000) : ∀ (m i : Nat), i + m = L.length →
    Ev (fun k => tiltyardref08_in.l0 k L s (i : Int)) (decide (s.data.toList ∈ (L.drop i).map (·.data.toList)))
  | 0, i, h => Ev.val (fun k => by rw [tiltyardref08_in.l0, if_neg (by omega), List.drop_of_length_le (by omega)]; rfl)
  | m + 1, i, h => by
    have IH := in_ev L s hL m (i + 1) (by omega)
    have hi : i < L.length := by omega
    have hr : (rdOf ByteArray.empty L (i : Int)) = L[i] := by
      unfold rdOf
      simp only [Int.toNat_natCast, List.getD_eq_getElem?_getD]
      rw [List.getElem?_eq_getElem hi]; rfl
    have hd : L.drop i = L[i] :: L.drop (i + 1) := List.drop_eq_getElem_cons hi
    rw [hd, List.map_cons]
    by_cases hq : L[i].data.toList = s.data.toList
    · refine Ev.val (fun k => ?_)
      rw [tiltyardref08_in.l0, if_pos (by omega), if_pos (by omega), hr, if_pos (by rw [Lib.toList_data, Lib.toList_data]; exact hq)]
      rw [decide_eq_true (by rw [hq]; exact List.mem_cons_self)]
    · rw [show (decide (s.data.toList ∈ L[i].data.toList :: (L.drop (i + 1)).map (·.data.toList))) = decide (s.data.toList ∈ (L.drop (i + 1)).map (·.data.toList)) by
        rw [decide_eq_decide, List.mem_cons]
        exact ⟨fun g => g.resolve_left (fun e => hq e.symm), Or.inr⟩]
      refine Ev.step IH (fun k => ?_)
      rw [tiltyardref08_in.l0, if_pos (by omega), if_pos (by omega), hr, if_neg (by rw [Lib.toList_data, Lib.toList_data]; exact hq), next64 (by omega)]
theorem word_ev (s : ByteArray) : Ev (fun k => tiltyardref08_Word.f k s) (wordL s.data.toList) := by
  unfold tiltyardref08_Word.f tiltyardref08_Words.f tiltyardref08_in.f
  simp only [Option.bind_some]
  refine Ev.bind ?_ (Ev.const _)
  exact in_ev _ s (by simp) _ 0 (by simp; rfl)
theorem rletter_f (c : UInt8) : tiltyardref08_letter.f (c.toNat : Int) = some (letC c) := by
  unfold tiltyardref08_letter.f letC
  (repeat' split) <;> (refine congrArg some ?_; rw [Bool.eq_iff_iff]; simp; omega)
theorem rdigit_f (c : UInt8) : tiltyardref08_digit.f (c.toNat : Int) = some (digC c) := by
  unfold tiltyardref08_digit.f digC
  (repeat' split) <;> (refine congrArg some ?_; rw [Bool.eq_iff_iff]; simp; omega)
def letN : List UInt8 → Nat
  | [] => 0
  | c :: r => if letC c then lenW nameC (c :: r) else 0
theorem letters_ev (s : ByteArray) (hs : s.size ≤ 9223372036854775807) (p : Nat) : ∀ (m n : Nat), p + n + m = s.size →
    Ev (fun k => tiltyardref08_letters.l0 k s (p : Int) (n : Int)) ((if n = 0 then letN (s.data.toList.drop p) else n + lenW nameC (s.data.toList.drop (p + n)) : Nat) : Int)
  | 0, n, h => by
    have hd : s.data.toList.drop (p + n) = [] := List.drop_of_length_le (by rw [← Lib.size_eq]; omega)
    have e : (if n = 0 then letN (s.data.toList.drop p) else n + lenW nameC (s.data.toList.drop (p + n))) = n := by
      split
      · next h0 => subst h0; rw [Nat.add_zero] at hd; rw [hd]; rfl
      · rw [hd]; rfl
    rw [e]
    refine Ev.val (fun k => ?_)
    have hw : wrap64 ((p : Int) + (n : Int)) = ((p + n : Nat) : Int) := by rw [w64_small (by omega) (by omega)]; omega
    rw [tiltyardref08_letters.l0, hw, if_neg (by omega)]
  | m + 1, n, h => by
    have IH := letters_ev s hs p m (n + 1) (by omega)
    rw [if_neg (by omega)] at IH
    have hlt : p + n < s.size := by omega
    have hd := drop_cons hlt
    have hw : wrap64 ((p : Int) + (n : Int)) = ((p + n : Nat) : Int) := by rw [w64_small (by omega) (by omega)]; omega
    have hw1 : wrap64 ((n : Int) + 1) = ((n + 1 : Nat) : Int) := by rw [w64_small (by omega) (by omega)]; omega
    have hun : ∀ k, tiltyardref08_letters.l0 (k + 1) s (p : Int) (n : Int) = (if letC s[p + n] = true then (if (n : Int) = 0 then tiltyardref08_letters.l0 k s (p : Int) ((n + 1 : Nat) : Int) else tiltyardref08_letters.l0 k s (p : Int) ((n + 1 : Nat) : Int)) else (if digC s[p + n] = true then (if (n : Int) = 0 then some (n : Int) else tiltyardref08_letters.l0 k s (p : Int) ((n + 1 : Nat) : Int)) else some (n : Int))) := by
      intro k
      rw [tiltyardref08_letters.l0, hw, if_pos (by omega), if_pos (by omega), bt_at hlt, rletter_f, rdigit_f, hw1]
      rfl
    have hgo : nameC s[p + n] = true → n + 1 + lenW nameC (s.data.toList.drop (p + (n + 1))) = n + lenW nameC (s.data.toList.drop (p + n)) := by
      intro g
      rw [hd, lenW, if_pos g, show p + (n + 1) = p + n + 1 by omega]; omega
    have hst : nameC s[p + n] = false → lenW nameC (s.data.toList.drop (p + n)) = 0 := by
      intro g
      rw [hd, lenW, if_neg (by rw [g]; decide)]
    cases hl : letC s[p + n] with
    | true =>
      have hn : nameC s[p + n] = true := by unfold nameC; rw [hl]; rfl
      have e : (if n = 0 then letN (s.data.toList.drop p) else n + lenW nameC (s.data.toList.drop (p + n))) = n + 1 + lenW nameC (s.data.toList.drop (p + (n + 1))) := by
        rw [hgo hn]
        split
        · next h0 =>
          subst h0
          have hd' : s.data.toList.drop p = s[p + 0] :: s.data.toList.drop (p + 0 + 1) := hd
          show letN (s.data.toList.drop p) = 0 + lenW nameC (s.data.toList.drop p)
          rw [hd']
          show (if letC s[p + 0] = true then _ else _) = _
          rw [if_pos hl]; omega
        · rfl
      rw [e]
      refine Ev.step IH (fun k => ?_)
      rw [hun, hl, if_pos rfl]
      split <;> rfl
    | false =>
      by_cases h0 : n = 0
      · subst h0
        have e : letN (s.data.toList.drop p) = 0 := by
          have hd' : s.data.toList.drop p = s[p + 0] :: s.data.toList.drop (p + 0 + 1) := hd
          rw [hd']
          show (if letC s[p + 0] = true then _ else _) = _
          rw [hl]; rfl
        rw [if_pos rfl, e]
        refine Ev.val (fun k => ?_)
        rw [hun, hl, if_neg (by decide)]
        split <;> rfl
      · rw [if_neg h0]
        cases hdg : digC s[p + n] with
        | true =>
          have hn : nameC s[p + n] = true := by unfold nameC; rw [hdg, Bool.or_true]
          rw [← hgo hn]
          refine Ev.step IH (fun k => ?_)
          rw [hun, hl, hdg, if_neg (by decide), if_pos rfl, if_neg (by omega)]
        | false =>
          have hn : nameC s[p + n] = false := by unfold nameC; rw [hdg, hl]; rfl
          rw [hst hn]
          refine Ev.val (fun k => ?_)
          rw [hun, hl, hdg, if_neg (by decide), if_neg (by decide)]
          rfl
theorem name_ev (s : ByteArray) (hs : s.size ≤ 9223372036854775807) : Ev (fun k => tiltyardref08_Name.f k s) (nameF s) := by
  have hlet := letters_ev s hs 0 s.size 0 (by omega)
  rw [if_pos rfl, List.drop_zero] at hlet
  unfold tiltyardref08_Name.f
  refine Ev.bind (f := fun k => tiltyardref08_Word.f k s) (word_ev s) (Ev.bind (f := fun k => tiltyardref08_letters.f k s 0) hlet ?_)
  refine Ev.congr (Ev.const _) (fun k => ?_)
  rcases Nat.eq_zero_or_pos s.size with h | h
  · have hd : s.data.toList = [] := by
      rw [← List.length_eq_zero_iff, ← Lib.size_eq]; exact h
    rw [nameF_nil h, hd, h]
    rfl
  · have hd := drop_cons h
    rw [List.drop_zero] at hd
    rw [nameF_cons h]
    have hN : letN s.data.toList = if letC s[0] then lenW nameC s.data.toList else 0 := by
      rw [hd]; rfl
    rw [hN]
    cases wordL s.data.toList with
    | true => simp
    | false =>
      cases letC s[0] with
      | false =>
        simp
      | true =>
        simp
        by_cases h1 : lenW nameC s.data.toList = s.size
        · rw [if_pos (by omega), h1, if_pos (by omega), decide_eq_true rfl]
          simp
          omega
        · rw [if_neg (by omega), decide_eq_false h1]
          simp
theorem d_Name (s : ByteArray) (hs : s.size ≤ 9223372036854775807) (w : World) : Calls Tryd.prog 88 #[.string s] w fun e w' => e = .returned (.bool (nameF s)) ∧ Below w.heap.size w w' := by
  obtain ⟨k0, h⟩ := name_ev s hs
  refine (tiltyardref08_Name.calls k0 s _ w (h k0 (Nat.le_refl _))).mono ?_
  rintro e w' ⟨h1, h2⟩
  exact ⟨h1, h2⟩
end Go.Proofs.YteidgpaakoeefaaDoor
namespace Go.Proofs.YteidgpaakoeefaaDoor
open Go.RowKit Go.Proofs.YteidgpaakoeefaaDoorW.PrintWords Go.Proofs.YteidgpaakoeefaaDoorW.PrintLast Go.Proofs.YteidgpaakoeefaaDoorW.PrintMore
set_option linter.unusedVariables false
set_option linter.unusedSimpArgs false
open PIm
theorem denc (A0 : Option Addr) (c0 : Nat) (gs : List S48) (A1 : Option Addr) (c1 : Nat) (fs : List S54) (w : World) (hr0 : Kd.C k48 w A0 gs.length gs) (hc0 : gs.length ≤ c0) (hr1 : Kd.C k54 w A1 fs.length fs) (hc1 : fs.length ≤ c1) (h : argA gs fs) :
    Calls Tryd.prog 13 #[.agg #[.slice A0 gs.length c0, .slice A1 fs.length c1]] w fun e w' => ∃ v, e = .returned (.tuple #[v, .int .i64 (encF gs fs).2]) ∧ RS w.heap.size w' v (encF gs fs).1 ∧ Below w.heap.size w w' :=
  denc_calls A0 c0 gs A1 c1 fs w hr0 hc0 hr1 hc1 (fun W hb => d_Ok A0 c0 gs A1 c1 fs W (Kd.C_below hr0 hb) (Kd.C_below hr1 hb) (fun f hf W2 => d_Name f.f0 (h.2.2.1 f hf).1 W2) h.2.2.1) h
end Go.Proofs.YteidgpaakoeefaaDoor
