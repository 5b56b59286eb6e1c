/- Datagrams that were sent are received: plain laws. -/
import Derived.Test.YtbdocgddidcfeaaDoorLinkT
namespace Go.Proofs.YtbdocgddidcfeaaDoor
open Go.RowKit Go.Proofs.YtbdocgddidcfeaaDoorW.PrintWords Go.Proofs.YtbdocgddidcfeaaDoorW.PrintLast Go.Proofs.YtbdocgddidcfeaaDoorW.PrintMore
set_option linter.unusedVariables false
set_option linter.unusedSimpArgs false

theorem opF_frame (l : List Int) : opF (frameF l) = (l, true) := by
  unfold opF
  have hl : (frameF l).length = l.length + 4 := by unfold frameF; simp
  have ht : (frameF l).take ((frameF l).length - 4) = l := by
    rw [hl, show l.length + 4 - 4 = l.length by omega]
    unfold frameF
    rw [List.take_left']
    rfl
  rw [if_neg (by omega), ht, if_pos rfl]
theorem part_length (b : List Int) (i : Nat) : (partF b i).length = min 200 (b.length - 200 * i) := by
  unfold partF
  rw [List.length_take, List.length_drop]
theorem head_cases (s : LS) : (s.any = false ∧ headF s = [0, 0, 0, 0, 0, 0, 0]) ∨ (s.any = true ∧ headF s = [1, s.last / 256, s.last % 256, s.bits / 16777216, s.bits / 65536 % 256, s.bits / 256 % 256, s.bits % 256]) := by
  unfold headF
  cases s.any <;> simp
/-- A datagram, read. -/
theorem raw_read (s : LS) (n : Int) (b : List Int) (i : Nat) : rd (rawF s n b i) 7 = n / 256 ∧ rd (rawF s n b i) 8 = n % 256 ∧ rd (rawF s n b i) 9 = (i : Int) ∧ rd (rawF s n b i) 10 = (manyF b.length : Int) ∧ (rawF s n b i).drop 11 = partF b i ∧ rd (rawF s n b i) 0 = (if s.any then 1 else 0) := by
  unfold rawF
  rcases head_cases s with ⟨h0, h⟩ | ⟨h0, h⟩
  · rw [h, h0]; exact ⟨rfl, rfl, rfl, rfl, rfl, rfl⟩
  · rw [h, h0]; exact ⟨rfl, rfl, rfl, rfl, rfl, rfl⟩
theorem raw_formed (s : LS) (n : Int) (b : List Int) (i : Nat) (hb : b.length ≤ 2000) (hi : i < manyF b.length) : formedF (rawF s n b i) = true := by
  obtain ⟨h7, h8, h9, h10, hd, h0⟩ := raw_read s n b i
  have hl := raw_len s n b i
  have hpl := part_length b i
  have hm := manyF_le hb
  have hz : rd (rawF s n b i) 0 = 0 → ∀ x ∈ ((rawF s n b i).drop 1).take 6, x = 0 := by
    intro hz
    rcases head_cases s with ⟨e, h⟩ | ⟨e, h⟩
    · unfold rawF
      rw [h]
      intro x hx
      simp at hx
      exact hx
    · rw [h0, e] at hz; simp at hz
  unfold formedF
  rw [h9, h10, hl]
  have c0 : rd (rawF s n b i) 0 ≤ 1 := by rw [h0]; split <;> omega
  rw [if_neg (by omega)]
  rw [if_neg (by rintro ⟨e1, e2⟩; exact e2 (hz e1))]
  rw [if_neg (by have := part_len b i; omega)]
  have hmd : manyF b.length = max 1 ((b.length + 199) / 200) := rfl
  split
  · exact decide_eq_true (by omega)
  · exact decide_eq_true (by omega)
theorem dg_recv (r s : LS) (n : Int) (b : List Int) (i : Nat) (hn : 0 ≤ n ∧ n < 65536) (hb : b.length ≤ 2000) (hi : i < manyF b.length) :
    recvF r (dgF s n b i) = recvG r (rawF s n b i) n (i : Int) (manyF b.length : Int) := by
  obtain ⟨h7, h8, h9, h10, hd, h0⟩ := raw_read s n b i
  have ho : opF (dgF s n b i) = (rawF s n b i, true) := opF_frame _
  rw [recvF_open (by rw [ho]) (by rw [ho]; exact raw_formed s n b i hb hi), ho]
  simp only [h7, h8, h9, h10]
  rw [show n / 256 * 256 + n % 256 = n by omega]

/-- The parts, in the order in which they came. -/
def partsOf (b : List Int) (R : List Nat) : List (Int × List Int) := R.map (fun i : Nat => ((i : Int), partF b i))
theorem pget_parts (b : List Int) (i : Nat) : ∀ R : List Nat, pget (i : Int) (partsOf b R) = if i ∈ R then some (partF b i) else none
  | [] => by simp [partsOf, pget]
  | j :: R => by
    have ih := pget_parts b i R
    unfold partsOf at *
    rw [List.map_cons, pget]
    by_cases h : i = j
    · subst h; simp
    · rw [if_neg (show ¬ (i : Int) = (j : Int) by omega), ih]
      simp [h]
theorem parts_len (b : List Int) (R : List Nat) : (partsOf b R).length = R.length := by simp [partsOf]
theorem parts_snoc (b : List Int) (R : List Nat) (i : Nat) : partsOf b R ++ [((i : Int), partF b i)] = partsOf b (R ++ [i]) := by simp [partsOf]
theorem all_parts (b : List Int) : ∀ n : Nat, (List.range n).flatMap (fun i => partF b i) = b.take (200 * n)
  | 0 => by simp
  | n + 1 => by
    rw [List.range_succ, List.flatMap_append, all_parts b n]
    simp only [List.flatMap_cons, List.flatMap_nil, List.append_nil]
    unfold partF
    rw [show 200 * (n + 1) = 200 * n + 200 by omega, List.take_add]
theorem out_all (b : List Int) (s : LS) (R : List Nat) (hm : s.many = (manyF b.length : Int)) (hp : s.parts = partsOf b R) (hR : ∀ i, i < manyF b.length → i ∈ R) : outF s = b := by
  unfold outF
  rw [hm, hp, Int.toNat_natCast]
  have : ∀ i, i < manyF b.length → (pget ((i : Nat) : Int) (partsOf b R)).getD [] = partF b i := by
    intro i hi
    rw [pget_parts, if_pos (hR i hi)]
    rfl
  rw [Go.Deep.flatMap_congr_range this, all_parts]
  exact List.take_of_length_le (by unfold manyF; omega)

/-- What an end holds of the message (n, b): nothing; some parts; it is told. -/
def Holds (n : Int) (b : List Int) (r : LS) (R : List Nat) : Prop :=
  (R = [] ∧ r.any = false ∧ (r.waits = true → n ≠ r.n ∧ newerF n r.n = true)) ∨
  (R ≠ [] ∧ R.length < manyF b.length ∧ r.any = false ∧ r.waits = true ∧ r.n = n ∧ r.many = (manyF b.length : Int) ∧ r.parts = partsOf b R) ∨
  (R.length = manyF b.length ∧ r.any = true ∧ r.last = n)
theorem newer_self (n : Int) : newerF n n = false := by
  unfold newerF
  exact decide_eq_false (by omega)
/-- A part that is new. -/
theorem holds_new {n : Int} {b : List Int} {r : LS} {R : List Nat} {i : Nat} (h : Holds n b r R) (s : LS) (hn : 0 ≤ n ∧ n < 65536) (hb : b.length ≤ 2000) (hi : i < manyF b.length) (hR : i ∉ R) (hRl : R.length < manyF b.length)
    (hall : R.length + 1 = manyF b.length → ∀ j, j < manyF b.length → j ∈ R ++ [i]) :
    Holds n b (recvF r (dgF s n b i)).1 (R ++ [i]) ∧ (recvF r (dgF s n b i)).2 = if R.length + 1 = manyF b.length then (b, true, 0) else ([], false, 0) := by
  obtain ⟨h7, h8, h9, h10, hd, h0⟩ := raw_read s n b i
  rw [dg_recv r s n b i hn hb hi]
  generalize rawF s n b i = raw at hd
  have hM := manyF_le hb
  rcases h with ⟨rfl, ha, hw⟩ | ⟨hne, hlt, ha, hw, hrn, hrm, hrp⟩ | ⟨h1, h2, h3⟩
  · unfold recvG
    rw [if_neg (by rw [ha]; simp), if_neg (by rintro ⟨e1, e2, e3⟩; rw [(hw e1).2] at e3; cases e3), if_neg (by rintro ⟨e1, e2⟩; exact (hw e1).1 e2)]
    by_cases h1 : 1 < manyF b.length
    · rw [if_pos (by omega)]
      simp only [List.length_nil, List.nil_append]
      rw [if_neg (by omega)]
      refine ⟨.inr (.inl ⟨by simp, by simpa using h1, ha, rfl, rfl, rfl, ?_⟩), rfl⟩
      show [((i : Int), raw.drop 11)] = partsOf b [i]
      rw [hd]; rfl
    · rw [if_neg (by omega)]
      simp only [List.length_nil, List.nil_append]
      rw [if_pos (by omega)]
      have ho : outF { r with acked := hearF r raw, waits := true, n := n, many := (manyF b.length : Int), parts := [((i : Int), raw.drop 11)] } = b :=
        out_all b _ [i] rfl (by rw [hd]; rfl) (by simpa using hall (by simp; omega))
      refine ⟨.inr (.inr ⟨by simp; omega, rfl, rfl⟩), ?_⟩
      simp only [ho]
  · unfold recvG
    have hg : pget (i : Int) r.parts = none := by rw [hrp, pget_parts, if_neg hR]
    rw [if_neg (by rw [ha]; simp), if_neg (by rintro ⟨e1, e2, e3⟩; exact e2 hrn.symm), if_pos ⟨hw, hrn.symm⟩, if_neg (by rw [hrm]; simp), if_neg (by rw [hg]; simp)]
    have hps : r.parts ++ [((i : Int), raw.drop 11)] = partsOf b (R ++ [i]) := by rw [hrp, hd, parts_snoc]
    have hpl : r.parts.length = R.length := by rw [hrp, parts_len]
    by_cases h1 : R.length + 1 = manyF b.length
    · rw [if_neg (by rw [hpl]; omega), if_pos h1]
      have ho : outF { r with acked := hearF r raw, parts := r.parts ++ [((i : Int), raw.drop 11)] } = b := out_all b _ (R ++ [i]) hrm hps (hall h1)
      refine ⟨.inr (.inr ⟨by simpa using h1, rfl, rfl⟩), ?_⟩
      simp only [ho]
    · rw [if_pos (by rw [hpl]; omega), if_neg h1]
      exact ⟨.inr (.inl ⟨by simp, by simp; omega, ha, hw, hrn, hrm, hps⟩), rfl⟩
  · omega
/-- A part that came already. -/
theorem holds_old {n : Int} {b : List Int} {r : LS} {R : List Nat} {i : Nat} (h : Holds n b r R) (s : LS) (hn : 0 ≤ n ∧ n < 65536) (hb : b.length ≤ 2000) (hi : i < manyF b.length) (hR : i ∈ R) :
    Holds n b (recvF r (dgF s n b i)).1 R ∧ (recvF r (dgF s n b i)).2 = ([], false, 71) := by
  rw [dg_recv r s n b i hn hb hi]
  generalize rawF s n b i = raw
  rcases h with ⟨rfl, ha, hw⟩ | ⟨hne, hlt, ha, hw, hrn, hrm, hrp⟩ | ⟨h1, h2, h3⟩
  · cases hR
  · unfold recvG
    have hg : (pget (i : Int) r.parts).isSome = true := by rw [hrp, pget_parts, if_pos hR]; rfl
    rw [if_neg (by rw [ha]; simp), if_neg (by rintro ⟨e1, e2, e3⟩; exact e2 hrn.symm), if_pos ⟨hw, hrn.symm⟩, if_neg (by rw [hrm]; simp), if_pos hg]
    exact ⟨.inr (.inl ⟨hne, hlt, ha, hw, hrn, hrm, hrp⟩), rfl⟩
  · unfold recvG
    rw [if_pos ⟨h2, by rw [h3]; exact newer_self n⟩]
    exact ⟨.inr (.inr ⟨h1, h2, h3⟩), rfl⟩
/-- The first part of an older message, alone. -/
theorem holds_first {b : List Int} (first : Int) (s0 : LS) (hn : 0 ≤ s0.next ∧ s0.next < 65536) (hb : b.length ≤ 2000) (hm : 1 < manyF b.length) :
    (recvF (newS first) (dgF s0 s0.next b 0)).2 = ([], false, 0) ∧ ∀ b2, Holds (sendS s0).next b2 (recvF (newS first) (dgF s0 s0.next b 0)).1 [] := by
  rw [dg_recv _ s0 s0.next b 0 hn hb (by omega)]
  generalize rawF s0 s0.next b 0 = raw
  unfold recvG
  rw [if_neg (by simp [newS]), if_neg (by simp [newS]), if_neg (by simp [newS]), if_pos (by omega)]
  refine ⟨rfl, fun b2 => .inl ⟨rfl, rfl, fun _ => ⟨?_, ?_⟩⟩⟩
  · show (s0.next + 1) % 65536 ≠ s0.next
    omega
  · show newerF ((s0.next + 1) % 65536) s0.next = true
    unfold newerF
    exact decide_eq_true (by omega)
theorem head_range {s : LS} (h : Okay s) : ∀ x ∈ headF s, 0 ≤ x ∧ x < 256 := by
  obtain ⟨_, ⟨h1, h2⟩, ⟨h3, h4⟩, _⟩ := h
  rcases head_cases s with ⟨_, e⟩ | ⟨_, e⟩
  · rw [e]; intro x hx
    simp at hx
    omega
  · rw [e]; intro x hx
    simp only [List.mem_cons, List.not_mem_nil, or_false] at hx
    rcases hx with rfl | rfl | rfl | rfl | rfl | rfl | rfl <;> omega
theorem part_range' {b : List Int} (h : ∀ x ∈ b, 0 ≤ x ∧ x < 256) (i : Nat) : ∀ x ∈ partF b i, 0 ≤ x ∧ x < 256 := fun x hx => h x (List.mem_of_mem_drop (List.mem_of_mem_take hx))
theorem dg_range {s : LS} {n : Int} {b : List Int} {i : Nat} (h : Okay s) (hn : 0 ≤ n ∧ n < 65536) (hb : ∀ x ∈ b, 0 ≤ x ∧ x < 256) (hl : b.length ≤ 2000) (hi : i < manyF b.length) : ∀ x ∈ dgF s n b i, 0 ≤ x ∧ x < 256 := by
  have hm := manyF_le hl
  refine frameF_range _ ?_
  unfold rawF
  refine app_range (app_range (head_range h) ?_) (part_range' hb i)
  intro x hx
  simp only [List.mem_cons, List.not_mem_nil, or_false] at hx
  rcases hx with rfl | rfl | rfl | rfl <;> omega
theorem dg_small (s : LS) (n : Int) (b : List Int) (i : Nat) : (dgF s n b i).length ≤ 215 := by
  rw [dg_len]; omega
end Go.Proofs.YtbdocgddidcfeaaDoor
