/- Once and in order: plain laws. -/
import Derived.Test.YtbdocgddidcfeaaDoorLinkV
namespace Go.Proofs.YtbdocgddidcfeaaDoor
open Go.RowKit Go.Proofs.YtbdocgddidcfeaaDoorW.PrintWords Go.Proofs.YtbdocgddidcfeaaDoorW.PrintLast Go.Proofs.YtbdocgddidcfeaaDoorW.PrintMore
set_option linter.unusedVariables false
set_option linter.unusedSimpArgs false

def numO (F : Int) (m : Nat) : Int := (F + (m : Int)) % 65536
theorem numO_range (F : Int) (m : Nat) : 0 ≤ numO F m ∧ numO F m < 65536 := by unfold numO; omega
theorem numO_inj {F : Int} {a b : Nat} (ha : a < 400) (hb : b < 400) (h : numO F a = numO F b) : a = b := by unfold numO at h; omega
theorem numO_newer {F : Int} {a b : Nat} (ha : a < 400) (hb : b < 400) : newerF (numO F a) (numO F b) = decide (b < a) := by
  unfold newerF numO
  exact decide_eq_decide.2 (by omega)
theorem numO_near {F : Int} {a b : Nat} (ha : a < 400) (hb : b < 400) (h : (numO F a - numO F b) % 65536 ≤ 32) : b ≤ a := by unfold numO at h; omega

/-- What the receiving end holds: of the messages S (number F and on), 'told' have been told or passed by. -/
def RecvO (F : Int) (S : List (List Int)) (told : Nat) (r : LS) : Prop :=
  (r.any = true → 0 < told ∧ r.last = numO F (told - 1)) ∧ (r.any = false → told = 0) ∧
  (r.waits = true → ∃ m b R, told ≤ m ∧ S[m]? = some b ∧ r.n = numO F m ∧ r.many = (manyF b.length : Int) ∧ r.parts = partsOf b R ∧ R.Nodup ∧ R.length < manyF b.length ∧ ∀ i ∈ R, i < manyF b.length)
theorem nodup_bound : ∀ (M : Nat) (R : List Nat), R.Nodup → (∀ i ∈ R, i < M) → R.length ≤ M
  | 0, [], _, _ => Nat.le_refl _
  | 0, x :: R, _, h => absurd (h x List.mem_cons_self) (Nat.not_lt_zero x)
  | M + 1, R, hn, h => by
    have h1 := nodup_bound M (R.erase M) (hn.erase M) (fun i hi => by
      have h2 := h i (List.mem_of_mem_erase hi)
      have h3 : i ≠ M := ((List.Nodup.mem_erase_iff hn).1 hi).1
      omega)
    have h4 : R.length - 1 ≤ (R.erase M).length := by
      rw [List.length_erase]
      split <;> omega
    omega
theorem nodup_covers {R : List Nat} {M : Nat} (hn : R.Nodup) (hl : R.length = M) (h : ∀ i ∈ R, i < M) : ∀ i, i < M → i ∈ R := by
  intro i hi
  refine Classical.byContradiction (fun hni => ?_)
  have h1 := nodup_bound M (i :: R) (List.nodup_cons.2 ⟨hni, hn⟩) (fun j hj => by
    rcases List.mem_cons.1 hj with rfl | hj
    · exact hi
    · exact h j hj)
  simp at h1
  omega
theorem recv_once {F : Int} {S : List (List Int)} {told : Nat} {r s0 : LS} {m p : Nat} {b : List Int} (hS : S.length ≤ 400) (ht : told ≤ S.length) (h : RecvO F S told r) (hm : S[m]? = some b) (hb : b.length ≤ 2000) (hp : p < manyF b.length) :
    ((recvF r (dgF s0 (numO F m) b p)).2.2.1 = false ∧ RecvO F S told (recvF r (dgF s0 (numO F m) b p)).1) ∨
    ((recvF r (dgF s0 (numO F m) b p)).2.2.1 = true ∧ told ≤ m ∧ (recvF r (dgF s0 (numO F m) b p)).2.1 = b ∧ (recvF r (dgF s0 (numO F m) b p)).1.last = numO F m ∧ RecvO F S (m + 1) (recvF r (dgF s0 (numO F m) b p)).1) := by
  obtain ⟨h7, h8, h9, h10, hd, h0⟩ := raw_read s0 (numO F m) b p
  have hml : m < S.length := (List.getElem?_eq_some_iff.1 hm).1
  rw [dg_recv r s0 (numO F m) b p (numO_range F m) hb hp]
  generalize rawF s0 (numO F m) b p = raw at hd
  obtain ⟨ha, hna, hw⟩ := h
  have hM := manyF_le hb
  unfold recvG
  by_cases c1 : r.any = true ∧ newerF (numO F m) r.last = false
  · rw [if_pos c1]
    exact .inl ⟨rfl, ha, hna, hw⟩
  · rw [if_neg c1]
    have htm : told ≤ m := by
      cases hany : r.any with
      | false => rw [hna hany]; exact Nat.zero_le _
      | true =>
        obtain ⟨h1, h2⟩ := ha hany
        have h3 : newerF (numO F m) r.last = true := by
          cases hn : newerF (numO F m) r.last with
          | true => rfl
          | false => exact absurd ⟨hany, hn⟩ c1
        rw [h2, numO_newer (by omega) (by omega)] at h3
        have := of_decide_eq_true h3
        omega
    by_cases c2 : r.waits = true ∧ numO F m ≠ r.n ∧ newerF (numO F m) r.n = false
    · rw [if_pos c2]
      exact .inl ⟨rfl, ha, hna, hw⟩
    · rw [if_neg c2]
      by_cases c3 : r.waits = true ∧ numO F m = r.n
      · rw [if_pos c3]
        obtain ⟨m', b', R, k1, k2, k3, k4, k5, k6, k7, k8⟩ := hw c3.1
        have hm'l : m' < S.length := (List.getElem?_eq_some_iff.1 k2).1
        have hmm : m' = m := numO_inj (F := F) (by omega) (by omega) (by rw [← k3]; exact c3.2.symm)
        subst hmm
        rw [hm] at k2
        injection k2 with k2
        subst k2
        rw [if_neg (by rw [k4]; simp)]
        by_cases hpR : p ∈ R
        · rw [if_pos (by rw [k5, pget_parts, if_pos hpR]; rfl)]
          exact .inl ⟨rfl, ha, hna, hw⟩
        · rw [if_neg (by rw [k5, pget_parts, if_neg hpR]; simp)]
          have hps : r.parts ++ [((p : Int), raw.drop 11)] = partsOf b (R ++ [p]) := by rw [k5, hd, parts_snoc]
          have hpl : r.parts.length = R.length := by rw [k5, parts_len]
          have hnd : (R ++ [p]).Nodup := by
            rw [List.nodup_append]
            exact ⟨k6, by simp, fun x hx y hy e => by rw [List.mem_singleton.1 hy] at e; subst e; exact hpR hx⟩
          have hlt : ∀ i ∈ R ++ [p], i < manyF b.length := by
            intro i hi
            rcases List.mem_append.1 hi with hi | hi
            · exact k8 i hi
            · rw [List.mem_singleton.1 hi]; exact hp
          by_cases hfin : R.length + 1 < manyF b.length
          · rw [if_pos (by rw [hpl]; omega)]
            exact .inl ⟨rfl, ha, hna, fun _ => ⟨m', b, R ++ [p], k1, hm, k3, k4, hps, hnd, by simp; omega, hlt⟩⟩
          · rw [if_neg (by rw [hpl]; omega)]
            refine .inr ⟨rfl, htm, ?_, rfl, fun _ => ⟨by omega, rfl⟩, fun e => (by cases e), fun e => (by cases e)⟩
            exact out_all b _ (R ++ [p]) k4 hps (nodup_covers hnd (by simp; omega) hlt)
      · rw [if_neg c3]
        by_cases h1 : 1 < manyF b.length
        · rw [if_pos (by omega)]
          refine .inl ⟨rfl, ha, hna, fun _ => ⟨m, b, [p], htm, hm, rfl, rfl, ?_, by simp, by simpa using h1, fun i hi => by rw [List.mem_singleton.1 hi]; exact hp⟩⟩
          show [((p : Int), raw.drop 11)] = partsOf b [p]
          rw [hd]; rfl
        · rw [if_neg (by omega)]
          refine .inr ⟨rfl, htm, ?_, rfl, fun _ => ⟨by omega, rfl⟩, fun e => (by cases e), fun e => (by cases e)⟩
          exact out_all b _ [p] rfl (by rw [hd]; rfl) (fun i hi => by simp; omega)

/-- What the sending end knows. -/
def SendO (F : Int) (S : List (List Int)) (told : Nat) (s : LS) : Prop :=
  s.next = numO F S.length ∧ (∀ x ∈ s.sent, ∃ m, m < S.length ∧ x = numO F m) ∧ ∀ q ∈ s.acked, ∃ m, m < told ∧ q.1 = numO F m
theorem pdel_sub {α : Type} (x : Int) : ∀ p : List (Int × α), List.Sublist (pdel x p) p
  | [] => List.Sublist.refl _
  | q :: p => by
    unfold pdel
    split
    · exact List.sublist_cons_self q p
    · exact (pdel_sub x p).cons_cons q
theorem send_once {F : Int} {S : List (List Int)} {told : Nat} {s : LS} (h : SendO F S told s) (b : List Int) : SendO F (S ++ [b]) told (sendS s) := by
  obtain ⟨h1, h2, h3⟩ := h
  have hs : ∀ x ∈ s.sent ++ [s.next], ∃ m, m < (S ++ [b]).length ∧ x = numO F m := by
    intro x hx
    rcases List.mem_append.1 hx with hx | hx
    · obtain ⟨m, e1, e2⟩ := h2 x hx
      exact ⟨m, by simp; omega, e2⟩
    · exact ⟨S.length, by simp, by rw [List.mem_singleton.1 hx, h1]⟩
  refine ⟨?_, ?_, ?_⟩
  · show (s.next + 1) % 65536 = _
    rw [h1]
    unfold numO
    simp
    omega
  · intro x hx
    unfold sendS at hx
    simp only [] at hx
    split at hx
    · exact hs x (List.mem_of_mem_drop hx)
    · exact hs x hx
  · intro q hq
    unfold sendS at hq
    simp only [] at hq
    split at hq
    · exact h3 q ((pdel_sub _ _).subset hq)
    · exact h3 q hq
theorem recvF_next (s : LS) (d : List Int) : (recvF s d).1.next = s.next ∧ ((recvF s d).1.acked = s.acked ∨ (recvF s d).1.acked = hearF s (opF d).1) := by
  unfold recvF
  split
  · exact ⟨rfl, .inl rfl⟩
  · simp only []
    generalize (opF d).1 = b
    generalize rd b 7 * 256 + rd b 8 = N
    by_cases c1 : s.any = true ∧ newerF N s.last = false
    · rw [if_pos c1]; exact ⟨rfl, .inr rfl⟩
    · rw [if_neg c1]
      by_cases c2 : s.waits = true ∧ N ≠ s.n ∧ newerF N s.n = false
      · rw [if_pos c2]; exact ⟨rfl, .inr rfl⟩
      · rw [if_neg c2]
        by_cases c3 : s.waits = true ∧ N = s.n
        · simp only [if_pos c3]
          split
          · exact ⟨rfl, .inr rfl⟩
          · split
            · exact ⟨rfl, .inr rfl⟩
            · split
              · exact ⟨rfl, .inr rfl⟩
              · exact ⟨rfl, .inr rfl⟩
        · simp only [if_neg c3]
          split
          · exact ⟨rfl, .inr rfl⟩
          · split
            · exact ⟨rfl, .inr rfl⟩
            · split
              · exact ⟨rfl, .inr rfl⟩
              · exact ⟨rfl, .inr rfl⟩
theorem padd_mem {x : Int} {p : List (Int × Unit)} {q : Int × Unit} (h : q ∈ padd x p) : q ∈ p ∨ q.1 = x := by
  unfold padd at h
  split at h
  · exact .inl h
  · rcases List.mem_append.1 h with h | h
    · exact .inl h
    · rw [List.mem_singleton.1 h]; exact .inr rfl
theorem hearL_mem {N B : Int} {q : Int × Unit} : ∀ (l : List Int) (p : List (Int × Unit)), q ∈ hearL N B l p → q ∈ p ∨ (q.1 ∈ l ∧ hit N B q.1 = true)
  | [], p, h => .inl h
  | x :: l, p, h => by
    have h' : q ∈ hearL N B l (if hit N B x then padd x p else p) := h
    rcases hearL_mem l _ h' with h1 | ⟨h1, h2⟩
    · by_cases hx : hit N B x = true
      · rw [if_pos hx] at h1
        rcases padd_mem h1 with h3 | h3
        · exact .inl h3
        · exact .inr ⟨by rw [h3]; exact List.mem_cons_self, by rw [h3]; exact hx⟩
      · rw [if_neg hx] at h1
        exact .inl h1
    · exact .inr ⟨List.mem_cons_of_mem _ h1, h2⟩
/-- What the other end sends is heard. -/
theorem hear_once {F : Int} {S : List (List Int)} {told : Nat} {s r : LS} (hS : S.length ≤ 400) (ht : told ≤ S.length) (h : SendO F S told s) (hr : RecvO F S told r) (n : Int) : SendO F S told (recvF s (dgF r n [] 0)).1 := by
  obtain ⟨h1, h2, h3⟩ := h
  obtain ⟨e1, e2⟩ := recvF_next s (dgF r n [] 0)
  refine ⟨by rw [e1]; exact h1, by rw [recvF_sent]; exact h2, ?_⟩
  rcases e2 with e2 | e2
  · rw [e2]; exact h3
  · rw [e2]
    rw [show (opF (dgF r n [] 0)).1 = rawF r n [] 0 by rw [show opF (dgF r n [] 0) = (rawF r n [] 0, true) from opF_frame _]]
    intro q hq
    unfold hearF at hq
    rcases head_cases r with ⟨ha, hh⟩ | ⟨ha, hh⟩
    · rw [if_pos (by unfold rawF; rw [hh]; rfl)] at hq
      exact h3 q hq
    · obtain ⟨t1, t2⟩ := hr.1 ha
      have hN : rd (rawF r n [] 0) 1 * 256 + rd (rawF r n [] 0) 2 = r.last := by
        have a1 : rd (rawF r n [] 0) 1 = r.last / 256 := by unfold rawF; rw [hh]; rfl
        have a2 : rd (rawF r n [] 0) 2 = r.last % 256 := by unfold rawF; rw [hh]; rfl
        rw [a1, a2]; omega
      split at hq
      · exact h3 q hq
      · rw [hN] at hq
        rcases hearL_mem _ _ hq with hq | ⟨hq, hh2⟩
        · exact h3 q hq
        · obtain ⟨m, g1, g2⟩ := h2 _ hq
          refine ⟨m, ?_, g2⟩
          have hle : (numO F (told - 1) - numO F m) % 65536 ≤ 32 := by
            rw [← t2, ← g2]
            unfold hit at hh2
            simp only [Bool.or_eq_true, Bool.and_eq_true, decide_eq_true_eq] at hh2
            omega
          have := numO_near (F := F) (by omega) (by omega) hle
          omega
theorem acked_once {F : Int} {S : List (List Int)} {told : Nat} {s : LS} (h : SendO F S told s) : ∀ x ∈ ackedF s, ∃ m, m < told ∧ x = numO F m := by
  intro x hx
  have hs := (List.mem_filter.1 hx).2
  have : ∀ p : List (Int × Unit), (pget x p).isSome = true → ∃ q ∈ p, q.1 = x := by
    intro p
    induction p with
    | nil => intro h; simp [pget] at h
    | cons q p ih =>
      intro h
      unfold pget at h
      by_cases hx : x = q.1
      · exact ⟨q, List.mem_cons_self, hx.symm⟩
      · rw [if_neg hx] at h
        obtain ⟨q', h1, h2⟩ := ih h
        exact ⟨q', List.mem_cons_of_mem _ h1, h2⟩
  obtain ⟨q, h1, h2⟩ := this _ hs
  obtain ⟨m, g1, g2⟩ := h.2.2 q h1
  exact ⟨m, g1, by rw [← h2]; exact g2⟩
/-- A message more. -/
theorem RecvO.more {F : Int} {S : List (List Int)} {told : Nat} {r : LS} (h : RecvO F S told r) (b : List Int) : RecvO F (S ++ [b]) told r := by
  obtain ⟨h1, h2, h3⟩ := h
  refine ⟨h1, h2, fun hw => ?_⟩
  obtain ⟨m, b', R, k1, k2, k3⟩ := h3 hw
  exact ⟨m, b', R, k1, by rw [List.getElem?_append_left (List.getElem?_eq_some_iff.1 k2).1]; exact k2, k3⟩
theorem RecvO.send {F : Int} {S : List (List Int)} {told : Nat} {r : LS} (h : RecvO F S told r) : RecvO F S told (sendS r) := h
theorem SendO.told {F : Int} {S : List (List Int)} {t t' : Nat} {s : LS} (h : SendO F S t s) (ht : t ≤ t') : SendO F S t' s :=
  ⟨h.1, h.2.1, fun q hq => by obtain ⟨m, h1, h2⟩ := h.2.2 q hq; exact ⟨m, by omega, h2⟩⟩
/-- The datagrams that were sent. -/
def DgO (F : Int) (S : List (List Int)) (d : List Int) : Prop := ∃ m s0 p b, S[m]? = some b ∧ Okay s0 ∧ b.length ≤ 2000 ∧ (∀ x ∈ b, 0 ≤ x ∧ x < 256) ∧ p < manyF b.length ∧ d = dgF s0 (numO F m) b p
theorem DgO.more {F : Int} {S : List (List Int)} {d : List Int} (h : DgO F S d) (b : List Int) : DgO F (S ++ [b]) d := by
  obtain ⟨m, s0, p, b', k2, k3⟩ := h
  exact ⟨m, s0, p, b', by rw [List.getElem?_append_left (List.getElem?_eq_some_iff.1 k2).1]; exact k2, k3⟩
theorem DgO.range {F : Int} {S : List (List Int)} {d : List Int} (h : DgO F S d) : (∀ x ∈ d, 0 ≤ x ∧ x < 256) ∧ d.length ≤ 215 := by
  obtain ⟨m, s0, p, b, h1, h2, h3, h4, h5, rfl⟩ := h
  exact ⟨dg_range h2 (numO_range F m) h4 h3 h5, dg_small _ _ _ _⟩
end Go.Proofs.YtbdocgddidcfeaaDoor
