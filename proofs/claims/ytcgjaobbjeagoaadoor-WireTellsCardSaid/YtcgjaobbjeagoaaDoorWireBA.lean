/- The sum tells bytes that are turned: the plain law. -/
import Derived.Test.YtcgjaobbjeagoaaDoorWireY
namespace Go.Proofs.YtcgjaobbjeagoaaDoor
open Go.RowKit Go.Proofs.YtcgjaobbjeagoaaDoorW.PrintWords Go.Proofs.YtcgjaobbjeagoaaDoorW.PrintLast Go.Proofs.YtcgjaobbjeagoaaDoorW.PrintMore
set_option linter.unusedVariables false
set_option linter.unusedSimpArgs false

theorem hi_bit (a : Nat) (h : a < 2147483648) : 2147483648 ≤ a ^^^ 3988292384 := by
  have h1 : (a ^^^ 3988292384) / 2147483648 = a / 2147483648 ^^^ 3988292384 / 2147483648 := Nat.xor_div_two_pow (n := 31)
  rw [show a / 2147483648 = 0 by omega] at h1
  have h2 : (0 : Nat) ^^^ 3988292384 / 2147483648 = 1 := by decide
  omega
theorem xor_cancel {a b c : Nat} (h : a ^^^ c = b ^^^ c) : a = b := by
  have := congrArg (· ^^^ c) h
  simpa [Nat.xor_assoc] using this
theorem xor_cancel_left {a b c : Nat} (h : c ^^^ a = c ^^^ b) : a = b := by
  rw [Nat.xor_comm c a, Nat.xor_comm c b] at h
  exact xor_cancel h
theorem bN_inj {s t : Nat} (hs : s < 4294967296) (ht : t < 4294967296) (h : bN s = bN t) : s = t := by
  unfold bN at h
  by_cases a : s % 2 = 1 <;> by_cases b : t % 2 = 1
  · rw [if_pos a, if_pos b] at h
    have := xor_cancel h
    omega
  · rw [if_pos a, if_neg b] at h
    have := hi_bit (s / 2) (by omega)
    omega
  · rw [if_neg a, if_pos b] at h
    have := hi_bit (t / 2) (by omega)
    omega
  · rw [if_neg a, if_neg b] at h
    omega
theorem nstepN_inj {s t : Nat} (hs : s < 4294967296) (ht : t < 4294967296) (h : nstepN s = nstepN t) : s = t := by
  rw [← bN_four, ← bN_four] at h
  have a1 := bN_lt _ hs; have a2 := bN_lt _ a1; have a3 := bN_lt _ a2
  have b1 := bN_lt _ ht; have b2 := bN_lt _ b1; have b3 := bN_lt _ b2
  exact bN_inj hs ht (bN_inj a1 b1 (bN_inj a2 b2 (bN_inj a3 b3 h)))
theorem T8_lt (s : Nat) (h : s < 4294967296) : T8 s < 4294967296 := nstepN_lt _ (nstepN_lt _ h)
theorem T8_inj {s t : Nat} (hs : s < 4294967296) (ht : t < 4294967296) (h : T8 s = T8 t) : s = t := nstepN_inj hs ht (nstepN_inj (nstepN_lt _ hs) (nstepN_lt _ ht) h)
theorem T8_high (c y : Nat) : T8 (256 * c ^^^ y) = c ^^^ T8 y := by
  unfold T8
  rw [show 256 * c = 16 * (16 * c) by omega, nstepN_high, nstepN_high]
theorem mul_xor256 (a b : Nat) : 256 * (a ^^^ b) = 256 * a ^^^ 256 * b := by
  have h := Nat.shiftLeft_xor_distrib (a := a) (b := b) (i := 8)
  simp only [Nat.shiftLeft_eq] at h
  rw [show (2 : Nat) ^ 8 = 256 by rfl] at h
  rw [Nat.mul_comm 256, h, Nat.mul_comm a, Nat.mul_comm b]
/-- Four bytes go in as one word. -/
def word (a b c d : Nat) : Nat := a ^^^ 256 * (b ^^^ 256 * (c ^^^ 256 * d))
theorem four_steps (s a b c d : Nat) : sstepN (sstepN (sstepN (sstepN s a) b) c) d = T8 (T8 (T8 (T8 (s ^^^ word a b c d)))) := by
  unfold sstepN word
  have e1 : s ^^^ (a ^^^ 256 * (b ^^^ 256 * (c ^^^ 256 * d))) = 256 * (b ^^^ 256 * (c ^^^ 256 * d)) ^^^ (s ^^^ a) := by
    rw [← Nat.xor_assoc, Nat.xor_comm]
  rw [e1, T8_high]
  have e2 : (b ^^^ 256 * (c ^^^ 256 * d)) ^^^ T8 (s ^^^ a) = 256 * (c ^^^ 256 * d) ^^^ (T8 (s ^^^ a) ^^^ b) := by
    rw [Nat.xor_comm b, Nat.xor_assoc, Nat.xor_comm b]
  rw [e2, T8_high]
  have e3 : (c ^^^ 256 * d) ^^^ T8 (T8 (s ^^^ a) ^^^ b) = 256 * d ^^^ (T8 (T8 (s ^^^ a) ^^^ b) ^^^ c) := by
    rw [Nat.xor_comm c, Nat.xor_assoc, Nat.xor_comm c]
  rw [e3, T8_high, Nat.xor_comm d]
theorem xor_byte {a b x y : Nat} (ha : a < 256) (hb : b < 256) (h : a ^^^ 256 * x = b ^^^ 256 * y) : a = b ∧ x = y := by
  have m := congrArg (· % 256) h
  have q := congrArg (· / 256) h
  simp only [xmod256, xdiv256] at m q
  rw [show 256 * x % 256 = 0 by omega, show 256 * y % 256 = 0 by omega, Nat.xor_zero, Nat.xor_zero] at m
  rw [show a / 256 = 0 by omega, show b / 256 = 0 by omega, show 256 * x / 256 = x by omega, show 256 * y / 256 = y by omega, Nat.zero_xor, Nat.zero_xor] at q
  exact ⟨by omega, q⟩
theorem word_lt {a b c d : Nat} (ha : a < 256) (hb : b < 256) (hc : c < 256) (hd : d < 256) : word a b c d < 4294967296 := by
  have h1 : c ^^^ 256 * d < 65536 := Nat.xor_lt_two_pow (n := 16) (by omega) (by omega)
  have h2 : b ^^^ 256 * (c ^^^ 256 * d) < 16777216 := Nat.xor_lt_two_pow (n := 24) (by omega) (by omega)
  exact Nat.xor_lt_two_pow (n := 32) (by omega) (by omega)
theorem four_inj {s a b c d a' b' c' d' : Nat} (hs : s < 4294967296) (ha : a < 256) (hb : b < 256) (hc : c < 256) (hd : d < 256) (ha' : a' < 256) (hb' : b' < 256) (hc' : c' < 256) (hd' : d' < 256)
    (h : sstepN (sstepN (sstepN (sstepN s a) b) c) d = sstepN (sstepN (sstepN (sstepN s a') b') c') d') : a = a' ∧ b = b' ∧ c = c' ∧ d = d' := by
  rw [four_steps, four_steps] at h
  have w1 := word_lt ha hb hc hd; have w2 := word_lt ha' hb' hc' hd'
  have x1 : s ^^^ word a b c d < 4294967296 := Nat.xor_lt_two_pow (n := 32) (by omega) (by omega)
  have x2 : s ^^^ word a' b' c' d' < 4294967296 := Nat.xor_lt_two_pow (n := 32) (by omega) (by omega)
  have t1 := T8_lt _ x1; have t2 := T8_lt _ t1; have t3 := T8_lt _ t2
  have u1 := T8_lt _ x2; have u2 := T8_lt _ u1; have u3 := T8_lt _ u2
  have h4 := xor_cancel_left (T8_inj x1 x2 (T8_inj t1 u1 (T8_inj t2 u2 (T8_inj t3 u3 h))))
  obtain ⟨r1, h5⟩ := xor_byte ha ha' h4
  obtain ⟨r2, h6⟩ := xor_byte hb hb' h5
  obtain ⟨r3, h7⟩ := xor_byte hc hc' h6
  exact ⟨r1, r2, r3, h7⟩
theorem sstep_inj {s t c : Int} (hs : 0 ≤ s ∧ s < 4294967296) (ht : 0 ≤ t ∧ t < 4294967296) (hc : 0 ≤ c ∧ c < 256) (h : sstep s c = sstep t c) : s = t := by
  obtain ⟨s, rfl⟩ : ∃ n : Nat, s = (n : Int) := ⟨s.toNat, by omega⟩
  obtain ⟨t, rfl⟩ : ∃ n : Nat, t = (n : Int) := ⟨t.toNat, by omega⟩
  obtain ⟨c, rfl⟩ : ∃ n : Nat, c = (n : Int) := ⟨c.toNat, by omega⟩
  have hs' : s < 4294967296 := by omega
  have ht' : t < 4294967296 := by omega
  have hc' : c < 4294967296 := by omega
  rw [sstep_cast s c hs' hc', sstep_cast t c ht' hc'] at h
  have h2 : sstepN s c = sstepN t c := by omega
  have x1 : s ^^^ c < 4294967296 := Nat.xor_lt_two_pow (n := 32) hs' hc'
  have x2 : t ^^^ c < 4294967296 := Nat.xor_lt_two_pow (n := 32) ht' hc'
  have := xor_cancel (T8_inj x1 x2 h2)
  omega
theorem foldl_inj : ∀ (R : List Int) (s t : Int), (∀ x ∈ R, 0 ≤ x ∧ x < 256) → (0 ≤ s ∧ s < 4294967296) → (0 ≤ t ∧ t < 4294967296) → R.foldl sstep s = R.foldl sstep t → s = t
  | [], s, t, _, _, _, h => h
  | c :: R, s, t, hR, hs, ht, h =>
    sstep_inj hs ht (hR c (by simp)) (foldl_inj R _ _ (fun x hx => hR x (by simp [hx])) (sstep_range s c) (sstep_range t c) h)
theorem four_fold {s a b c d a' b' c' d' : Int} (hs : 0 ≤ s ∧ s < 4294967296) (ha : 0 ≤ a ∧ a < 256) (hb : 0 ≤ b ∧ b < 256) (hc : 0 ≤ c ∧ c < 256) (hd : 0 ≤ d ∧ d < 256)
    (ha' : 0 ≤ a' ∧ a' < 256) (hb' : 0 ≤ b' ∧ b' < 256) (hc' : 0 ≤ c' ∧ c' < 256) (hd' : 0 ≤ d' ∧ d' < 256)
    (h : sstep (sstep (sstep (sstep s a) b) c) d = sstep (sstep (sstep (sstep s a') b') c') d') : a = a' ∧ b = b' ∧ c = c' ∧ d = d' := by
  obtain ⟨s, rfl⟩ : ∃ n : Nat, s = (n : Int) := ⟨s.toNat, by omega⟩
  obtain ⟨a, rfl⟩ : ∃ n : Nat, a = (n : Int) := ⟨a.toNat, by omega⟩
  obtain ⟨b, rfl⟩ : ∃ n : Nat, b = (n : Int) := ⟨b.toNat, by omega⟩
  obtain ⟨c, rfl⟩ : ∃ n : Nat, c = (n : Int) := ⟨c.toNat, by omega⟩
  obtain ⟨d, rfl⟩ : ∃ n : Nat, d = (n : Int) := ⟨d.toNat, by omega⟩
  obtain ⟨a', rfl⟩ : ∃ n : Nat, a' = (n : Int) := ⟨a'.toNat, by omega⟩
  obtain ⟨b', rfl⟩ : ∃ n : Nat, b' = (n : Int) := ⟨b'.toNat, by omega⟩
  obtain ⟨c', rfl⟩ : ∃ n : Nat, c' = (n : Int) := ⟨c'.toNat, by omega⟩
  obtain ⟨d', rfl⟩ : ∃ n : Nat, d' = (n : Int) := ⟨d'.toNat, by omega⟩
  have hsn : s < 4294967296 := by omega
  have l1 := sstepN_lt s a hsn (by omega); have l2 := sstepN_lt _ b l1 (by omega); have l3 := sstepN_lt _ c l2 (by omega)
  have m1 := sstepN_lt s a' hsn (by omega); have m2 := sstepN_lt _ b' m1 (by omega); have m3 := sstepN_lt _ c' m2 (by omega)
  rw [sstep_cast s a hsn (by omega), sstep_cast _ b l1 (by omega), sstep_cast _ c l2 (by omega), sstep_cast _ d l3 (by omega),
    sstep_cast s a' hsn (by omega), sstep_cast _ b' m1 (by omega), sstep_cast _ c' m2 (by omega), sstep_cast _ d' m3 (by omega)] at h
  have h2 := four_inj hsn (by omega) (by omega) (by omega) (by omega) (by omega) (by omega) (by omega) (by omega) (show sstepN (sstepN (sstepN (sstepN s a) b) c) d = sstepN (sstepN (sstepN (sstepN s a') b') c') d' by omega)
  omega
theorem sum_inj {pre suf : List Int} {a b c d a' b' c' d' : Int} (hp : ∀ x ∈ pre, 0 ≤ x ∧ x < 256) (hsf : ∀ x ∈ suf, 0 ≤ x ∧ x < 256)
    (ha : 0 ≤ a ∧ a < 256) (hb : 0 ≤ b ∧ b < 256) (hc : 0 ≤ c ∧ c < 256) (hd : 0 ≤ d ∧ d < 256)
    (ha' : 0 ≤ a' ∧ a' < 256) (hb' : 0 ≤ b' ∧ b' < 256) (hc' : 0 ≤ c' ∧ c' < 256) (hd' : 0 ≤ d' ∧ d' < 256)
    (h : sumF (pre ++ (a :: b :: c :: d :: suf)) = sumF (pre ++ (a' :: b' :: c' :: d' :: suf))) : a = a' ∧ b = b' ∧ c = c' ∧ d = d' := by
  unfold sumF at h
  have h2 : (pre ++ (a :: b :: c :: d :: suf)).foldl sstep 4294967295 = (pre ++ (a' :: b' :: c' :: d' :: suf)).foldl sstep 4294967295 := by omega
  rw [List.foldl_append, List.foldl_append] at h2
  simp only [List.foldl_cons] at h2
  have hs := fold_range pre 4294967295 (by decide) (by decide)
  exact four_fold hs ha hb hc hd ha' hb' hc' hd' (foldl_inj suf _ _ hsf (sstep_range _ _) (sstep_range _ _) h2)
theorem opF_frame (l : List Int) : opF (frameF l) = (l, true) := by
  have hl := frameF_len l
  have ht : (frameF l).take ((frameF l).length - 4) = l := by
    rw [hl, show l.length + 4 - 4 = l.length by omega]
    unfold frameF
    exact List.take_left' rfl
  unfold opF
  rw [if_neg (by omega), ht, if_pos rfl]
/-- A frame opens as long as none of four bytes beside each other is another. -/
theorem opF_turned {l pre suf : List Int} {a b c d a' b' c' d' : Int} (hf : frameF l = pre ++ (a :: b :: c :: d :: suf)) (hl : ∀ x ∈ l, 0 ≤ x ∧ x < 256)
    (ha' : 0 ≤ a' ∧ a' < 256) (hb' : 0 ≤ b' ∧ b' < 256) (hc' : 0 ≤ c' ∧ c' < 256) (hd' : 0 ≤ d' ∧ d' < 256) :
    (opF (pre ++ (a' :: b' :: c' :: d' :: suf))).2 = decide (a = a' ∧ b = b' ∧ c = c' ∧ d = d') := by
  have hr := frameF_range l hl
  rw [hf] at hr
  have hp : ∀ x ∈ pre, 0 ≤ x ∧ x < 256 := fun x hx => hr x (List.mem_append_left _ hx)
  have hq : ∀ x ∈ a :: b :: c :: d :: suf, 0 ≤ x ∧ x < 256 := fun x hx => hr x (List.mem_append_right _ hx)
  by_cases he : a = a' ∧ b = b' ∧ c = c' ∧ d = d'
  · obtain ⟨rfl, rfl, rfl, rfl⟩ := he
    rw [← hf, opF_frame]
    simp
  · rw [decide_eq_false he]
    unfold opF
    split
    · rfl
    · split
      · rename_i hx
        have hs := sum_frame ((pre ++ (a' :: b' :: c' :: d' :: suf)).take ((pre ++ (a' :: b' :: c' :: d' :: suf)).length - 4))
        rw [hx, ← sum_frame l, hf] at hs
        exact absurd (sum_inj hp (fun x hx => hq x (by simp [hx])) (hq a (by simp)) (hq b (by simp)) (hq c (by simp)) (hq d (by simp)) ha' hb' hc' hd' hs.symm) he
      · rfl
end Go.Proofs.YtcgjaobbjeagoaaDoor
