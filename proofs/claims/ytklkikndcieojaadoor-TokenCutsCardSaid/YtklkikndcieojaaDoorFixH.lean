/- strings.Trim of digits; doubling a row of digits, plain. -/
import Derived.Test.YtklkikndcieojaaDoorFixG
namespace Go.Proofs.YtklkikndcieojaaDoor
open Go.RowKit Go.Proofs.YtklkikndcieojaaDoorW.PrintWords Go.Proofs.YtklkikndcieojaaDoorW.PrintLast Go.Proofs.YtklkikndcieojaaDoorW.PrintMore
set_option linter.unusedVariables false
set_option linter.unusedSimpArgs false

/-! ### Trim -/
theorem mem_dropWhile {p : UInt8 → Bool} {x : UInt8} (hx : p x = false) : ∀ {l : List UInt8}, x ∈ l → x ∈ l.dropWhile p
  | [], h => h
  | y :: l, h => by
    by_cases hy : p y = true
    · rw [List.dropWhile_cons_of_pos hy]
      rcases List.mem_cons.1 h with e | h
      · subst e; rw [hx] at hy; cases hy
      · exact mem_dropWhile hx h
    · rw [List.dropWhile_cons_of_neg hy]; exact h
theorem dropWhile_all {p : UInt8 → Bool} : ∀ {l : List UInt8}, (∀ x ∈ l, p x = true) → l.dropWhile p = []
  | [], _ => rfl
  | y :: l, h => by
    rw [List.dropWhile_cons_of_pos (h y (by simp))]
    exact dropWhile_all (fun x hx => h x (by simp [hx]))
def digSet : List UInt8 := [48, 49, 50, 51, 52, 53, 54, 55, 56, 57]
theorem trim_all {l : List UInt8} (h : ∀ x ∈ l, digSet.contains x = true) : Lib.trimS l digSet = [] := by
  unfold Lib.trimS Lib.trimRightS Lib.trimLeftS
  rw [dropWhile_all (l := l.reverse) (fun x hx => h x (by simpa using hx))]
  rfl
theorem trim_some {l : List UInt8} {x : UInt8} (hx : x ∈ l) (hn : digSet.contains x = false) : Lib.trimS l digSet ≠ [] := by
  unfold Lib.trimS Lib.trimRightS Lib.trimLeftS
  have h1 : x ∈ (l.reverse.dropWhile (digSet.contains ·)).reverse := by
    rw [List.mem_reverse]
    exact mem_dropWhile (p := (digSet.contains ·)) hn (by simpa using hx)
  have h2 := mem_dropWhile (p := (digSet.contains ·)) hn h1
  intro e
  rw [e] at h2
  cases h2
set_option maxRecDepth 100000 in
theorem digSet_iff (x : UInt8) : digSet.contains x = true ↔ 48 ≤ (x.toNat : Int) ∧ (x.toNat : Int) ≤ 57 := by
  have hall : ∀ n : Nat, n < 256 → (digSet.contains (UInt8.ofNat n) = true ↔ 48 ≤ n ∧ n ≤ 57) := by decide
  have := hall x.toNat x.toNat_lt
  rw [UInt8.ofNat_toNat] at this
  rw [this]; omega
theorem digs_iff (s : ByteArray) : Digs (bytesOf s) ↔ ∀ x ∈ s.data.toList, digSet.contains x = true := by
  unfold Digs bytesOf
  constructor
  · intro h x hx
    exact (digSet_iff x).2 (h (x.toNat : Int) (List.mem_map.2 ⟨x, hx, rfl⟩))
  · intro h c hc
    obtain ⟨x, hx, rfl⟩ := List.mem_map.1 hc
    exact (digSet_iff x).1 (h x hx)
set_option maxHeartbeats 1000000 in
set_option maxRecDepth 100000 in
theorem Trim_yes (s : ByteArray) (w : World) (hs : s.size ≤ 9223372036854775807) (h : Digs (bytesOf s)) :
    Calls Tryd.prog 43 #[.string s, .string ⟨#[48, 49, 50, 51, 52, 53, 54, 55, 56, 57]⟩] w fun e w' => e = .returned (.string ⟨#[]⟩) ∧ Below w.heap.size w w' := by
  have hcon := Any.strings_Trim_laid Tryd.lays160 (by kernel_rfl) s ⟨#[48, 49, 50, 51, 52, 53, 54, 55, 56, 57]⟩ w hs (by decide) (ascii_of_all (by decide))
  refine Calls.mono (P := Tryd.prog) (f := 43) hcon ?_
  rintro e w' ⟨rfl, hb⟩
  refine ⟨?_, hb⟩
  have := trim_all ((digs_iff s).1 h)
  unfold digSet at this
  rw [this]
set_option maxHeartbeats 1000000 in
set_option maxRecDepth 100000 in
theorem Trim_no (s : ByteArray) (w : World) (hs : s.size ≤ 9223372036854775807) (h : ¬ Digs (bytesOf s)) :
    Calls Tryd.prog 43 #[.string s, .string ⟨#[48, 49, 50, 51, 52, 53, 54, 55, 56, 57]⟩] w fun e w' => ∃ t : ByteArray, e = .returned (.string t) ∧ (t.toList == []) = false ∧ Below w.heap.size w w' := by
  have hcon := Any.strings_Trim_laid Tryd.lays160 (by kernel_rfl) s ⟨#[48, 49, 50, 51, 52, 53, 54, 55, 56, 57]⟩ w hs (by decide) (ascii_of_all (by decide))
  refine Calls.mono (P := Tryd.prog) (f := 43) hcon ?_
  rintro e w' ⟨rfl, hb⟩
  refine ⟨_, rfl, ?_, hb⟩
  rw [digs_iff] at h
  have h' : ∃ x ∈ s.data.toList, digSet.contains x = false := by
    apply Classical.byContradiction
    intro hne
    apply h
    intro x hx
    cases hc : digSet.contains x with
    | true => rfl
    | false => exact absurd ⟨x, hx, hc⟩ hne
  obtain ⟨x, hx, hc⟩ := h'
  have hne := trim_some hx hc
  unfold digSet at hne
  rw [beq_eq_false_iff_ne, Lib.toList_data]
  simpa using hne

/-! ### double -/
def dblA : List Int → Int → Int × List Int
  | [], c => (c, [])
  | x :: t, c => ((2 * x + (dblA t c).1) / 10, (2 * x + (dblA t c).1) % 10 :: (dblA t c).2)
theorem dblA_snoc (x c : Int) : ∀ a : List Int, dblA (a ++ [x]) c = ((dblA a ((2 * x + c) / 10)).1, (dblA a ((2 * x + c) / 10)).2 ++ [(2 * x + c) % 10])
  | [] => rfl
  | y :: a => by simp only [List.cons_append, dblA, dblA_snoc x c a]
theorem dblA_c {c : Int} (hc : 0 ≤ c ∧ c ≤ 1) : ∀ {a : List Int}, (∀ x ∈ a, 0 ≤ x ∧ x ≤ 9) → 0 ≤ (dblA a c).1 ∧ (dblA a c).1 ≤ 1
  | [], _ => hc
  | y :: a, h => by
    have ih := dblA_c hc (a := a) (fun x hx => h x (by simp [hx]))
    have hy := h y (by simp)
    simp only [dblA]; omega
theorem dblA_dig {c : Int} (hc : 0 ≤ c ∧ c ≤ 1) : ∀ {a : List Int}, (∀ x ∈ a, 0 ≤ x ∧ x ≤ 9) → ∀ x ∈ (dblA a c).2, 0 ≤ x ∧ x ≤ 9
  | [], _ => by simp [dblA]
  | y :: a, h => by
    have ih := dblA_dig hc (a := a) (fun x hx => h x (by simp [hx]))
    intro x hx
    simp only [dblA] at hx
    rcases List.mem_cons.1 hx with e | hx
    · subst e; omega
    · exact ih x hx
theorem dblA_len (c : Int) : ∀ a : List Int, (dblA a c).2.length = a.length
  | [] => rfl
  | y :: a => by simp [dblA, dblA_len c a]
/-- the value of a row of digits. -/
def valD : List Int → Int
  | [] => 0
  | x :: t => x * 10 ^ t.length + valD t
theorem dblA_val (c : Int) : ∀ a : List Int, 2 * valD a + c = (dblA a c).1 * 10 ^ a.length + valD (dblA a c).2
  | [] => by simp [dblA, valD]
  | y :: a => by
    have ih := dblA_val c a
    simp only [dblA, valD, dblA_len, List.length_cons]
    have e := Int.mul_ediv_add_emod (2 * y + (dblA a c).1) 10
    have e2 : (2 * y + (dblA a c).1) / 10 * (10 : Int) ^ (a.length + 1) = (10 * ((2 * y + (dblA a c).1) / 10)) * 10 ^ a.length := by rw [Int.pow_succ]; grind
    rw [e2]
    have e3 : 2 * (y * 10 ^ a.length + valD a) + c = (2 * y) * 10 ^ a.length + (2 * valD a + c) := by grind
    rw [e3, ih]
    have e4 : 2 * y + (dblA a c).1 = 10 * ((2 * y + (dblA a c).1) / 10) + (2 * y + (dblA a c).1) % 10 := e.symm
    generalize (2 * y + (dblA a c).1) / 10 = q at e4 ⊢
    generalize (2 * y + (dblA a c).1) % 10 = r at e4 ⊢
    have e5 : (dblA a c).1 = 10 * q + r - 2 * y := by omega
    rw [e5]
    grind
theorem valD_lt : ∀ {a : List Int}, (∀ x ∈ a, 0 ≤ x ∧ x ≤ 9) → 0 ≤ valD a ∧ valD a < 10 ^ a.length
  | [], _ => by simp [valD]
  | y :: a, h => by
    have ih := valD_lt (a := a) (fun x hx => h x (by simp [hx]))
    have hy := h y (by simp)
    simp only [valD, List.length_cons, Int.pow_succ]
    have hp : (0 : Int) < 10 ^ a.length := by omega
    have h1 : y * 10 ^ a.length ≤ 9 * 10 ^ a.length := Int.mul_le_mul_of_nonneg_right hy.2 (by omega)
    have h2 : 0 ≤ y * 10 ^ a.length := Int.mul_nonneg hy.1 (by omega)
    omega
theorem wrap64_in {x : Int} (h0 : -9223372036854775808 ≤ x) (h1 : x ≤ 9223372036854775807) : wrap64 x = x := by
  rw [wrap64_eq]; omega
open PTk in
theorem dbl_l0 : ∀ (n : Nat) (a t : List Int) (c : Int) (k : Nat), a.length = n → n < k → n < 1000000 → (∀ x ∈ a, 0 ≤ x ∧ x ≤ 9) → 0 ≤ c ∧ c ≤ 1 →
    fix_double.l0 k (a ++ t) c ((n : Int) - 1) = some ((dblA a c).1, (dblA a c).2 ++ t)
  | n, a, t, c, 0, hn, hk, _, _, _ => absurd hk (by omega)
  | 0, a, t, c, k + 1, hn, hk, hb, hd, hc => by
    have : a = [] := List.length_eq_zero_iff.1 hn
    subst this
    unfold fix_double.l0
    rw [if_neg (by omega)]
    simp only [dblA, List.nil_append, IntKind.wrap_u64]
    rw [Int.emod_eq_of_lt (by omega) (by omega)]
  | n + 1, a, t, c, k + 1, hn, hk, hb, hd, hc => by
    rcases List.eq_nil_or_concat a with rfl | ⟨a0, x, rfl⟩
    · simp at hn
    · have hl : a0.length = n := by simpa using hn
      have hx := hd x (by simp)
      unfold fix_double.l0
      rw [show (((n + 1 : Nat) : Int) - 1) = (n : Int) by omega, if_pos (by omega), if_pos (by omega), if_pos (by simp; omega)]
      have hrd : rd (a0.concat x ++ t) (n : Int) = x := by
        rw [List.concat_eq_append]
        rw [rd_get' (l := a0 ++ [x] ++ t) (i := n) (by simp; omega)]
        subst hl
        simp
      rw [hrd, wrap64_in (by omega) (by omega), show ((n : Int)).toNat = n by omega]
      have hset : (a0.concat x ++ t).set n ((2 * x % 256 + c) % 256 % 10) = a0 ++ ((2 * x + c) % 10 :: t) := by
        rw [List.concat_eq_append]
        subst hl
        rw [show (2 * x % 256 + c) % 256 % 10 = (2 * x + c) % 10 by omega]
        simp
      rw [hset, show (2 * x % 256 + c) % 256 / 10 = (2 * x + c) / 10 by omega]
      rw [dbl_l0 n a0 _ _ k hl (by omega) (by omega) (fun y hy => hd y (by simp [hy])) (by omega)]
      rw [List.concat_eq_append, dblA_snoc]
      simp
open PTk in
theorem dbl_f (l : List Int) (hl : l.length < 1000000) (hd : ∀ x ∈ l, 0 ≤ x ∧ x ≤ 9) : fix_double.f (l.length + 1) l = some (dblA l 0) := by
  have := dbl_l0 l.length l [] 0 (l.length + 1) rfl (by omega) hl hd (by omega)
  unfold fix_double.f
  rw [wrap64_in (by omega) (by omega)]
  simpa using this
theorem valD_numV : ∀ (l : List Int) (n : Int), numV n l = n * 10 ^ l.length + valD (l.map (· - 48))
  | [], n => by simp [numV, valD]
  | c :: l, n => by
    rw [numV_cons, valD_numV l]
    simp only [List.map_cons, valD, List.length_cons, List.length_map, Int.pow_succ]
    grind
end Go.Proofs.YtklkikndcieojaaDoor
