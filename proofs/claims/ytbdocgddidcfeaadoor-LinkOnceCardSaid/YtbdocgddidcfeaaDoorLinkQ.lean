/- LinkNewer: of two numbers just one is newer. -/
import Derived.Test.YtbdocgddidcfeaaDoorLinkP
namespace Go.Proofs.YtbdocgddidcfeaaDoor
open Go.RowKit Go.Proofs.YtbdocgddidcfeaaDoorW.PrintWords Go.Proofs.YtbdocgddidcfeaaDoorW.PrintLast Go.Proofs.YtbdocgddidcfeaaDoorW.PrintMore
set_option linter.unusedVariables false
set_option linter.unusedSimpArgs false

theorem and_65535 (z : Int) : bits .and .i64 z 65535 = z % 65536 := by
  show IntKind.i64.wrap (((BitVec.ofInt 64 z) &&& (BitVec.ofInt 64 65535)).toNat : Int) = z % 65536
  rw [BitVec.toNat_and, show (BitVec.ofInt 64 65535).toNat = 2 ^ 16 - 1 by decide, Nat.and_two_pow_sub_one_eq_mod, IntKind.wrap_i64, BitVec.toNat_ofInt]
  have h : (((z % (2 ^ 64 : Nat)).toNat % 2 ^ 16 : Nat) : Int) = z % 65536 := by
    have : (0 : Int) ≤ z % (2 ^ 64 : Nat) := Int.emod_nonneg _ (by decide)
    rw [Int.natCast_emod, Int.toNat_of_nonneg this]
    show z % 18446744073709551616 % 65536 = z % 65536
    omega
  rw [h]
  omega
theorem newer_one (a b : Int) : ((a % 65536 - b % 65536) % 65536 = 0 ∨ (a % 65536 - b % 65536) % 65536 = 32768) → newerF a b = false ∧ newerF b a = false := by
  unfold newerF
  intro h
  exact ⟨decide_eq_false (by omega), decide_eq_false (by omega)⟩
theorem newer_two (a b : Int) : (a % 65536 - b % 65536) % 65536 ≠ 0 → (a % 65536 - b % 65536) % 65536 ≠ 32768 → newerF a b = !newerF b a := by
  unfold newerF
  intro h1 h2
  by_cases h : (a - b - 1) % 65536 < 32767
  · rw [decide_eq_true h, decide_eq_false (by omega)]; rfl
  · rw [decide_eq_false h, decide_eq_true (by omega)]; rfl
set_option maxHeartbeats 4000000 in
set_option maxRecDepth 100000 in
theorem LinkNewer_calls (a b : Int) (w : World) (hT : Tab w) (ha : -9223372036854775808 ≤ a ∧ a ≤ 9223372036854775807) (hb : -9223372036854775808 ≤ b ∧ b ≤ 9223372036854775807) :
    Calls Tryd.prog 3 #[.int .i64 a, .int .i64 b] w fun e w' => e = .returned (.bool true) ∧ Below w.heap.size w w' := by
  have HT := Aside0.mk hT
  clear hT
  have h1 := and_65535 a
  have h2 := and_65535 b
  have h3 := and_65535 (a % 65536 - b % 65536)
  have r1 : 0 ≤ a % 65536 ∧ a % 65536 < 65536 := by omega
  have r2 : 0 ≤ b % 65536 ∧ b % 65536 < 65536 := by omega
  obtain ⟨a', ha'⟩ : ∃ a', a' = a % 65536 := ⟨_, rfl⟩
  obtain ⟨b', hb'⟩ : ∃ b', b' = b % 65536 := ⟨_, rfl⟩
  have hn := newerF_mod a b
  have ho := newer_one a b
  have ht := newer_two a b
  rw [← ha', ← hb'] at hn ho ht h3
  rw [← ha'] at r1 h1
  rw [← hb'] at r2 h2
  have hap : 0 ≤ (a' - b') % 65536 := by omega
  have hap2 : (a' - b') % 65536 < 65536 := by omega
  obtain ⟨k, hk⟩ : ∃ k, k = (a' - b') % 65536 := ⟨_, rfl⟩
  rw [← hk] at hap hap2 ho ht h3
  have HN := Aside0.mk hn; have HO := Aside0.mk ho; have HTT := Aside0.mk ht
  clear hn ho ht ha' hb' hk ha hb
  have close : ∀ (p q : Bool), newerF a b = p → newerF b a = q → (if k = 0 ∨ k = 32768 then p = false ∧ q = false else p = !q) → Calls Tryd.prog 3 #[.int .i64 a, .int .i64 b] w fun e w' => e = .returned (.bool true) ∧ Below w.heap.size w w' := by
    intro p q hp hq hpq
    have HP := Aside0.mk hp; have HQ := Aside0.mk hq
    clear hp hq
    go_enter Tryd.func3, Tryd.ntmps3
    go_wp2_with fail
    ((with_reducible refine (awake_calls w HT.out).mono ?_); rintro e_ W1 ⟨rfl, hb1⟩)
    go_wp2_with fail
    ((with_reducible refine (Newer_calls _ _ _).mono ?_); rintro e_ W2 ⟨rfl, rfl⟩)
    rw [HP.out]
    go_wp2_with fail
    ((with_reducible refine (Newer_calls _ _ _).mono ?_); rintro e_ W3 ⟨rfl, rfl⟩)
    rw [HQ.out]
    have HB := Aside0.mk hb1
    clear hb1
    by_cases hk0 : k = 0 ∨ k = 32768
    · rw [if_pos hk0] at hpq
      obtain ⟨rfl, rfl⟩ := hpq
      have e2 : (k == 0) = true ∨ ((k == 0) = false ∧ (k == 32768) = true) := by
        by_cases h : k = 0
        · exact .inl (by simpa using h)
        · exact .inr ⟨by simpa using h, by simp; omega⟩
      rcases e2 with e2 | ⟨e2, e3⟩
      all_goals
        go_wp2_with fail
        ((with_reducible refine (Newer_calls _ _ _).mono ?_); rintro e_ W4 ⟨rfl, rfl⟩)
        rw [HN.out, HP.out]
        go_wp2
        go_ret
        exact ⟨rfl, HB.out⟩
    · rw [if_neg hk0] at hpq
      have e2 : (k == 0) = false := by simp; omega
      have e3 : (k == 32768) = false := by simp; omega
      clear hk0
      subst hpq
      cases q
      all_goals
        go_wp2_with fail
        ((with_reducible refine (Newer_calls _ _ _).mono ?_); rintro e_ W4 ⟨rfl, rfl⟩)
        rw [HN.out, HP.out]
        go_wp2
        go_ret
        exact ⟨rfl, HB.out⟩
  refine close _ _ rfl rfl ?_
  split
  · rename_i h; exact HO.out h
  · rename_i h; exact HTT.out (fun e => h (.inl e)) (fun e => h (.inr e))
end Go.Proofs.YtbdocgddidcfeaaDoor
