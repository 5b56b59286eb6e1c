/- Parse. -/
import Derived.Test.YtklkikndcieojaaDoorFixH
import Derived.ScopeJumps
import Derived.WalkMore
namespace Go.Proofs.YtklkikndcieojaaDoor
open Go.RowKit Go.Proofs.YtklkikndcieojaaDoorW.PrintWords Go.Proofs.YtklkikndcieojaaDoorW.PrintLast Go.Proofs.YtklkikndcieojaaDoorW.PrintMore
set_option linter.unusedVariables false
set_option linter.unusedSimpArgs false
/-- A scope with jumps forward to one label: the walk goes on behind it. -/
theorem wp_scope_fwd {P : Program} {c rest : Code} {Q : Exit → Act → World → Prop} {a : Act} {w : World} (l : Nat) (hf : findLabel c l = some rest)
    (first : c.wp P (Exit.jump l (fun a' w' => rest.wp P (Exit.jump l (fun _ _ => False) Q) a' w') Q) a w) : (Code.scope c).wp P Q a w :=
  wp_scope_jumps l _ (fun _ _ => 0) hf first (fun a w h => Code.wp_mono (fun e a w h => by
    cases e with
    | goto l' => exact ⟨h.1, h.2.elim⟩
    | _ => exact h) h)
abbrev Bt := @Go.Proofs.YtklkikndcieojaaDoorW.PrintWords.bt
def GoodP (a b : ByteArray) : Prop := 1 ≤ a.size ∧ a.size ≤ 10 ∧ 1 ≤ b.size ∧ b.size ≤ 32 ∧ ¬ (Bt a 0 = 48 ∧ 1 < a.size) ∧ Digs (bytesOf a) ∧ Digs (bytesOf b) ∧ numV 0 (bytesOf a) ≤ 2147483647
def fracF (b : ByteArray) : Int := numV 0 (bytesOf b) * 4294967296 / 10 ^ b.size
theorem bytesOf_append (a b : ByteArray) : bytesOf (a ++ b) = bytesOf a ++ bytesOf b := by simp [bytesOf, ByteArray.data_append]
theorem digs_append (a b : ByteArray) : Digs (bytesOf (a ++ b)) ↔ Digs (bytesOf a) ∧ Digs (bytesOf b) := by
  rw [bytesOf_append]; unfold Digs
  constructor
  · intro h; exact ⟨fun c hc => h c (List.mem_append.2 (.inl hc)), fun c hc => h c (List.mem_append.2 (.inr hc))⟩
  · rintro ⟨h1, h2⟩ c hc
    rcases List.mem_append.1 hc with h | h
    · exact h1 c h
    · exact h2 c h
def ParseBad (w : World) (e : Ending) (w' : World) : Prop := e = .returned (.tuple #[.int .i64 0, .int .i64 20]) ∧ Below w.heap.size w w'
set_option maxHeartbeats 4000000 in
set_option maxRecDepth 100000 in
theorem Parse_none (s : ByteArray) (w : World) (h : (46 : UInt8) ∉ s.data.toList) :
    Calls Tryd.prog 38 #[.string s] w (ParseBad w) := by
  have hc := Cut_none s w h
  clear h
  go_enter Tryd.func38, Tryd.ntmps38
  go_wp2
  refine wp_scope_fwd 0 rfl ?_
  go_wp2_with fail
  ((with_reducible refine hc.mono ?_); rintro e_ W1 ⟨rfl, rfl⟩)
  clear hc
  go_wp2
  go_step3
  refine ⟨rfl, ?_⟩
  go_wp2
  (try simp only [Exit.jump])
  go_ret2
  exact ⟨rfl, Below.refl _ _⟩
set_option maxHeartbeats 8000000 in
set_option maxRecDepth 100000 in
/-- The texts that are wrong ahead of any library call but Cut. -/
theorem Parse_bad1 (s : ByteArray) (k : Nat) (w : World) (hs : s.size ≤ 140737488355328) (h : Lib.indexByte s.data.toList 46 = (k : Int)) (a b : ByteArray) (ha : a = s.extract 0 k) (hb : b = s.extract (k + 1) s.size)
    (hbad : ¬ (1 ≤ a.size ∧ a.size ≤ 10 ∧ 1 ≤ b.size ∧ b.size ≤ 32 ∧ ¬ (Bt a 0 = 48 ∧ 1 < a.size))) :
    Calls Tryd.prog 38 #[.string s] w (ParseBad w) := by
  have hc := Cut_some s k w hs h
  rw [← ha, ← hb] at hc
  clear ha hb h hs
  by_cases c1 : a.size < 1
  · have d1 : decide ((a.size : Int) < 1) = true := decide_eq_true (by omega)
    have d1n : decide (a.size < 1) = true := decide_eq_true (by omega)
    clear c1 hbad
    go_enter Tryd.func38, Tryd.ntmps38
    go_wp2
    refine wp_scope_fwd 0 rfl ?_
    go_wp2_with fail
    ((with_reducible refine hc.mono ?_); rintro e_ W1 ⟨rfl, n, rfl⟩)
    clear hc
    go_wp2
    go_step3
    refine ⟨rfl, ?_⟩
    go_wp2
    (try simp only [Exit.jump])
    go_ret2
    exact ⟨rfl, pw_below_drewN (Below.refl _ _) _⟩
  have d1 : decide ((a.size : Int) < 1) = false := decide_eq_false (by omega)
  have d1n : decide (a.size < 1) = false := decide_eq_false (by omega)
  by_cases c2 : 10 < a.size
  · have d2 : decide (10 < (a.size : Int)) = true := decide_eq_true (by omega)
    have d2n : decide (10 < a.size) = true := decide_eq_true (by omega)
    clear c1 c2 hbad
    go_enter Tryd.func38, Tryd.ntmps38
    go_wp2
    refine wp_scope_fwd 0 rfl ?_
    go_wp2_with fail
    ((with_reducible refine hc.mono ?_); rintro e_ W1 ⟨rfl, n, rfl⟩)
    clear hc
    go_wp2
    go_step3
    refine ⟨rfl, ?_⟩
    go_wp2
    (try simp only [Exit.jump])
    go_ret2
    exact ⟨rfl, pw_below_drewN (Below.refl _ _) _⟩
  have d2 : decide (10 < (a.size : Int)) = false := decide_eq_false (by omega)
  have d2n : decide (10 < a.size) = false := decide_eq_false (by omega)
  by_cases c3 : b.size < 1
  · have d3 : decide ((b.size : Int) < 1) = true := decide_eq_true (by omega)
    have d3n : decide (b.size < 1) = true := decide_eq_true (by omega)
    clear c1 c2 c3 hbad
    go_enter Tryd.func38, Tryd.ntmps38
    go_wp2
    refine wp_scope_fwd 0 rfl ?_
    go_wp2_with fail
    ((with_reducible refine hc.mono ?_); rintro e_ W1 ⟨rfl, n, rfl⟩)
    clear hc
    go_wp2
    go_step3
    refine ⟨rfl, ?_⟩
    go_wp2
    (try simp only [Exit.jump])
    go_ret2
    exact ⟨rfl, pw_below_drewN (Below.refl _ _) _⟩
  have d3 : decide ((b.size : Int) < 1) = false := decide_eq_false (by omega)
  have d3n : decide (b.size < 1) = false := decide_eq_false (by omega)
  by_cases c4 : 32 < b.size
  · have d4 : decide (32 < (b.size : Int)) = true := decide_eq_true (by omega)
    have d4n : decide (32 < b.size) = true := decide_eq_true (by omega)
    clear c1 c2 c3 c4 hbad
    go_enter Tryd.func38, Tryd.ntmps38
    go_wp2
    refine wp_scope_fwd 0 rfl ?_
    go_wp2_with fail
    ((with_reducible refine hc.mono ?_); rintro e_ W1 ⟨rfl, n, rfl⟩)
    clear hc
    go_wp2
    go_step3
    refine ⟨rfl, ?_⟩
    go_wp2
    (try simp only [Exit.jump])
    go_ret2
    exact ⟨rfl, pw_below_drewN (Below.refl _ _) _⟩
  have d4 : decide (32 < (b.size : Int)) = false := decide_eq_false (by omega)
  have d4n : decide (32 < b.size) = false := decide_eq_false (by omega)
  have c5 : Bt a 0 = 48 ∧ 1 < a.size := by
    apply Classical.byContradiction
    intro h5
    exact hbad ⟨by omega, by omega, by omega, by omega, h5⟩
  have hx5 : ∀ h : 0 < a.size, ((a[0]'h).toNat : Int) = Bt a 0 := Go.Proofs.YtklkikndcieojaaDoorW.PrintWords.bt_at a 0
  have q5 : (0 < a.size) = True := eq_true (by omega)
  have qi5 : (0 < (a.size : Int)) = True := eq_true (by omega)
  have d5 : (Bt a 0 == 48) = true := beq_iff_eq.2 c5.1
  have d6 : decide (1 < (a.size : Int)) = true := decide_eq_true (by omega)
  have d6n : decide (1 < a.size) = true := decide_eq_true (by omega)
  clear c1 c2 c3 c4 c5 hbad
  go_enter Tryd.func38, Tryd.ntmps38
  go_wp2
  refine wp_scope_fwd 0 rfl ?_
  go_wp2_with fail
  ((with_reducible refine hc.mono ?_); rintro e_ W1 ⟨rfl, n, rfl⟩)
  clear hc
  go_wp2
  go_step3
  refine ⟨rfl, ?_⟩
  go_wp2
  (try simp only [Exit.jump])
  go_ret2
  exact ⟨rfl, pw_below_drewN (Below.refl _ _) _⟩
end Go.Proofs.YtklkikndcieojaaDoor
