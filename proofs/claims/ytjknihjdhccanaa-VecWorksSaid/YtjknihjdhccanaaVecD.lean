/- The walks of 'both' at each function value. Printed by gen_d.py. -/
import Derived.Test.YtjknihjdhccanaaVecC
namespace Go.Proofs.Ytjknihjdhccanaa
open Go.RowKit Go.Proofs.YtjknihjdhccanaaW.PrintWords Go.Proofs.YtjknihjdhccanaaW.PrintLast Go.Proofs.YtjknihjdhccanaaW.PrintMore
set_option linter.unusedVariables false
set_option linter.unusedSimpArgs false

theorem below_two (w : World) (o o' : Obj) (n : Nat) : Below w.heap.size w (((w.alloc o).alloc o').drewN n) :=
  pw_below_drewN (below_alloc (below_alloc (Below.refl _ _) _) _) _

set_option maxHeartbeats 1000000 in
set_option maxRecDepth 100000 in
theorem both_add (a b c d : Int) (w : World) (ha : I64 a) (hb : I64 b) (hc : I64 c) (hd : I64 d) :
    Calls Try.prog 35 #[.agg #[.int .i64 a, .int .i64 b], .agg #[.int .i64 c, .int .i64 d], .func (.func 11) #[] #[]] w
      fun e w' => e = .returned (.tuple #[.int .i64 (sat (a + c)), .int .i64 (sat (b + d))]) ∧ Below w.heap.size w w' := by
  go_enter Try.func35, Try.ntmps35
  go_wp2
  refine wp_region_quiet_lit (by kernel_rfl) (by kernel_rfl) ?_
  iterate 5 (go_big_quiet_step (fail))
  go_big_quiet_step (refine quiet_in (fun w => add_calls _ _ w ha hc))
  iterate 5 (go_big_quiet_step (fail))
  go_big_quiet_step (refine quiet_in (fun w => add_calls _ _ w hb hd))
  iterate 2 (go_big_quiet_step (fail))
  refine wpQuiet_nil ?_
  intro _ hw'
  obtain ⟨nq, rfl⟩ := hw'
  go_wp2
  go_ret2
  exact ⟨rfl, below_two _ _ _ _⟩

set_option maxHeartbeats 1000000 in
set_option maxRecDepth 100000 in
theorem both_sub (a b c d : Int) (w : World) (ha : I64 a) (hb : I64 b) (hc : I64 c) (hd : I64 d) :
    Calls Try.prog 35 #[.agg #[.int .i64 a, .int .i64 b], .agg #[.int .i64 c, .int .i64 d], .func (.func 39) #[] #[]] w
      fun e w' => e = .returned (.tuple #[.int .i64 (sat (a - c)), .int .i64 (sat (b - d))]) ∧ Below w.heap.size w w' := by
  go_enter Try.func35, Try.ntmps35
  go_wp2
  refine wp_region_quiet_lit (by kernel_rfl) (by kernel_rfl) ?_
  iterate 5 (go_big_quiet_step (fail))
  go_big_quiet_step (refine quiet_in (fun w => sub_calls _ _ w ha hc))
  iterate 5 (go_big_quiet_step (fail))
  go_big_quiet_step (refine quiet_in (fun w => sub_calls _ _ w hb hd))
  iterate 2 (go_big_quiet_step (fail))
  refine wpQuiet_nil ?_
  intro _ hw'
  obtain ⟨nq, rfl⟩ := hw'
  go_wp2
  go_ret2
  exact ⟨rfl, below_two _ _ _ _⟩

set_option maxHeartbeats 1000000 in
set_option maxRecDepth 100000 in
theorem both_mul (a b c d : Int) (w : World) (ha : I64 a) (hb : I64 b) (hc : I64 c) (hd : I64 d) :
    Calls Try.prog 35 #[.agg #[.int .i64 a, .int .i64 b], .agg #[.int .i64 c, .int .i64 d], .func (.func 38) #[] #[]] w
      fun e w' => e = .returned (.tuple #[.int .i64 (fmul a c), .int .i64 (fmul b d)]) ∧ Below w.heap.size w w' := by
  go_enter Try.func35, Try.ntmps35
  go_wp2
  refine wp_region_quiet_lit (by kernel_rfl) (by kernel_rfl) ?_
  iterate 5 (go_big_quiet_step (fail))
  go_big_quiet_step (refine quiet_in (fun w => mul_calls _ _ w ha hc))
  iterate 5 (go_big_quiet_step (fail))
  go_big_quiet_step (refine quiet_in (fun w => mul_calls _ _ w hb hd))
  iterate 2 (go_big_quiet_step (fail))
  refine wpQuiet_nil ?_
  intro _ hw'
  obtain ⟨nq, rfl⟩ := hw'
  go_wp2
  go_ret2
  exact ⟨rfl, below_two _ _ _ _⟩

set_option maxHeartbeats 1000000 in
set_option maxRecDepth 100000 in
theorem both_mean (a b c d : Int) (w : World)  :
    Calls Try.prog 35 #[.agg #[.int .i64 a, .int .i64 b], .agg #[.int .i64 c, .int .i64 d], .func (.func 36) #[] #[]] w
      fun e w' => e = .returned (.tuple #[.int .i64 (midI a c), .int .i64 (midI b d)]) ∧ Below w.heap.size w w' := by
  go_enter Try.func35, Try.ntmps35
  go_wp2
  refine wp_region_quiet_lit (by kernel_rfl) (by kernel_rfl) ?_
  iterate 5 (go_big_quiet_step (fail))
  go_big_quiet_step (refine quiet_in (fun w => mean1_calls _ _ w))
  iterate 5 (go_big_quiet_step (fail))
  go_big_quiet_step (refine quiet_in (fun w => mean1_calls _ _ w))
  iterate 2 (go_big_quiet_step (fail))
  refine wpQuiet_nil ?_
  intro _ hw'
  obtain ⟨nq, rfl⟩ := hw'
  go_wp2
  go_ret2
  exact ⟨rfl, below_two _ _ _ _⟩

set_option maxHeartbeats 1000000 in
set_option maxRecDepth 100000 in
theorem both_near (a b c d : Int) (w : World) (ha : I64 a) (hb : I64 b) (hc : I64 c) (hd : I64 d) :
    Calls Try.prog 32 #[.agg #[.int .i64 a, .int .i64 b], .agg #[.int .i64 c, .int .i64 d], .func (.func 33) #[] #[]] w
      fun e w' => e = .returned (.tuple #[.int .u64 (distI a c), .int .u64 (distI b d)]) ∧ Below w.heap.size w w' := by
  go_enter Try.func32, Try.ntmps32
  go_wp2
  refine wp_region_quiet_lit (by kernel_rfl) (by kernel_rfl) ?_
  iterate 5 (go_big_quiet_step (fail))
  go_big_quiet_step (refine quiet_in (fun w => near1_calls _ _ w ha hc))
  iterate 5 (go_big_quiet_step (fail))
  go_big_quiet_step (refine quiet_in (fun w => near1_calls _ _ w hb hd))
  iterate 2 (go_big_quiet_step (fail))
  refine wpQuiet_nil ?_
  intro _ hw'
  obtain ⟨nq, rfl⟩ := hw'
  go_wp2
  go_ret2
  exact ⟨rfl, below_two _ _ _ _⟩

set_option maxHeartbeats 1000000 in
set_option maxRecDepth 100000 in
theorem both_clamp (a b c d : Int) (m : Int) (p : Addr) (w : World) (h0 : 0 ≤ m) (h1 : m ≤ 9223372036854775807) (hp : w.cell? p = some (.int .i64 m)) :
    Calls Try.prog 35 #[.agg #[.int .i64 a, .int .i64 b], .agg #[.int .i64 c, .int .i64 d], .func (.func 37) #[] #[.pointer (some p)]] w
      fun e w' => e = .returned (.tuple #[.int .i64 (clampI a m), .int .i64 (clampI b m)]) ∧ Below w.heap.size w w' := by
  go_enter Try.func35, Try.ntmps35
  go_wp2
  refine wp_region_quiet_lit (by kernel_rfl) (by kernel_rfl) ?_
  iterate 5 (go_big_quiet_step (fail))
  go_big_quiet_step (exact Calls.quiet_of (clamp1_calls _ _ m p _ h0 h1 (by simp [World.cell?_alloc_some, hp])))
  iterate 5 (go_big_quiet_step (fail))
  go_big_quiet_step (exact Calls.quiet_of (clamp1_calls _ _ m p _ h0 h1 (by simp [World.cell?_alloc_some, hp])))
  iterate 2 (go_big_quiet_step (fail))
  refine wpQuiet_nil ?_
  intro _ hw'
  obtain ⟨nq, rfl⟩ := hw'
  go_wp2
  go_ret2
  exact ⟨rfl, below_two _ _ _ _⟩

end Go.Proofs.Ytjknihjdhccanaa