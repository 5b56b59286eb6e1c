/- The walks: closures, both, Add, Sub, Scale, Dot, Mean, Clamp, Near. -/
import Derived.Test.YtjknihjdhccanaaVecB
import Derived.Test.YtjknihjdhccanaaKit
namespace Go.Proofs.Ytjknihjdhccanaa
open Go.RowKit Go.Proofs.YtjknihjdhccanaaW.PrintWords Go.Proofs.YtjknihjdhccanaaW.PrintLast Go.Proofs.YtjknihjdhccanaaW.PrintMore
attribute [local go_sem] max2_int min2_int max_two min_two
set_option linter.unusedVariables false
set_option linter.unusedSimpArgs false

theorem quiet_in {f : FuncId} {args : Array Value} {w : World} {n : Nat} {v : Value}
    (h : ∀ w : World, Calls Try.prog f args w fun e w' => e = .returned v ∧ ∃ m, w' = w.drewN m) :
    Calls Try.prog f args (w.drewN n) fun e w'' => e = .returned v ∧ ∃ m, w'' = w.drewN m := Calls.quiet_of (h _)

theorem add_calls (a b : Int) (w : World) (ha : I64 a) (hb : I64 b) :
    Calls Try.prog 11 #[.int .i64 a, .int .i64 b] w fun e w' => e = .returned (.int .i64 (sat (a + b))) ∧ ∃ n, w' = w.drewN n :=
  (PVecWorks.fix_Add.calls a b _ w (fix_Add_eq a b ha hb)).mono fun _ _ h => ⟨h.1, h.2.out⟩
theorem sub_calls (a b : Int) (w : World) (ha : I64 a) (hb : I64 b) :
    Calls Try.prog 39 #[.int .i64 a, .int .i64 b] w fun e w' => e = .returned (.int .i64 (sat (a - b))) ∧ ∃ n, w' = w.drewN n :=
  (PVecWorks.fix_Sub.calls a b _ w (fix_Sub_eq a b ha hb)).mono fun _ _ h => ⟨h.1, h.2.out⟩
theorem mul_calls (a b : Int) (w : World) (ha : I64 a) (hb : I64 b) :
    Calls Try.prog 38 #[.int .i64 a, .int .i64 b] w fun e w' => e = .returned (.int .i64 (fmul a b)) ∧ ∃ n, w' = w.drewN n :=
  (PVecWorks.fix_Mul.calls 1 a b _ w (fix_Mul_eq a b ha hb)).mono fun _ _ h => ⟨h.1, h.2.out⟩
theorem size_calls (a : Int) (w : World) (ha : I64 a) :
    Calls Try.prog 29 #[.int .i64 a] w fun e w' => e = .returned (.int .u64 (a.natAbs : Int)) ∧ ∃ n, w' = w.drewN n :=
  (PVecWorks.vec_size.calls a _ w (vec_size_eq a ha)).mono fun _ _ h => ⟨h.1, h.2.out⟩
theorem made_calls (a b : Int) (w : World) :
    Calls Try.prog 34 #[.int .i64 a, .int .i64 b] w fun e w' => e = .returned (.agg #[.int .i64 a, .int .i64 b]) ∧ Below w.heap.size w w' :=
  (PVecWorks.vec_made.calls a b a b w rfl).mono fun _ _ h => ⟨h.1, h.2⟩

/-- In the middle, rounded down. -/
def midI (a b : Int) : Int := wrap64 (bits .and .i64 a b + bits .xor .i64 a b / 2)
theorem mean1_calls (a b : Int) (w : World) :
    Calls Try.prog 36 #[.int .i64 a, .int .i64 b] w fun e w' => e = .returned (.int .i64 (midI a b)) ∧ ∃ n, w' = w.drewN n := by
  go_enter Try.func36, Try.ntmps36
  go_wp2
  go_ret
  exact ⟨rfl, 0, rfl⟩


def distI (a b : Int) : Int := ((a - b).natAbs : Int)
theorem near1_calls (a b : Int) (w : World) (ha : I64 a) (hb : I64 b) :
    Calls Try.prog 33 #[.int .i64 a, .int .i64 b] w fun e w' => e = .returned (.int .u64 (distI a b)) ∧ ∃ n, w' = w.drewN n := by
  have H := Lib.hid ha
  have H' := Lib.hid hb
  clear ha hb
  go_enter Try.func33, Try.ntmps33
  go_wp2
  all_goals
    go_ret
    refine ⟨ret_int ?_, 0, rfl⟩
    have h1 := H.out.1
    have h2 := H.out.2
    have h3 := H'.out.1
    have h4 := H'.out.2
    unfold distI
    simp only [IntKind.wrap_u64]
    omega

/-- Within ends. -/
def clampI (x m : Int) : Int := max2 (min2 x m) (-m)
theorem clamp1_calls (a b m : Int) (p : Addr) (w : World) (h0 : 0 ≤ m) (h1 : m ≤ 9223372036854775807) (hp : w.cell? p = some (.int .i64 m)) :
    Calls Try.prog 37 #[.int .i64 a, .int .i64 b, .pointer (some p)] w fun e w' => e = .returned (.int .i64 (clampI a m)) ∧ ∃ n, w' = w.drewN n := by
  go_enter Try.func37, Try.ntmps37
  go_wp2
  all_goals
    go_ret
    refine ⟨ret_int ?_, 0, rfl⟩
    unfold clampI max2 min2
    repeat' split
    all_goals omega
end Go.Proofs.Ytjknihjdhccanaa
