/- Plain numbers for the pairs: the saturating number 'sat', ranges. -/
import Derived.Test.YtjknihjdhccanaaPVecWorksx
import Derived.WalkLawsBesides
import Derived.Outline
import Derived.Lib.Hide
import Derived.Laws.Externs
import Derived.Deep.RegionHeld3
namespace Go.Proofs.Ytjknihjdhccanaa
open Go.RowKit Go.Proofs.YtjknihjdhccanaaW.PrintWords Go.Proofs.YtjknihjdhccanaaW.PrintLast Go.Proofs.YtjknihjdhccanaaW.PrintMore
set_option linter.unusedVariables false
set_option linter.unusedSimpArgs false

/-- A number of the kind int. -/
structure I64 (a : Int) : Prop where
  lo : -9223372036854775808 ≤ a
  hi : a ≤ 9223372036854775807

/-- Stopped at the ends. -/
def sat (n : Int) : Int := if n > 9223372036854775807 then 9223372036854775807 else if n < -9223372036854775808 then -9223372036854775808 else n

theorem sat_I64 (n : Int) : I64 (sat n) := by
  unfold sat; constructor <;> (repeat' split) <;> omega

/-- The larger, the smaller. -/
def max2 (a b : Int) : Int := if a < b then b else a
def min2 (a b : Int) : Int := if b < a then b else a

theorem max2_I64 {a b : Int} (ha : I64 a) (hb : I64 b) : I64 (max2 a b) := by unfold max2; split <;> assumption
theorem min2_I64 {a b : Int} (ha : I64 a) (hb : I64 b) : I64 (min2 a b) := by unfold min2; split <;> assumption

theorem fix_Add_eq (a b : Int) (ha : I64 a) (hb : I64 b) : PVecWorks.fix_Add.f a b = some (sat (a + b)) := by
  obtain ⟨a1, a2⟩ := ha
  obtain ⟨b1, b2⟩ := hb
  unfold PVecWorks.fix_Add.f PVecWorks.fix_end.f sat wrap64
  by_cases h1 : a < 0 <;> by_cases h2 : b < 0 <;> simp [h1, h2] <;> (repeat' split) <;> first | omega | (simp; done) | (simp; omega)

theorem fix_Sub_eq (a b : Int) (ha : I64 a) (hb : I64 b) : PVecWorks.fix_Sub.f a b = some (sat (a - b)) := by
  obtain ⟨a1, a2⟩ := ha
  obtain ⟨b1, b2⟩ := hb
  unfold PVecWorks.fix_Sub.f PVecWorks.fix_end.f sat wrap64
  by_cases h1 : a < 0 <;> by_cases h2 : b < 0 <;> simp [h1, h2] <;> (repeat' split) <;> first | omega | (simp; done) | (simp; omega)

/-- A number without its sign. -/
theorem vec_size_eq (a : Int) (ha : I64 a) : PVecWorks.vec_size.f a = some (a.natAbs : Int) := by
  obtain ⟨a1, a2⟩ := ha
  unfold PVecWorks.vec_size.f IntKind.wrap
  split <;> simp [IntKind.bits, IntKind.signed] <;> omega

end Go.Proofs.Ytjknihjdhccanaa
