/- Out of a text of this seat: what the proof names. -/
import Derived.Test.YteidgpaakoeefaaDoorQ6
import Derived.Test.YteidgpaakoeefaaDoorQImCt
namespace Go.Proofs.YteidgpaakoeefaaDoor
open Go.RowKit Go.Proofs.YteidgpaakoeefaaDoorW.PrintWords Go.Proofs.YteidgpaakoeefaaDoorW.PrintLast Go.Proofs.YteidgpaakoeefaaDoorW.PrintMore
set_option linter.unusedVariables false
set_option linter.unusedSimpArgs false
open PIm
theorem imageCut_pure {gs : List S48} {fs : List S54} (h : argA gs fs) (x : Int) : ∃ k, tiltyardlaw15_ImageCut.f k gs fs x = some true := by
  obtain ⟨a, ha⟩ := awake_true
  refine ⟨a, ?_⟩
  have h1 : tiltyardlaw15_awake.f a = some true := ha a (by omega)
  unfold tiltyardlaw15_ImageCut.f
  rw [h1, Option.bind_some, enc_args h, Option.bind_some, if_pos rfl]
  rcases enc_ways gs fs with ⟨e, _⟩ | ⟨e, _⟩ | ⟨hok, hln, e⟩
  · rw [e, if_neg (by decide)]
  · rw [e, if_neg (by decide)]
  · rw [e, if_pos rfl]
    by_cases hx : x < 0
    · rw [if_pos hx]
    · have hlen := frameF_len (bodyF gs fs)
      have hpos : (0 : Int) < ((frameF (bodyF gs fs)).length : Int) := by omega
      have hm : Int.tmod x ((frameF (bodyF gs fs)).length : Int) = x % ((frameF (bodyF gs fs)).length : Int) := Int.tmod_eq_emod_of_nonneg (by omega)
      have m0 := Int.emod_nonneg x (show ((frameF (bodyF gs fs)).length : Int) ≠ 0 by omega)
      have m1 := Int.emod_lt_of_pos x hpos
      rw [if_neg hx, if_neg (by show ¬ ((frameF (bodyF gs fs)).length : Int) = 0; omega)]
      show (if 0 ≤ Int.tmod x ((frameF (bodyF gs fs)).length : Int) then (if Int.tmod x ((frameF (bodyF gs fs)).length : Int) ≤ ((frameF (bodyF gs fs)).length : Int) then _ else _) else _) = _
      rw [hm, if_pos m0, if_pos (by omega)]
      rw [dec_bytes (by simp only [List.length_take]; omega) (fun y hy => frame_b gs fs y (List.mem_of_mem_take hy)), cut_bad hok h.2.2.2 (frame_b gs fs) hln (by omega), Option.bind_some]
      rfl
end Go.Proofs.YteidgpaakoeefaaDoor
