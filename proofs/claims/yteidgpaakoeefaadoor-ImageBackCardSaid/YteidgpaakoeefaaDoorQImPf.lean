/- Out of a text of this seat: what the proof names. -/
import Derived.Test.YteidgpaakoeefaaDoorQ6
import Derived.Test.YteidgpaakoeefaaDoorQImBk
namespace Go.Proofs.YteidgpaakoeefaaDoor
open Go.RowKit Go.Proofs.YteidgpaakoeefaaDoorW.PrintWords Go.Proofs.YteidgpaakoeefaaDoorW.PrintLast Go.Proofs.YteidgpaakoeefaaDoorW.PrintMore
set_option linter.unusedVariables false
set_option linter.unusedSimpArgs false
open PIm
theorem back_j0 {l : List Int} (hb : Bytes l) (hl : l.length ≤ 140737488355318) (k : Nat) : tiltyardlaw15_ImageBack.j0 (k + 1) l true = some true := by
  unfold tiltyardlaw15_ImageBack.j0
  simp only []
  rw [dec_bytes hl hb, Option.bind_some]
  by_cases h : (decF l).2.2 = 0
  · rw [if_pos h]
    have e := back_enc hb (gs := (decF l).1) (fs := (decF l).2.1) (by rw [← h])
    rw [e, Option.bind_some, if_pos rfl, if_pos rfl]
  · rw [if_neg h]
theorem imageBack_pure {gs : List S48} {fs : List S54} {l : List Int} (h : argA gs fs) (hb : Bytes l) (hl : l.length ≤ 140737488355318) : ∃ k, tiltyardlaw15_ImageBack.f k gs fs l = some true := by
  obtain ⟨a, ha⟩ := awake_true.and (same_refl h)
  refine ⟨a + 1, ?_⟩
  obtain ⟨h1, h2⟩ := ha (a + 1) (by omega)
  have h1' : tiltyardlaw15_awake.f (a + 1) = some true := h1
  have h2' : tiltyardref14_Same.f (a + 1) gs fs gs fs = some true := h2
  unfold tiltyardlaw15_ImageBack.f
  rw [h1', Option.bind_some, enc_args h, Option.bind_some]
  rcases enc_ways gs fs with ⟨e, _⟩ | ⟨e, _⟩ | ⟨hok, hln, e⟩
  · rw [e, if_neg (by decide), back_j0 hb hl]
  · rw [e, if_neg (by decide), back_j0 hb hl]
  · rw [e, if_pos rfl]
    simp only []
    rw [dec_bytes (by omega) (frame_b _ _), there hok h.2.2.2 hln, Option.bind_some]
    show (tiltyardref14_Same.f (a + 1) gs fs gs fs).bind _ = _
    refine (congrArg (fun o : Option Bool => o.bind _) h2').trans ?_
    rw [Option.bind_some, if_pos rfl, if_pos rfl, back_j0 hb hl]
end Go.Proofs.YteidgpaakoeefaaDoor
