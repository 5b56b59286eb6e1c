/- What awake asks, evaluated. -/
import Derived.Test.YtklkikndcieojaaDoorTkW
namespace Go.Proofs.YtklkikndcieojaaDoor
open Go.RowKit Go.Proofs.YtklkikndcieojaaDoorW.PrintWords Go.Proofs.YtklkikndcieojaaDoorW.PrintLast Go.Proofs.YtklkikndcieojaaDoorW.PrintMore
set_option linter.unusedVariables false
set_option linter.unusedSimpArgs false
open PTk
set_option maxRecDepth 10000
theorem toks_piece' (c : UInt8) (r : List UInt8) (at_ n : Nat) (k : Nat) (h1 : c ≠ 35) (h : blankC c = false) (h2 : pieceL (c :: r) = (n + 1, k)) : toks (c :: r) at_ =
    (⟨k, ⟨((c :: r).take (n + 1)).toArray⟩, at_⟩ :: (toks ((c :: r).drop (n + 1)) (at_ + (n + 1))).1, (toks ((c :: r).drop (n + 1)) (at_ + (n + 1))).2) := by
  rw [toks_piece h1 h r at_ (by rw [h2]; omega), h2]
theorem awake_1 : tokensF ⟨#[97, 49, 61, 51, 46, 53, 59, 32, 35, 32, 120]⟩ = ([⟨1, ⟨#[97, 49]⟩, 0⟩, ⟨5, ⟨#[61]⟩, 2⟩, ⟨4, ⟨#[51, 46, 53]⟩, 3⟩, ⟨5, ⟨#[59]⟩, 6⟩, ⟨6, ⟨#[]⟩, 11⟩], 0, 0) := by
  show answer (toks [97, 49, 61, 51, 46, 53, 59, 32, 35, 32, 120] 0) = _
  rw [toks_piece' 97 _ 0 1 1 (by decide) (by decide) (by decide)]
  rw [show (List.drop (1 + 1) [97, 49, 61, 51, 46, 53, 59, 32, 35, 32, 120] : List UInt8) = [61, 51, 46, 53, 59, 32, 35, 32, 120] from rfl]
  rw [toks_piece' 61 _ _ 0 5 (by decide) (by decide) (by decide)]
  rw [show (List.drop (0 + 1) [61, 51, 46, 53, 59, 32, 35, 32, 120] : List UInt8) = [51, 46, 53, 59, 32, 35, 32, 120] from rfl]
  rw [toks_piece' 51 _ _ 2 4 (by decide) (by decide) (by decide)]
  rw [show (List.drop (2 + 1) [51, 46, 53, 59, 32, 35, 32, 120] : List UInt8) = [59, 32, 35, 32, 120] from rfl]
  rw [toks_piece' 59 _ _ 0 5 (by decide) (by decide) (by decide)]
  rw [show (List.drop (0 + 1) [59, 32, 35, 32, 120] : List UInt8) = [32, 35, 32, 120] from rfl]
  rw [toks_blank (by decide) (by decide), toks_note]
  rw [show (List.drop (lenW noteC [35, 32, 120]) [35, 32, 120] : List UInt8) = [] from rfl, toks_nil]
  rfl
theorem awake_2 : tokensF ⟨#[49, 46]⟩ = ([], 80, 1) := by
  show answer (toks [49, 46] 0) = _
  rw [toks_piece' 49 _ 0 0 3 (by decide) (by decide) (by decide)]
  rw [show (List.drop (0 + 1) [49, 46] : List UInt8) = [46] from rfl]
  rw [toks_none (by decide) (by decide) _ _ (by decide)]
  rfl
theorem awake_3 : tokensF ⟨#[48, 48, 55]⟩ = ([], 80, 0) := by
  show answer (toks [48, 48, 55] 0) = _
  rw [toks_none (by decide) (by decide) _ _ (by decide)]
  rfl
theorem awake_true : tiltyardlaw08_awake.f = some true := by
  unfold tiltyardlaw08_awake.f
  rw [token_Tokens.f, token_Tokens.f, token_Tokens.f, awake_1, awake_2, awake_3]
  have h1 : token_Word.f (⟨#[119, 104, 105, 108, 101]⟩ : ByteArray) = some true := by rw [word_f, Lib.toList_data]; decide
  have h2 : token_Name.f (⟨#[119, 104, 105, 108, 101]⟩ : ByteArray) = some false := by unfold token_Name.f; rw [if_pos (by decide)]; decide
  have h3 : token_Name.f (⟨#[97, 49]⟩ : ByteArray) = some true := by unfold token_Name.f; rw [if_pos (by decide)]; decide
  simp only [Option.bind_some, h1, h2, h3]
  have e0 : (⟨#[97, 49]⟩ : ByteArray).toList = [97, 49] := by rw [Lib.toList_data]
  have e2 : (⟨#[51, 46, 53]⟩ : ByteArray).toList = [51, 46, 53] := by rw [Lib.toList_data]
  have e4 : (⟨#[]⟩ : ByteArray).toList = [] := by rw [Lib.toList_data]
  have r0 : rd_T31 [⟨1, ⟨#[97, 49]⟩, 0⟩, ⟨5, ⟨#[61]⟩, 2⟩, ⟨4, ⟨#[51, 46, 53]⟩, 3⟩, ⟨5, ⟨#[59]⟩, 6⟩, ⟨6, ⟨#[]⟩, 11⟩] 0 = ⟨1, ⟨#[97, 49]⟩, 0⟩ := rfl
  have r2 : rd_T31 [⟨1, ⟨#[97, 49]⟩, 0⟩, ⟨5, ⟨#[61]⟩, 2⟩, ⟨4, ⟨#[51, 46, 53]⟩, 3⟩, ⟨5, ⟨#[59]⟩, 6⟩, ⟨6, ⟨#[]⟩, 11⟩] 2 = ⟨4, ⟨#[51, 46, 53]⟩, 3⟩ := rfl
  have r4 : rd_T31 [⟨1, ⟨#[97, 49]⟩, 0⟩, ⟨5, ⟨#[61]⟩, 2⟩, ⟨4, ⟨#[51, 46, 53]⟩, 3⟩, ⟨5, ⟨#[59]⟩, 6⟩, ⟨6, ⟨#[]⟩, 11⟩] 4 = ⟨6, ⟨#[]⟩, 11⟩ := rfl
  rw [r0, r2, r4]
  simp [e0, e2, e4]
theorem PTk.tiltyardlaw08_awake.calls (r : Bool) (w : World) (h : tiltyardlaw08_awake.f = some r) (hW : FixW w) :
    Calls Tryd.prog 8 #[] w fun e w' => e = .returned (.bool r) ∧ Below w.heap.size w w' := by
  obtain rfl : r = true := by rw [awake_true] at h; exact (Option.some.inj h).symm
  exact tiltyardlaw08_awake.calls_true w hW h
end Go.Proofs.YtklkikndcieojaaDoor
