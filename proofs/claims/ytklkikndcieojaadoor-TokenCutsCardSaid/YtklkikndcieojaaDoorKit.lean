/- A class of worlds for a region that draws its order and whose callees make memory: 'Aft W': what was there in W stands as it stood. -/
import Derived.Test.YtklkikndcieojaaDoorWMore
import Derived.WalkKit
import Derived.WalkLawsBesides
import Derived.Outline
import Derived.Lib.Hide
import Derived.BigQuiet
namespace Go.Proofs.YtklkikndcieojaaDoor
open Go.RowKit Go.Proofs.YtklkikndcieojaaDoorW.PrintWords Go.Proofs.YtklkikndcieojaaDoorW.PrintLast Go.Proofs.YtklkikndcieojaaDoorW.PrintMore
set_option linter.unusedVariables false

/-- A world in which all that W holds stands as it stood. -/
structure Aft (W : World) where
  w : World
  below : Below W.heap.size W w
instance (W : World) : Nonempty (Aft W) := ⟨⟨W, Below.refl _ _⟩⟩

variable {P : Program}

theorem aft_call {W : World} {u : Aft W} {f : FuncId} {args : Array Value} {v : Value}
    (h : ∀ w : World, Calls P f args w fun e w' => e = .returned v ∧ Below w.heap.size w w') :
    Calls P f args u.w fun e w'' => e = .returned v ∧ ∃ u' : Aft W, w'' = u'.w :=
  (h u.w).mono fun _ w' ⟨he, hb⟩ => ⟨he, ⟨⟨w', below_step u.below hb⟩, rfl⟩⟩
theorem aft_quiet {W : World} {u : Aft W} {f : FuncId} {args : Array Value} {v : Value}
    (h : ∀ w : World, Calls P f args w fun e w' => e = .returned v ∧ ∃ n, w' = w.drewN n) :
    Calls P f args u.w fun e w'' => e = .returned v ∧ ∃ u' : Aft W, w'' = u'.w :=
  (h u.w).mono fun _ w' ⟨he, n, hn⟩ => ⟨he, ⟨⟨w', by rw [hn]; exact pw_below_drewN u.below n⟩, rfl⟩⟩
/-- A contract that asks something of the world: what holds of each world of the class. -/
theorem aft_call_in {W : World} {u : Aft W} {f : FuncId} {args : Array Value} {v : Value}
    (h : Calls P f args u.w fun e w' => e = .returned v ∧ Below u.w.heap.size u.w w') :
    Calls P f args u.w fun e w'' => e = .returned v ∧ ∃ u' : Aft W, w'' = u'.w :=
  h.mono fun _ w' ⟨he, hb⟩ => ⟨he, ⟨⟨w', below_step u.below hb⟩, rfl⟩⟩

theorem aft_class (W : World) : (fun w' => ∃ u : Aft W, w' = u.w) = Below W.heap.size W :=
  funext fun w' => propext ⟨fun ⟨u, h⟩ => h ▸ u.below, fun h => ⟨⟨w', h⟩, rfl⟩⟩
theorem wp_region_aft {id : Nat} {Q : Exit → Act → World → Prop} {a : Act} {W : World} {l : List Oper} (hm : P.follows .mixedOrders = true) (hB : Region.lexB .any l.toArray = true)
    (h : wpQuiet P l.toArray (fun w' => ∃ u : Aft W, w' = u.w) (fun a' => ∀ w', Below W.heap.size W w' → Q .normal a' w') l a) : (Code.region id l.toArray true).wp P Q a W := by
  refine wp_region_quiet (C := fun w' => ∃ u : Aft W, w' = u.w) hm hB ⟨⟨_, (Below.refl W.heap.size W).drew⟩, rfl⟩ ?_
  have e : (fun a' => ∀ w', (∃ u : Aft W, w' = u.w) → Q .normal a' w') = (fun a' => ∀ w', Below W.heap.size W w' → Q .normal a' w') := by
    funext a'
    exact propext ⟨fun h w' hb => h w' ⟨⟨w', hb⟩, rfl⟩, fun h w' ⟨u, hu⟩ => h w' (hu ▸ u.below)⟩
  rw [e]
  exact h

theorem bcell {W w1 : World} (hb : Below W.heap.size W w1) : (∀ b o, b < W.heap.size → w1.cell? ⟨b, o, none⟩ = W.cell? ⟨b, o, none⟩) ∧ (∀ b o, b < W.heap.size → w1.frozen? ⟨b, o, none⟩ = W.frozen? ⟨b, o, none⟩) :=
  ⟨fun b o h => hb.cell (p := ⟨b, o, none⟩) h, fun b o h => hb.frozen (p := ⟨b, o, none⟩) h⟩
theorem ret_int {k : IntKind} {a b : Int} (h : a = b) : Ending.returned (.int k a) = .returned (.int k b) := by rw [h]
theorem ret_bool {a b : Bool} (h : a = b) : Ending.returned (.bool a) = .returned (.bool b) := by rw [h]
end Go.Proofs.YtklkikndcieojaaDoor
