/- Maps keyed by whole numbers, told by a row of pairs: look-up, store, delete. -/
import Derived.Test.YtbdocgddidcfeaaDoorKit
import Derived.MapKept
namespace Go.Proofs.YtbdocgddidcfeaaDoor
open Go.MapKept
set_option linter.unusedVariables false
set_option linter.unusedSimpArgs false

/-- The entries are these pairs, one by one. -/
def Fits {α : Type} (q : IntKind) (R : Value → α → Prop) : List MapEntry → List (Int × α) → Prop
  | [], [] => True
  | e :: es, p :: ps => e.key = .int q p.1 ∧ R e.val p.2 ∧ Fits q R es ps
  | _, _ => False
theorem Fits.imp {α : Type} {q : IntKind} {R R' : Value → α → Prop} (h : ∀ v a, R v a → R' v a) : ∀ {es : List MapEntry} {p : List (Int × α)}, Fits q R es p → Fits q R' es p
  | [], [], _ => trivial
  | _ :: es, _ :: ps, ⟨h1, h2, h3⟩ => ⟨h1, h _ _ h2, Fits.imp h h3⟩
  | [], _ :: _, hf => hf.elim
  | _ :: _, [], hf => hf.elim
theorem Fits.len {α : Type} {q : IntKind} {R : Value → α → Prop} : ∀ {es : List MapEntry} {p : List (Int × α)}, Fits q R es p → es.length = p.length
  | [], [], _ => rfl
  | _ :: es, _ :: ps, ⟨_, _, h3⟩ => by simp [Fits.len h3]
  | [], _ :: _, hf => hf.elim
  | _ :: _, [], hf => hf.elim
theorem Fits.keys {α : Type} {q : IntKind} {R : Value → α → Prop} : ∀ {es : List MapEntry} {p : List (Int × α)}, Fits q R es p → ∀ x ∈ es, IsKey (.int q) x.key
  | [], [], _ => by simp
  | e :: es, p :: ps, ⟨h1, _, h3⟩ => by
    intro x hx
    rcases List.mem_cons.1 hx with rfl | hx
    · rw [h1]; simp [IsKey]
    · exact Fits.keys h3 x hx
  | [], _ :: _, hf => hf.elim
  | _ :: _, [], hf => hf.elim
theorem Fits.push {α : Type} {q : IntKind} {R : Value → α → Prop} {e : MapEntry} {x : Int} {a : α} (h1 : e.key = .int q x) (h2 : R e.val a) : ∀ {es : List MapEntry} {p : List (Int × α)}, Fits q R es p → Fits q R (es ++ [e]) (p ++ [(x, a)])
  | [], [], _ => ⟨h1, h2, trivial⟩
  | _ :: es, _ :: ps, ⟨h3, h4, h5⟩ => ⟨h3, h4, Fits.push h1 h2 h5⟩
  | [], _ :: _, hf => hf.elim
  | _ :: _, [], hf => hf.elim
def pget {α : Type} (x : Int) : List (Int × α) → Option α
  | [] => none
  | p :: ps => if x = p.1 then some p.2 else pget x ps
def pdel {α : Type} (x : Int) : List (Int × α) → List (Int × α)
  | [] => []
  | p :: ps => if x = p.1 then ps else p :: pdel x ps
theorem Fits.find {α : Type} {q : IntKind} {R : Value → α → Prop} (x : Int) : ∀ {es : List MapEntry} {p : List (Int × α)} (i : Nat), Fits q R es p →
    (pget x p = none ∧ Instr.findNow (.int q) (.int q x) es i = some none) ∨
    ∃ a v j, pget x p = some a ∧ R v a ∧ Instr.findNow (.int q) (.int q x) es i = some (some (i + j, v)) ∧ (∃ e, es[j]? = some e ∧ e.key = .int q x) ∧ Fits q R (es.eraseIdx j) (pdel x p) ∧
      (∀ f : MapEntry → MapEntry, (∀ e, (f e).key = .int q x ∧ R (f e).val a) → Fits q R (es.modify j f) p)
  | [], [], i, _ => .inl ⟨rfl, rfl⟩
  | e :: es, p :: ps, i, ⟨h1, h2, h3⟩ => by
    by_cases hx : x = p.1
    · refine .inr ⟨p.2, e.val, 0, by simp [pget, hx], h2, ?_, ⟨e, rfl, by rw [h1, hx]⟩, ?_, ?_⟩
      · simp [Instr.findNow, Instr.sameNow, h1, hx]
      · simpa [pdel, hx] using h3
      · intro f hf
        have := hf e
        refine ⟨by rw [← hx]; exact this.1, this.2, ?_⟩
        simpa using h3
    · have hbx : (x == p.1) = false := beq_eq_false_iff_ne.2 hx
      rcases Fits.find x (i + 1) h3 with ⟨g1, g2⟩ | ⟨a, v, j, g1, g2, g3, ⟨e', g4, g5⟩, g6, g7⟩
      · exact .inl ⟨by simp [pget, hx, g1], by simp [Instr.findNow, Instr.sameNow, h1, hbx, g2]⟩
      · refine .inr ⟨a, v, j + 1, by simp [pget, hx, g1], g2, ?_, ⟨e', by simpa using g4, g5⟩, ?_, ?_⟩
        · simp [Instr.findNow, Instr.sameNow, h1, hbx, g3]
          omega
        · simp only [pdel, if_neg hx, List.eraseIdx_cons_succ]
          exact ⟨h1, h2, g6⟩
        · intro f hf
          have := g7 f hf
          simp only [List.modify_succ_cons]
          exact ⟨h1, h2, this⟩
  | [], _ :: _, _, hf => hf.elim
  | _ :: _, [], _, hf => hf.elim
/-- A block is a map that holds these pairs. -/
def IM {α : Type} (q : IntKind) (R : Value → α → Prop) (w : World) (b : Nat) (p : List (Int × α)) : Prop := ∃ es clock, w.heap[b]? = some (.map es clock) ∧ Fits q R es.toList p
section
variable {P : Program} {α : Type} {q : IntKind} {R : Value → α → Prop} {w : World} {b : Nat} {p : List (Int × α)}
theorem IM.imp {R' : Value → α → Prop} (h : IM q R w b p) (hi : ∀ v a, R v a → R' v a) : IM q R' w b p := by
  obtain ⟨es, clock, h1, h2⟩ := h
  exact ⟨es, clock, h1, h2.imp hi⟩
theorem IM.same {w1 : World} (h : IM q R w b p) (hs : w1.heap[b]? = w.heap[b]?) : IM q R w1 b p := by
  obtain ⟨es, clock, h1, h2⟩ := h
  exact ⟨es, clock, hs.trans h1, h2⟩
theorem IM.lt (h : IM q R w b p) : b < w.heap.size := by
  obtain ⟨es, clock, h1, _⟩ := h
  exact (Array.getElem?_eq_some_iff.1 h1).1
theorem IM.made (w : World) : IM q R (w.alloc (.map #[] 0)) w.heap.size ([] : List (Int × α)) := ⟨#[], 0, (heap_alloc w _).1, trivial⟩
theorem IM.look {t k e : TypeId} (h : IM q R w b p) (ht : P.underlying t = some (.map k e)) (hk : P.underlying k = some (.int q)) {z : Value} (hz : ∀ w, (zeroValue e).run P w = .ok z w) (x : Int) :
    (pget x p = none ∧ ∀ c, (Instr.lookup t (.map (some b)) (.int q x) c).run P w = .ok (if c then .tuple #[z, .bool false] else z) w) ∨
    ∃ a v, pget x p = some a ∧ R v a ∧ ∀ c, (Instr.lookup t (.map (some b)) (.int q x) c).run P w = .ok (if c then .tuple #[v, .bool true] else v) w := by
  obtain ⟨es, clock, h1, h2⟩ := h
  have hck := fun e => run_checkKey (P := P) (w := w) hk (show IsKey (.int q) (.int q x) by simp [IsKey]) e 9999
  rcases h2.find x 0 with ⟨g1, g2⟩ | ⟨a, v, j, g1, g2, g3, _⟩
  · refine .inl ⟨g1, fun c => ?_⟩
    simp [Instr.lookup, run_underlying ht, MapKept.run_getObj_map (P := P) h1, hck, run_findKey hk g2, Result.andThen, hz]
  · refine .inr ⟨a, v, g1, g2, fun c => ?_⟩
    simp [Instr.lookup, run_underlying ht, MapKept.run_getObj_map (P := P) h1, hck, run_findKey hk g3, Result.andThen]
theorem heap_put_grown {o o' : Obj} (h1 : w.heap[b]? = some o) : w.grownBy { w with heap := w.heap.setIfInBounds b o' } (some b) :=
  ⟨rfl, rfl, rfl, by simp, fun k _ hne => (heap_set h1).2 k (fun e => hne (by rw [e]))⟩
/-- A store at a key that is new. -/
theorem IM.put {t k e : TypeId} (h : IM q R w b p) (ht : P.underlying t = some (.map k e)) (hk : P.underlying k = some (.int q)) (x : Int) (hx : pget x p = none) (v : Value) (a : α) (hv : R v a) :
    ∃ w', (Instr.mapUpdate t (.map (some b)) (.int q x) v).run P w = .ok () w' ∧ w.grownBy w' (some b) ∧ IM q R w' b (p ++ [(x, a)]) := by
  obtain ⟨es, clock, h1, h2⟩ := h
  have hck := fun e => run_checkKey (P := P) (w := w) hk (show IsKey (.int q) (.int q x) by simp [IsKey]) e 9999
  rcases h2.find x 0 with ⟨g1, g2⟩ | ⟨a, v, j, g1, _⟩
  · refine ⟨_, ?_, heap_put_grown (o' := .map (es.push { key := .int q x, val := v, born := clock }) (clock + 1)) h1, _, _, (heap_set h1).1, ?_⟩
    · simp [Instr.mapUpdate, run_underlying ht, MapKept.run_getObj_map (P := P) h1, hck, run_findKey hk g2, Result.andThen, MapKept.run_setObj_map (P := P) _ h1]
    · rw [Array.toList_push]
      exact Fits.push rfl hv h2
  · rw [hx] at g1; cases g1
/-- A store at a key that is there, of what it says already. -/
theorem IM.again {t k e : TypeId} (h : IM q R w b p) (ht : P.underlying t = some (.map k e)) (hk : P.underlying k = some (.int q)) (x : Int) (a : α) (hx : pget x p = some a) (v : Value) (hv : R v a) :
    ∃ w', (Instr.mapUpdate t (.map (some b)) (.int q x) v).run P w = .ok () w' ∧ w.grownBy w' (some b) ∧ IM q R w' b p := by
  obtain ⟨es, clock, h1, h2⟩ := h
  have hck := fun e => run_checkKey (P := P) (w := w) hk (show IsKey (.int q) (.int q x) by simp [IsKey]) e 9999
  rcases h2.find x 0 with ⟨g1, g2⟩ | ⟨a2, v2, j, g1, _, g3, ⟨e0, g4, g5⟩, _, g7⟩
  · rw [hx] at g1; cases g1
  · rw [hx] at g1
    injection g1 with g1
    subst g1
    have g4' : es[j]? = some e0 := by rw [← Array.getElem?_toList]; exact g4
    rw [Nat.zero_add] at g3
    refine ⟨_, ?_, heap_put_grown (o' := .map (es.modify j fun e => { e with key := .int q x, val := v }) clock) h1, _, _, (heap_set h1).1, ?_⟩
    · simp [Instr.mapUpdate, run_underlying ht, MapKept.run_getObj_map (P := P) h1, hck, run_findKey hk g3, Result.andThen, g4', g5, run_keyThatStays (P := P) (d := .int q) (k := .int q x) (by simp [IsKey]), MapKept.run_setObj_map (P := P) _ h1]
    · rw [Array.toList_modify]
      exact g7 _ (fun e => ⟨rfl, hv⟩)
theorem IM.del {t k e ty : TypeId} (h : IM q R w b p) (ht : P.underlying t = some (.map k e)) (hk : P.underlying k = some (.int q)) (x : Int) :
    ∃ w', (Builtin.delete_ #[t, k] ty #[.map (some b), .int q x]).run P w = .ok (.tuple #[]) w' ∧ w.grownBy w' (some b) ∧ IM q R w' b (pdel x p) := by
  obtain ⟨es, clock, h1, h2⟩ := h
  have hck := fun e => run_checkKey (P := P) (w := w) hk (show IsKey (.int q) (.int q x) by simp [IsKey]) e 9999
  rcases h2.find x 0 with ⟨g1, g2⟩ | ⟨a2, v2, j, g1, _, g3, _, g6, _⟩
  · refine ⟨_, ?_, heap_put_grown (o' := .map es clock) h1, es, clock, (heap_set h1).1, ?_⟩
    · simp [Builtin.delete_, run_underlying ht, MapKept.run_getObj_map (P := P) h1, hck, run_findKey hk g2, Result.andThen, MapKept.run_setObj_map (P := P) _ h1]
    · have : ∀ (l : List (Int × α)), pget x l = none → pdel x l = l := by
        intro l
        induction l with
        | nil => intro _; rfl
        | cons c cs ih =>
          intro hc
          unfold pget at hc
          unfold pdel
          by_cases he : x = c.1
          · rw [if_pos he] at hc; cases hc
          · rw [if_neg he] at hc ⊢
            rw [ih hc]
      rw [this p g1]
      exact h2
  · rw [Nat.zero_add] at g3
    refine ⟨_, ?_, heap_put_grown (o' := .map (es.eraseIdxIfInBounds j) clock) h1, es.eraseIdxIfInBounds j, clock, (heap_set h1).1, ?_⟩
    · simp [Builtin.delete_, run_underlying ht, MapKept.run_getObj_map (P := P) h1, hck, run_findKey hk g3, Result.andThen, MapKept.run_setObj_map (P := P) _ h1]
    · unfold Array.eraseIdxIfInBounds
      split
      · rw [Array.toList_eraseIdx]; exact g6
      · rename_i hj
        rw [List.eraseIdx_of_length_le (by simpa using hj)] at g6
        exact g6
theorem IM.len {t k e ty : TypeId} (h : IM q R w b p) (ht : P.underlying t = some (.map k e)) : (Builtin.len_ #[t] ty #[.map (some b)]).run P w = .ok (goInt p.length) w := by
  obtain ⟨es, clock, h1, h2⟩ := h
  have := h2.len
  simp [Builtin.len_, run_underlying ht, MapKept.run_getObj_map (P := P) h1, Result.andThen]
  rw [← this]; simp
end
end Go.Proofs.YtbdocgddidcfeaaDoor
