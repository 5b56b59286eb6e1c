/- A row of bytes of the call's own whose block may be marked behind its bytes: what []byte(s) gives. -/
import Derived.Test.YtklkikndcieojaaDoorFixF
import Derived.Lib.BufferMore
namespace Go.Proofs.YtklkikndcieojaaDoor
open Go.RowKit Go.Proofs.YtklkikndcieojaaDoorW.PrintWords Go.Proofs.YtklkikndcieojaaDoorW.PrintLast Go.Proofs.YtklkikndcieojaaDoorW.PrintMore
set_option linter.unusedVariables false
set_option linter.unusedSimpArgs false
def DR (w : World) (base : Nat) (ok : Nat → Prop) (v : Value) (xs : List Int) : Prop :=
  (∀ k, v.ownBlock = some k → ok k) ∧ ∃ g cap cs fz, v = .slice (some ⟨g, 0, none⟩) xs.length cap ∧ xs.length ≤ cap ∧ xs.length ≤ 9223372036854775807 ∧ base ≤ g ∧ w.heap[g]? = some (.cells cs 5 fz) ∧ xs.length ≤ fz.1 ∧ ∀ i : Nat, i < xs.length → cs[i]? = some (.int .u8 (rd xs (i : Int)))
theorem DR.mono {w : World} {base : Nat} {ok ok' : Nat → Prop} {v : Value} {xs : List Int} (h : DR w base ok v xs) (hk : ∀ k, ok k → ok' k) : DR w base ok' v xs := ⟨fun k e => hk k (h.1 k e), h.2⟩
theorem DR.drew {w : World} {base : Nat} {ok : Nat → Prop} {v : Value} {xs : List Int} (h : DR w base ok v xs) : DR w.drew base ok v xs := h
theorem DR.drewN {w : World} {base : Nat} {ok : Nat → Prop} {v : Value} {xs : List Int} {n : Nat} (h : DR w base ok v xs) : DR (w.drewN n) base ok v xs := h
theorem DR.slice {w : World} {base : Nat} {ok : Nat → Prop} {v : Value} {xs : List Int} (h : DR w base ok v xs) : ∃ A c, v = .slice A xs.length c := by
  obtain ⟨_, g, cap, cs, fz, e, _⟩ := h
  exact ⟨_, _, e⟩
theorem DR.form {w : World} {base : Nat} {ok : Nat → Prop} {v : Value} {xs : List Int} (h : DR w base ok v xs) (hp : 0 < xs.length) : ∃ g cap, v = .slice (some ⟨g, 0, none⟩) xs.length cap ∧ base ≤ g ∧ g < w.heap.size ∧ ∃ cells fz, w.heap[g]? = some (.cells cells 5 fz) := by
  obtain ⟨_, g, cap, cs, fz, e, _, _, hb, hh, _⟩ := h
  refine ⟨g, cap, e, hb, ?_, cs, fz, hh⟩
  exact (Array.getElem?_eq_some_iff.1 hh).1
theorem DR.reads {w : World} {base : Nat} {ok : Nat → Prop} {A : Option Addr} {n c : Nat} {xs : List Int} (h : DR w base ok (.slice A n c) xs) : n = xs.length ∧ n ≤ c ∧ Kd.C (Kd.int .u8) w A xs.length xs := by
  obtain ⟨_, g, cap, cs, fz, e, hc, hm, hb, hh, hf, hv⟩ := h
  injection e with e1 e2 e3
  subst e1 e2 e3
  refine ⟨rfl, hc, Kd.C_of_reads (d := (0 : Int)) (h1 := fun _ => rfl) ⟨rfl, hm, fun _ => ⟨_, rfl, fun j hj => ?_⟩⟩⟩
  rw [add_plain, Lib.cell_of_heap hh, hv j hj, rd_get' hj]
  simp [List.getD_eq_getElem?_getD, List.getElem?_eq_getElem hj]
theorem DR.celln {w : World} {base g n cap : Nat} {ok : Nat → Prop} {xs : List Int} (d : Int) (h : DR w base ok (.slice (some ⟨g, 0, none⟩) n cap) xs) (i : Int) (h0 : 0 ≤ i) (hi : i < n) : w.cell? ⟨g, i.toNat, none⟩ = some (.int .u8 (rd xs i)) ∧ w.frozen? ⟨g, i.toNat, none⟩ = false := by
  obtain ⟨_, g', cap', cs, fz, e, hc, hm, hb, hh, hf, hv⟩ := h
  injection e with e1 e2 e3
  injection e1 with e1
  injection e1 with e1
  subst e1 e2 e3
  have hi' : i.toNat < xs.length := by omega
  rw [Lib.cell_of_heap hh, hv _ hi', Int.toNat_of_nonneg h0]
  refine ⟨rfl, ?_⟩
  obtain ⟨lo, up⟩ := fz
  simp only [World.frozen?, hh]
  simp only at hf
  rw [Bool.and_eq_false_iff]
  left
  exact decide_eq_false (by omega)
theorem DR.putn {w : World} {base g n cap : Nat} {ok : Nat → Prop} {xs : List Int} (h : DR w base ok (.slice (some ⟨g, 0, none⟩) n cap) xs) (i : Int) (x : Int) : DR (w.setCell ⟨g, i.toNat, none⟩ (.int .u8 x)) base ok (.slice (some ⟨g, 0, none⟩) n cap) (xs.set i.toNat x) := by
  obtain ⟨h1, g', cap', cs, fz, e, hc, hm, hb, hh, hf, hv⟩ := h
  injection e with e1 e2 e3
  injection e1 with e1
  injection e1 with e1
  subst e1 e2 e3
  refine ⟨h1, g, cap, cs.setIfInBounds i.toNat (.int .u8 x), fz, by simp, by simpa using hc, by simpa using hm, hb, Lib.heap_setCell_same hh _, by simpa using hf, ?_⟩
  intro j hj
  have hj' : j < xs.length := by simpa using hj
  have hcs := hv j hj'
  have hjc : j < cs.size := (Array.getElem?_eq_some_iff.1 hcs).1
  rw [rd_get' hj]
  rw [rd_get' hj'] at hcs
  by_cases hij : i.toNat = j
  · subst hij
    simp [Array.getElem?_setIfInBounds, hjc]
  · rw [Array.getElem?_setIfInBounds, if_neg hij, hcs]
    simp [List.getElem_set, hij]
/-- What []byte(s) gives. -/
theorem DR.bytes (w : World) (s : ByteArray) (hs : s.size ≤ 9223372036854775807) {base : Nat} (hb : base ≤ w.heap.size) : DR (Lib.bytesWorld w 5 s) base (fun k => w.heap.size ≤ k) (.slice (some ⟨w.heap.size, 0, none⟩) s.size (grownCap w s.size 0 5)) (bytesOf s) := by
  have hle : s.size ≤ grownCap w s.size 0 5 := grownCap_ge w s.size 0 5
  refine ⟨fun k e => ?_, w.heap.size, grownCap w s.size 0 5, _, _, by simp [bytesOf], by simpa [bytesOf] using hle, by simpa [bytesOf] using hs, hb, Lib.bytesWorld_at_new w 5 s, ?_, ?_⟩
  · simp [Value.ownBlock] at e; omega
  · simp [Lib.bytesCells, bytesOf]
  · intro i hi
    have hi2 : i < s.size := by simpa [bytesOf] using hi
    have := Lib.bytesWorld_cell w 5 s i hi2
    rw [Lib.cell_of_heap (Lib.bytesWorld_at_new w 5 s)] at this
    rw [this, rd_get' hi]
    have h' : i < s.data.toList.length := by simpa [bytesOf] using hi
    simp [bytesOf, List.getD_eq_getElem?_getD, List.getElem?_eq_getElem h']
end Go.Proofs.YtklkikndcieojaaDoor
