/- The row of what was sent grows and slides. -/
import Derived.Test.YtbdocgddidcfeaaDoorLinkM
namespace Go.Proofs.YtbdocgddidcfeaaDoor
open Go.RowKit Go.Proofs.YtbdocgddidcfeaaDoorW.PrintWords Go.Proofs.YtbdocgddidcfeaaDoorW.PrintLast Go.Proofs.YtbdocgddidcfeaaDoorW.PrintMore
set_option linter.unusedVariables false
set_option linter.unusedSimpArgs false

theorem infoU : (Tryd.prog.info? 58).map (fun i => (i.zero, i.size, i.bytes)) = some (some (.int .u16 0), 1, 2) := by kernel_rfl
theorem sent_cells {n : Int} {a : Addr} {w : World} (ha : w.cell? (a.add 0) = some (.int .u16 n)) : ∀ j v, [Value.int .u16 n][j]? = some v → w.cell? (a.add j) = some v := by
  intro j v hj
  have hj0 : j = 0 := by
    have := (List.getElem?_eq_some_iff.1 hj).1
    simpa using this
  subst hj0
  simp only [List.getElem?_cons_zero, Option.some.injEq] at hj
  rw [← hj]
  exact ha
/-- One number more. -/
theorem sent_append {w : World} {sv : Value} {l : List Int} {gs : Option Nat} (h : SentAt w sv l gs) (hl : l.length ≤ 64) (n : Int) (a : Addr) (ha : w.cell? (a.add 0) = some (.int .u16 n)) (ty : TypeId) :
    ∃ v' w' gs', (Builtin.append_ #[60, 60] ty #[sv, .slice (some a) 1 1]).run Tryd.prog w = .ok v' w' ∧ SentAt w' v' (l ++ [n]) gs' ∧ w.grownBy w' gs ∧ (gs' = gs ∨ gs' = some w.heap.size) := by
  obtain ⟨i0, hi0, hz0, hsz0, hby0⟩ := info_parts infoU
  have hu := Tryd.underlying60
  have hnews := sent_cells ha
  have hz1 : (Value.int .u16 0).cells.size = 1 := rfl
  have hnl : ([Value.int .u16 n]).length = 1 * i0.size := by rw [hsz0]; rfl
  rcases h with ⟨rfl, rfl, rfl⟩ | ⟨b, off, cap, cs, rfl, rfl, h3, h4, h5, h6, h7⟩
  · have hrun := run_append_nil (P := Tryd.prog) w 60 ty 58 i0 (.int .u16 0) hu hi0 hz0 a 1 1 _ hnl hnews (by omega) (by omega) (by rw [hby0]; omega)
    have hge := grownCap_ge w 1 0 58
    have hcm := grownCap_le_maxLen w 1 0 58 (by simp only [maxLen]; omega)
    refine ⟨_, _, _, hrun, .inr ⟨w.heap.size, 0, _, _, rfl, rfl, heap_alloc_new w.drew _, by simpa using hge, hcm, ?_, ?_⟩, alloc_grown w _ _, .inr rfl⟩
    · simp only [Array.size_append, size_zeroCells, hz1]
      simp
      omega
    · intro j x hj
      have hj0 : j = 0 := by
        have := (List.getElem?_eq_some_iff.1 hj).1
        simpa using this
      subst hj0
      simp only [List.nil_append, List.getElem?_cons_zero, Option.some.injEq] at hj
      subst hj
      rw [Array.getElem?_append_left (by simp)]
      rfl
  · by_cases hroom : l.length + 1 ≤ cap
    · have hst := run_storeCells_at Tryd.prog b (off + l.length) 58 [Value.int .u16 n] 0 cs w h3 (by simp; omega) (by simp [Value.oneCell'])
      have hf := run_firstCells_some (P := Tryd.prog) w i0.size 1 a 1 1 _ hnl hnews
      rw [Nat.add_zero] at hst
      refine ⟨.slice (some ⟨b, off, none⟩) (l ++ [n]).length cap, w.setRow b (cs.toList.take (off + l.length) ++ [Value.int .u16 n] ++ cs.toList.drop (off + l.length + [Value.int .u16 n].length)).toArray, some b, ?_, .inr ⟨b, off, cap, _, rfl, rfl, setRow_heap w b _ _ 58 (0, 0) h3, by simpa using hroom, h5, ?_, ?_⟩, setRow_grown _ _ _, .inl rfl⟩
      · have hadd : (⟨b, off, none⟩ : Addr).add l.length = ⟨b, off + l.length, none⟩ := by unfold Addr.add; split <;> simp_all
        have hsc : ∀ W : World, ((storeCells ⟨b, off + l.length, none⟩ [Value.int .u16 n]).run Tryd.prog W) = (storeCells ⟨b, off + l.length, none⟩ [Value.int .u16 n] 0).run Tryd.prog W := fun _ => rfl
        rw [hsz0] at hf
        simp only [List.length_append, List.length_cons, List.length_nil]
        simp [Builtin.append_, run_underlying hu, sizeOf, typeInfo, hi0, hsz0, Builtin.lenOf, hroom, hf, hadd, hst, Result.andThen]
      · simp
        omega
      · intro j x hj
        have hjl := (List.getElem?_eq_some_iff.1 hj).1
        simp only [List.length_append, List.length_cons, List.length_nil] at hjl
        have htl : (cs.toList.take (off + l.length)).length = off + l.length := by
          have hcl : cs.toList.length = cs.size := Array.length_toList
          rw [List.length_take]
          omega
        rw [List.getElem?_toArray, List.append_assoc]
        by_cases hjx : j < l.length
        · rw [List.getElem?_append_left hjx] at hj
          rw [List.getElem?_append_left (by rw [htl]; omega), List.getElem?_take, if_pos (by omega), Array.getElem?_toList]
          exact h7 j x hj
        · have hje : j = l.length := by omega
          subst hje
          rw [List.getElem?_append_right (Nat.le_refl _), Nat.sub_self] at hj
          rw [List.getElem?_append_right (by rw [htl]; omega), htl, Nat.sub_self]
          simp at hj ⊢
          exact hj
    · have hlt : cap < l.length + 1 := by omega
      have holds : ∀ j v, (l.map (Value.int .u16))[j]? = some v → w.cell? ((⟨b, off, none⟩ : Addr).add j) = some v := by
        intro j v hj
        obtain ⟨x, hx, rfl⟩ : ∃ x, l[j]? = some x ∧ v = .int .u16 x := by
          rw [List.getElem?_map] at hj
          cases hg : l[j]? with
          | none => rw [hg] at hj; simp at hj
          | some x => rw [hg] at hj; simp at hj; exact ⟨x, rfl, hj.symm⟩
        have ha : (⟨b, off, none⟩ : Addr).add j = ⟨b, off + j, none⟩ := by unfold Addr.add; split <;> simp_all
        rw [ha, blk_cell h3]
        exact h7 j x hx
      have hrun := run_append_grow (P := Tryd.prog) w 60 ty 58 i0 (.int .u16 0) hu hi0 hz0 ⟨b, off, none⟩ l.length cap (l.map (Value.int .u16)) (by rw [hsz0]; simp) holds a 1 1 _ hnl hnews hlt (by omega) (by rw [hby0]; exact growslice_fits hlt (by omega))
      have hge := grownCap_ge w (l.length + 1) cap 58
      have hcm := grownCap_le_maxLen w (l.length + 1) cap 58 (by simp only [maxLen]; omega)
      refine ⟨_, _, some w.heap.size, hrun, .inr ⟨w.heap.size, 0, _, _, rfl, by simp, heap_alloc_new w.drew _, by simpa using hge, hcm, ?_, ?_⟩, alloc_grown w _ _, .inr rfl⟩
      · simp only [Array.size_append, size_zeroCells, hz1]
        simp
        omega
      · intro j x hj
        have hjl := (List.getElem?_eq_some_iff.1 hj).1
        have : (List.map (Value.int .u16) l).toArray ++ [Value.int .u16 n].toArray = ((l ++ [n]).map (Value.int .u16)).toArray := by simp
        rw [this, Nat.zero_add, Array.getElem?_append_left (by simpa using hjl)]
        simp only [List.getElem?_toArray, List.getElem?_map, hj]
        rfl
theorem wp_sent_append {ops : Array Oper} {rest : List Oper} {o : Oper} {a : Act} {Q : Exit → Act → World → Prop} {W : World} (hgd : o.guard = none) (s x : Operand)
    (ho : o.op = .call { callee := .builtin .append, args := #[s, x], argTypes := #[60, 60] }) (sv : Value) (l : List Int) (gs : Option Nat) (HS : SentAt W sv l gs) (hl : l.length ≤ 64) (n : Int) (ad : Addr)
    (hs : a.eval s = sv) (hx : a.eval x = .slice (some ad) 1 1) (ha : W.cell? (ad.add 0) = some (.int .u16 n))
    (h : ∀ v1 w1 gs1, SentAt w1 v1 (l ++ [n]) gs1 → W.grownBy w1 gs → (gs1 = gs ∨ gs1 = some W.heap.size) → wpList Tryd.prog ops Q rest (a.put o.dst v1) w1) :
    wpList Tryd.prog ops Q (o :: rest) a W := by
  obtain ⟨v1, w1, gs1, hr1, h1, hg, hgs⟩ := sent_append HS hl n ad ha o.type
  refine wpList_plain hgd fun K hK => ?_
  unfold Oper.wp execOp
  simp only [ho, resolve, invoke, builtin, Sem.run_bind, Sem.run_pure, Result.andThen_ok, List.map_toArray, List.map_cons, List.map_nil, hs, hx, hr1]
  exact hK _ _ (h v1 w1 gs1 h1 hg hgs)
/-- What append leaves of a link: all but its row of what was sent. -/
theorem sent_far {W W' : World} {gs : Option Nat} {sv : Value} {l : List Int} (h : SentAt W sv l gs) (hgr : W.grownBy W' gs) {b : Nat} {o : Obj} (hb : W.heap[b]? = some o) (hne : ∀ cs : Array Value, o ≠ Obj.cells cs 58 (0, 0)) : W'.heap[b]? = some o := by
  refine (hgr.block b (Array.getElem?_eq_some_iff.1 hb).1 (fun e => ?_)).trans hb
  rcases h with ⟨_, _, e2⟩ | ⟨b', off, cap, cs, e1, _, h3, _⟩
  · rw [e2] at e; cases e
  · rw [e1] at e
    injection e with e
    subst e
    rw [h3] at hb
    injection hb with hb
    exact hne cs hb.symm
/-- The first number goes. -/
theorem sent_slide {w : World} {sv : Value} {x : Int} {l : List Int} {gs : Option Nat} (h : SentAt w sv (x :: l) gs) :
    ∃ v', (∀ W, (Instr.slice 60 sv (some (.int .i64 1)) none none).run Tryd.prog W = .ok v' W) ∧ SentAt w v' l gs := by
  obtain ⟨i0, hi0, _, hsz0, _⟩ := info_parts infoU
  have ht := Tryd.underlying60
  have hel : Tryd.prog.elem 60 = 58 := by simp [Program.elem, ht]
  have hu : Tryd.prog.underlying 60 = some (.slice (Tryd.prog.elem 60)) := by rw [hel]; exact ht
  rcases h with ⟨_, e, _⟩ | ⟨b, off, cap, cs, e1, rfl, h3, h4, h5, h6, h7⟩
  · cases e
  · have hl : (x :: l).length = l.length + 1 := rfl
    rw [hl] at h4 ⊢
    have hrun : ∀ W, (Instr.slice 60 (.slice (some ⟨b, off, none⟩) (l.length + 1) cap) (some (.int .i64 1)) none none).run Tryd.prog W = .ok (.slice (if cap = 1 then some ⟨b, off, none⟩ else some ⟨b, off + 1, none⟩) l.length (cap - 1)) W := by
      intro W
      rw [run_slice_l W 60 (some ⟨b, off, none⟩) (l.length + 1) cap hu .i64 (1 : Int) (by omega) (by omega), hel]
      have ha : (⟨b, off, none⟩ : Addr).add 1 = ⟨b, off + 1, none⟩ := by unfold Addr.add; split <;> simp_all
      by_cases hc : cap = 1
      · simp [sizeOf, typeInfo, hi0, hsz0, sliced, Result.andThen, hc]
      · simp [sizeOf, typeInfo, hi0, hsz0, sliced, Result.andThen, hc, ha]
    by_cases hc : cap = 1
    · have hl0 : l = [] := List.eq_nil_of_length_eq_zero (by omega)
      subst hl0
      refine ⟨_, hrun, .inr ⟨b, off, cap - 1, cs, e1, by rw [if_pos hc], h3, by simp, by omega, by omega, by simp⟩⟩
    · refine ⟨_, hrun, .inr ⟨b, off + 1, cap - 1, cs, e1, by rw [if_neg hc], h3, by omega, by omega, by omega, fun j y hj => ?_⟩⟩
      have := h7 (j + 1) y (by simpa using hj)
      rw [show off + 1 + j = off + (j + 1) by omega]
      exact this
end Go.Proofs.YtbdocgddidcfeaaDoor
