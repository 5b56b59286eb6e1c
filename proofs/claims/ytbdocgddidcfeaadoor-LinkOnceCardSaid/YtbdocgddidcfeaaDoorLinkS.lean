/- Arguments that are rows of rows: [][]byte, []Act: opened. -/
import Derived.Test.YtbdocgddidcfeaaDoorLinkR
import Derived.SizedLaws
import Derived.Deep.Slices
namespace Go.Proofs.YtbdocgddidcfeaaDoor
open Go.RowKit Go.ChangeShapes Go.WideShapes Go.Deep Go.Proofs.YtbdocgddidcfeaaDoorW.PrintWords Go.Proofs.YtbdocgddidcfeaaDoorW.PrintLast Go.Proofs.YtbdocgddidcfeaaDoorW.PrintMore
set_option linter.unusedVariables false
set_option linter.unusedSimpArgs false

theorem weightsAll_in {H : Type} {P : Program} {e : TypeId} {x : DataW H} : ∀ {l : List (DataW H)}, x ∈ l → ∀ n ∈ x.weights P e, n ∈ DataW.weightsAll P e l
  | [], h, _, _ => by cases h
  | d :: r, h, n, hn => by
    simp only [DataW.weightsAll, List.mem_append]
    rcases List.mem_cons.1 h with rfl | h
    · exact Or.inl hn
    · exact Or.inr (weightsAll_in h n hn)
section
variable {H : Type} {enc : TypeId × Value → H} {W : World} {base : Nat} {held : Bool}
theorem u8_bounds {x : Int} (h : (Lit.int .u8 x).wf = true) : 0 ≤ x ∧ x < 256 := by
  have h1 : IntKind.u8.min ≤ x ∧ x ≤ IntKind.u8.max := by simpa [Lit.wf] using h
  rw [show IntKind.u8.min = 0 by decide, show IntKind.u8.max = 255 by decide] at h1; omega
theorem C_row {a : Addr} {l : List Int} (hl : l.length ≤ 9223372036854775807) (hc : ∀ i, i < l.length → W.cell? (a.add i) = some (.int .u8 (l.getD i 0))) : Kd.C (Kd.int .u8) W (some a) l.length l := by
  refine ⟨rfl, hl, fun _ => ⟨a, rfl, fun j p hj => ⟨[.int .u8 p], rfl, rfl, fun i u hu => ?_⟩⟩⟩
  cases i with
  | succ i => simp at hu
  | zero =>
    simp only [List.getElem?_cons_zero, Option.some.injEq] at hu
    subst hu
    show W.cell? (a.add (j * 1 + 0)) = _
    have hj' := (List.getElem?_eq_some_iff.1 hj).1
    rw [Nat.mul_one, Nat.add_zero, hc j hj', List.getD_eq_getElem?_getD, hj]
    rfl
theorem open_bytes {fuel : Nat} {v : Value} {x : DataW H × List MemPlace} (h : DataW.trod enc Tryd.prog W base (fun _ => true) held fuel 30 [v] = some x) (hw : ∀ n ∈ x.1.weights Tryd.prog 30, n ≤ reachBytes) :
    ∃ t l, v = triV t ∧ ByIn W t l := by
  rcases open_ints Tryd.underlying30 Tryd.underlying5 (by kernel_rfl) h with ⟨hcs, hx⟩ | ⟨a, len, cap, zs, hcs, hb, hl, hm, hz, hx, hcell, hwz⟩
  · refine ⟨(none, 0, 0), [], ?_, ⟨rfl, Nat.le_refl _, Kd.C_nil _ _, by simp, by simp⟩⟩
    simpa [triV] using hcs
  · simp only [if_true] at hz
    have hzl : len ≤ zs.length := by omega
    have htl : (zs.take len).length = len := by rw [List.length_take]; omega
    have hwt := hw ((lits (H := H) .u8 (zs.take len)).length + (lits (H := H) .u8 (zs.drop len)).length) (by
      rw [hx]
      simp only [DataW.weights, Tryd.underlying30]
      rw [show Tryd.prog.bytesOf 5 = 1 by kernel_rfl, Nat.mul_one]
      exact List.mem_cons_self ..)
    have hsm : len ≤ 140737488351232 := by
      have h1 : (lits (H := H) .u8 (zs.take len)).length = len := by rw [show (lits (H := H) .u8 (zs.take len)).length = (zs.take len).length by simp [lits], htl]
      have h2 : reachBytes = 140737488351232 := rfl
      omega
    refine ⟨(some a, len, cap), zs.take len, by simpa [triV] using hcs, ⟨htl.symm, by rw [htl]; exact hl, C_row (by omega) (fun i hi => ?_), fun y hy => u8_bounds (hwz y (List.mem_of_mem_take hy)), by rw [htl]; exact hsm⟩⟩
    rw [htl] at hi
    rw [hcell i (by omega), List.getD_eq_getElem?_getD, List.getD_eq_getElem?_getD, List.getElem?_take, if_pos hi]
theorem open_rows {ts : List TypeId} {ds : List (DataW H)} {j : Nat} {b : Option Addr} {len cap : Nat} {d : DataW H} {ps : List MemPlace}
    (hsz : (DataW.weightsEach Tryd.prog ts ds).all (· ≤ reachBytes) = true) (ht : ts[j]? = some 24) (hd : ds[j]? = some d)
    (h : DataW.Trod enc Tryd.prog W base (fun _ => true) held 24 (.slice b len cap) d ps) : ∃ (T : List Tri) (L : List (List Int)), len = T.length ∧ RowsIn W b cap T L := by
  have hall : ∀ n ∈ d.weights Tryd.prog 24, n ≤ reachBytes := fun n hn => of_decide_eq_true (List.all_eq_true.1 hsz n (DataW.weights_mem_each ht hd n hn))
  obtain ⟨fuel, hf⟩ := h
  rcases open_slice1 Tryd.underlying24 (by kernel_rfl) hf with ⟨hcs, _⟩ | ⟨a, len', cap', m, n, V, D, Pl, hcs, hb, hl, hm, hmm, hx, hcell⟩
  · simp [Value.cells] at hcs
    obtain ⟨rfl, rfl, rfl⟩ := hcs
    exact ⟨[], [], rfl, ⟨rfl, Nat.le_refl _, Kd.C_nil _ _, by simp, by simp⟩⟩
  · simp [Value.cells] at hcs
    obtain ⟨rfl, rfl, rfl⟩ := hcs
    obtain ⟨hx, _⟩ := Prod.mk.inj hx
    subst hx
    simp only [if_true] at hmm
    subst hmm
    have each : ∀ i, i < len → ∃ q : Tri × List Int, V i = triV q.1 ∧ ByIn W q.1 q.2 := fun i hi => by
      obtain ⟨t, l, h1, h2⟩ := open_bytes (hcell i (by omega)).2 (fun n hn => hall n (by
        simp only [DataW.weights, Tryd.underlying24, List.mem_cons, List.mem_append]
        exact Or.inr (Or.inl (weightsAll_in (List.mem_map.2 ⟨i, by simpa using hi, rfl⟩) n hn))))
      exact ⟨(t, l), h1, h2⟩
    obtain ⟨q, hq⟩ := choose_lt each
    have hsm : len * 24 ≤ 140737488351232 := by
      have := hall ((((List.range len).map D).length + ((List.range (m - len)).map fun j => D (len + j)).length) * 24) (by
        simp only [DataW.weights, Tryd.underlying24]
        rw [show Tryd.prog.bytesOf 30 = 24 by kernel_rfl]
        exact List.mem_cons_self ..)
      have h2 : reachBytes = 140737488351232 := rfl
      rw [List.length_map, List.length_range] at this
      have h3 : len * 24 ≤ (len + ((List.range (m - len)).map fun j => D (len + j)).length) * 24 := Nat.mul_le_mul_right _ (Nat.le_add_right _ _)
      omega
    have e : ((List.range len).map fun i => (q i).1).length = len := by simp
    refine ⟨(List.range len).map fun i => (q i).1, (List.range len).map fun i => (q i).2, e.symm, ⟨by simp, by rw [e]; exact hl, ⟨rfl, by rw [e]; omega, fun _ => ⟨a, rfl, fun j p hj => ⟨[triV p], rfl, rfl, fun i u hu => ?_⟩⟩⟩, fun i t l h1 h2 => ?_, by rw [e]; omega⟩⟩
    · cases i with
      | succ i => simp at hu
      | zero =>
        simp only [List.getElem?_cons_zero, Option.some.injEq] at hu
        subst hu
        have hjl : j < len := by have := (List.getElem?_eq_some_iff.1 hj).1; rw [e] at this; exact this
        rw [List.getElem?_map, List.getElem?_range hjl] at hj
        simp only [Option.map_some, Option.some.injEq] at hj
        show W.cell? (a.add (j * 1 + 0)) = _
        rw [Nat.mul_one, Nat.add_zero, (hcell j (by omega)).1, (hq j hjl).1, hj]
    · have hi : i < len := by have := (List.getElem?_eq_some_iff.1 h1).1; rw [e] at this; exact this
      rw [List.getElem?_map, List.getElem?_range hi] at h1 h2
      simp only [Option.map_some, Option.some.injEq] at h1 h2
      subst h1; subst h2
      exact (hq i hi).2

/-- An act that came in: what it does, who, which, the bytes. -/
structure ActD where
  what : Int
  who : Int
  which : Int
  t : Tri
  l : List Int
instance : Inhabited ActD := ⟨⟨0, 0, 0, (none, 0, 0), []⟩⟩
def w64 (x : Int) : Prop := -9223372036854775808 ≤ x ∧ x ≤ 9223372036854775807
/-- Acts that came in, each in four cells. -/
structure ActsIn (w : World) (A : Option Addr) (c : Nat) (X : List ActD) : Prop where
  cap : X.length ≤ c
  small : X.length ≤ 140737488351232
  at_ : 0 < X.length → ∃ ad, A = some ad ∧ ∀ (i : Nat) x, X[i]? = some x → w.cell? (ad.add (i * 4)) = some (.int .i64 x.what) ∧ w.cell? (ad.add (i * 4 + 1)) = some (.int .i64 x.who) ∧ w.cell? (ad.add (i * 4 + 2)) = some (.int .i64 x.which) ∧ w.cell? (ad.add (i * 4 + 3)) = some (.slice x.t.1 x.l.length x.t.2.2)
  each : ∀ (i : Nat) x, X[i]? = some x → ByIn w x.t x.l ∧ w64 x.what ∧ w64 x.who ∧ w64 x.which
theorem ActsIn.below {w w' : World} {A : Option Addr} {c : Nat} {X : List ActD} (h : ActsIn w A c X) (hb : Below w.heap.size w w') : ActsIn w' A c X := by
  refine ⟨h.cap, h.small, fun h0 => ?_, fun i x hx => ⟨(h.each i x hx).1.below hb, (h.each i x hx).2⟩⟩
  obtain ⟨ad, hA, hc⟩ := h.at_ h0
  refine ⟨ad, hA, fun i x hx => ?_⟩
  obtain ⟨h1, h2, h3, h4⟩ := hc i x hx
  have mv : ∀ {p : Addr} {v : Value}, w.cell? p = some v → w'.cell? p = some v := fun hp => (hb.cell (World.block_lt_of_cell? w _ hp)).trans hp
  exact ⟨mv h1, mv h2, mv h3, mv h4⟩
theorem wf_i64 {x : Int} (h : (Lit.int .i64 x).wf = true) : w64 x := by
  have h1 : IntKind.i64.min ≤ x ∧ x ≤ IntKind.i64.max := by simpa [Lit.wf] using h
  rw [show IntKind.i64.min = -9223372036854775808 by decide, show IntKind.i64.max = 9223372036854775807 by decide] at h1
  exact h1
theorem open_acts {ts : List TypeId} {ds : List (DataW H)} {j : Nat} {b : Option Addr} {len cap : Nat} {d : DataW H} {ps : List MemPlace}
    (hsz : (DataW.weightsEach Tryd.prog ts ds).all (· ≤ reachBytes) = true) (ht : ts[j]? = some 32) (hd : ds[j]? = some d)
    (h : DataW.Trod enc Tryd.prog W base (fun _ => true) held 32 (.slice b len cap) d ps) : ∃ X : List ActD, len = X.length ∧ ActsIn W b cap X := by
  have hall : ∀ n ∈ d.weights Tryd.prog 32, n ≤ reachBytes := fun n hn => of_decide_eq_true (List.all_eq_true.1 hsz n (DataW.weights_mem_each ht hd n hn))
  obtain ⟨fuel, hf⟩ := h
  have ce : Tryd.prog.cellsOf 35 = 4 := by kernel_rfl
  have c1 : Tryd.prog.cellsOf 3 = 1 := by kernel_rfl
  have c2 : Tryd.prog.cellsOf 30 = 1 := by kernel_rfl
  rcases open_slice Tryd.underlying32 hf with ⟨hcs, _⟩ | ⟨a, len', cap', m, n, D, Pl, hcs, hb, hl, hm, hmm, hx, hcell⟩
  · simp [Value.cells] at hcs
    obtain ⟨rfl, rfl, rfl⟩ := hcs
    exact ⟨[], rfl, ⟨Nat.le_refl _, by simp, by simp, by simp⟩⟩
  · simp [Value.cells] at hcs
    obtain ⟨rfl, rfl, rfl⟩ := hcs
    obtain ⟨hx, _⟩ := Prod.mk.inj hx
    subst hx
    simp only [if_true] at hmm
    subst hmm
    have each : ∀ i, i < len → ∃ x : ActD, (W.cell? (a.add (i * 4)) = some (.int .i64 x.what) ∧ W.cell? (a.add (i * 4 + 1)) = some (.int .i64 x.who) ∧ W.cell? (a.add (i * 4 + 2)) = some (.int .i64 x.which) ∧ W.cell? (a.add (i * 4 + 3)) = some (.slice x.t.1 x.l.length x.t.2.2)) ∧ ByIn W x.t x.l ∧ w64 x.what ∧ w64 x.who ∧ w64 x.which := by
      intro i hi
      obtain ⟨cs', h1, h2⟩ := hcell i (by omega)
      rw [ce] at h1
      obtain ⟨_, hlen, hcl⟩ := World.cells?_some h1
      obtain ⟨xs, k, hk, hxy, _, hxl, hfs⟩ := DataW.trod_struct Tryd.underlying35 h2
      match xs, hxl, cs', hlen with
      | [y0, y1, y2, y3], _, [v0, v1, v2, v3], _ =>
        have g0 := hfs 0 _ rfl
        have g1 := hfs 1 _ rfl
        have g2 := hfs 2 _ rfl
        have g3 := hfs 3 _ rfl
        simp [c1, c2] at g0 g1 g2 g3
        have e0 := hcl 0 (by omega)
        have e1 := hcl 1 (by omega)
        have e2 := hcl 2 (by omega)
        have e3 := hcl 3 (by omega)
        rw [Go.Deep.add_add] at e0 e1 e2 e3
        obtain ⟨n0, r0, _, w0⟩ := DataW.trod_int Tryd.underlying3 g0
        obtain ⟨n1, r1, _, w1⟩ := DataW.trod_int Tryd.underlying3 g1
        obtain ⟨n2, r2, _, w2⟩ := DataW.trod_int Tryd.underlying3 g2
        simp only [List.cons.injEq, and_true] at r0 r1 r2
        subst r0; subst r1; subst r2
        have hD : D i = .agg [y0.1, y1.1, y2.1, y3.1] := by
          have := congrArg Prod.fst hxy
          simpa using this
        obtain ⟨t, l, e4, hby⟩ := open_bytes g3 (fun n hn => hall n (by
          simp only [DataW.weights, Tryd.underlying32, List.mem_cons, List.mem_append]
          refine Or.inr (Or.inl (weightsAll_in (List.mem_map.2 ⟨i, by simpa using hi, hD⟩) n ?_))
          simp only [DataW.weights, Tryd.underlying35]
          exact DataW.weights_mem_each (j := 3) rfl rfl n hn))
        subst e4
        refine ⟨⟨n0, n1, n2, t, l⟩, ⟨by simpa using e0, by simpa using e1, by simpa using e2, ?_⟩, hby, wf_i64 w0, wf_i64 w1, wf_i64 w2⟩
        have e5 : W.cell? (a.add (i * 4 + 3)) = some (triV t) := by simpa using e3
        rw [e5]
        unfold triV
        rw [hby.len]
    obtain ⟨q, hq⟩ := choose_lt each
    have hsm : len * 48 ≤ 140737488351232 := by
      have := hall ((((List.range len).map D).length + ((List.range (m - len)).map fun j => D (len + j)).length) * 48) (by
        simp only [DataW.weights, Tryd.underlying32]
        rw [show Tryd.prog.bytesOf 35 = 48 by kernel_rfl]
        exact List.mem_cons_self ..)
      have h2 : reachBytes = 140737488351232 := rfl
      rw [List.length_map, List.length_range] at this
      have h3 : len * 48 ≤ (len + ((List.range (m - len)).map fun j => D (len + j)).length) * 48 := Nat.mul_le_mul_right _ (Nat.le_add_right _ _)
      omega
    have e : ((List.range len).map q).length = len := by simp
    have get : ∀ (i : Nat) x, ((List.range len).map q)[i]? = some x → i < len ∧ q i = x := fun i x hx => by
      have hi : i < len := by have := (List.getElem?_eq_some_iff.1 hx).1; rw [e] at this; exact this
      rw [List.getElem?_map, List.getElem?_range hi] at hx
      exact ⟨hi, by simpa using hx⟩
    refine ⟨(List.range len).map q, e.symm, ⟨by rw [e]; exact hl, by rw [e]; omega, fun _ => ⟨a, rfl, fun i x hx => ?_⟩, fun i x hx => ?_⟩⟩
    · obtain ⟨hi, rfl⟩ := get i x hx
      exact (hq i hi).1
    · obtain ⟨hi, rfl⟩ := get i x hx
      exact (hq i hi).2
end
end Go.Proofs.YtbdocgddidcfeaaDoor
