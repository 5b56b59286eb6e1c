/- strconv.ParseUint; strings.Cut at a point; strings.Trim; double. -/
import Derived.Test.YtklkikndcieojaaDoorFixE
import Derived.Shelf.Strings.SlTrimAscii
import Derived.Lib.IfaceEq
namespace Go.Proofs.YtklkikndcieojaaDoor
open Go.RowKit Go.Proofs.YtklkikndcieojaaDoorW.PrintWords Go.Proofs.YtklkikndcieojaaDoorW.PrintLast Go.Proofs.YtklkikndcieojaaDoorW.PrintMore
set_option linter.unusedVariables false
set_option linter.unusedSimpArgs false

/-- What the program's own texts lay into memory. -/
structure FixW (w : World) : Prop where
  pow : Lib.TabIs Tryd.prog w "internal/strconv.uint64pow10" .u64 Lib.pow10Tab
  rng : ∃ te pe, w.cell? ⟨2, 0, none⟩ = some (.iface te pe)
theorem FixW.below {w w' : World} (h : FixW w) (hb : Below w.heap.size w w') : FixW w' := by
  refine ⟨?_, ?_⟩
  · have hp := h.pow
    unfold Lib.TabIs World.var? at *
    cases hg : Tryd.prog.globalNamed "internal/strconv.uint64pow10" with
    | none => rw [hg] at hp; simp at hp
    | some g =>
      rw [hg] at hp
      simp only [Option.bind_some] at hp ⊢
      have hlt : g < w.heap.size := by
        cases hh : w.heap[g]? with
        | none => rw [hh] at hp; cases hp
        | some o => exact (Array.getElem?_eq_some_iff.1 hh).1
      rw [hb.block g hlt]
      exact hp
  · obtain ⟨te, pe, hc⟩ := h.rng
    exact ⟨te, pe, (hb.cell (World.block_lt_of_cell? w _ hc)).trans hc⟩

def PUout (w : World) (l : List Int) (M : Int) (e : Ending) (w' : World) : Prop :=
  (numV 0 l ≤ M ∧ e = .returned (.tuple #[.int .u64 (numV 0 l), .nilIface]) ∧ Below w.heap.size w w') ∨ (M < numV 0 l ∧ ∃ t p, e = .returned (.tuple #[.int .u64 M, .iface t p]) ∧ Below w.heap.size w w')
set_option maxRecDepth 100000 in
theorem err_eq (a b : Int) (w : World) : (binOp .eql 51 (.iface 70 (.int .i64 a)) (.iface 70 (.int .i64 b))).run Tryd.prog w = .ok (.bool (a == b)) w :=
  Lib.run_eql_iface_int w a b Tryd.underlying51 (by kernel_rfl) Tryd.underlying70
set_option maxHeartbeats 4000000 in
set_option maxRecDepth 100000 in
theorem toError_calls (s : ByteArray) (B : Int) (w : World) (hW : FixW w) (hs : s.size ≤ 140737488355328) :
    Calls Tryd.prog 46 #[.string ⟨#[80, 97, 114, 115, 101, 85, 105, 110, 116]⟩, .string s, .int .i64 10, .int .i64 B, .iface 70 (.int .i64 1)] w fun e w' => ∃ t p, e = .returned (.iface t p) ∧ Below w.heap.size w w' := by
  obtain ⟨te, pe, hc⟩ := hW.rng
  have hre := Tryd.strconv_rangeError ⟨#[80, 97, 114, 115, 101, 85, 105, 110, 116]⟩ s (.iface te pe) w (by omega) hc (.inr ⟨te, pe, rfl⟩)
  clear hc hW
  have q2 := err_eq 1 2 w
  have q1 := err_eq 1 1 w
  rw [show ((1 : Int) == 2) = false by decide] at q2
  rw [show ((1 : Int) == 1) = true by decide] at q1
  go_enter Tryd.func46, Tryd.ntmps46
  go_wp2_with fail
  ((with_reducible refine hre.mono ?_); rintro e_ W1 ⟨N, rfl, _, _, hb⟩)
  have HB := Aside0.mk hb
  clear hb hre q1 q2
  go_wp2
  go_ret
  exact ⟨_, _, rfl, HB.out⟩
set_option maxHeartbeats 4000000 in
set_option maxRecDepth 100000 in
theorem ParseUint_calls (s : ByteArray) (B M : Int) (hB : (B = 31 ∧ M = 2147483647) ∨ (B = 63 ∧ M = 9223372036854775807)) (w : World) (hW : FixW w) (hd : Digs (bytesOf s)) (h0 : 0 < s.size) (hs : s.size ≤ 140737488355328) :
    Calls Tryd.prog 39 #[.string s, .int .i64 10, .int .i64 B] w (PUout w (bytesOf s) M) := by
  have hi := iParseUint_calls s B M hB w hd h0 hs
  have HW := Aside0.mk hW
  clear hW hd h0 hB
  unfold PUpost at hi
  by_cases hv : numV 0 (bytesOf s) ≤ M
  · rw [if_pos hv, if_pos hv] at hi
    have HV := Aside0.mk hv
    obtain ⟨v, hvv⟩ : ∃ v, v = numV 0 (bytesOf s) := ⟨_, rfl⟩
    rw [← hvv] at hi
    have HVV := Aside0.mk hvv
    clear hv hvv
    go_enter Tryd.func39, Tryd.ntmps39
    go_wp2_with fail
    ((with_reducible refine hi.mono ?_); rintro e_ W1 ⟨rfl, hb⟩)
    have HB := Aside0.mk hb
    clear hb hi
    go_wp2
    go_ret2
    exact .inl ⟨HV.out, by rw [← HVV.out]; rfl, HB.out⟩
  · rw [if_neg hv, if_neg hv] at hi
    have HV : Aside0 (M < numV 0 (bytesOf s)) := ⟨by omega⟩
    have hbig := hs
    clear hv
    go_enter Tryd.func39, Tryd.ntmps39
    go_wp2_with fail
    ((with_reducible refine hi.mono ?_); rintro e_ W1 ⟨rfl, hb⟩)
    have HB := Aside0.mk hb
    clear hb hi
    go_wp2_with fail
    ((with_reducible refine (toError_calls s B W1 (HW.out.below HB.out) hs).mono ?_); rintro e_ W2 ⟨t, p, rfl, hb⟩)
    have HB2 := Aside0.mk hb
    clear hb
    go_wp2
    go_ret2
    exact .inr ⟨HV.out, t, p, rfl, below_step HB.out HB2.out⟩

set_option maxHeartbeats 4000000 in
set_option maxRecDepth 100000 in
/-- No table is read where the number fits. -/
theorem ParseUint_ok (s : ByteArray) (B M : Int) (hB : (B = 31 ∧ M = 2147483647) ∨ (B = 63 ∧ M = 9223372036854775807)) (w : World) (hd : Digs (bytesOf s)) (h0 : 0 < s.size) (hs : s.size ≤ 140737488355328) (hv : numV 0 (bytesOf s) ≤ M) :
    Calls Tryd.prog 39 #[.string s, .int .i64 10, .int .i64 B] w fun e w' => e = .returned (.tuple #[.int .u64 (numV 0 (bytesOf s)), .nilIface]) ∧ Below w.heap.size w w' := by
  have hi := iParseUint_calls s B M hB w hd h0 hs
  clear hd h0 hB
  unfold PUpost at hi
  rw [if_pos hv, if_pos hv] at hi
  obtain ⟨v, hvv⟩ : ∃ v, v = numV 0 (bytesOf s) := ⟨_, rfl⟩
  rw [← hvv] at hi
  have HVV := Aside0.mk hvv
  clear hv hvv
  go_enter Tryd.func39, Tryd.ntmps39
  go_wp2_with fail
  ((with_reducible refine hi.mono ?_); rintro e_ W1 ⟨rfl, hb⟩)
  have HB := Aside0.mk hb
  clear hb hi
  go_wp2
  go_ret2
  exact ⟨by rw [← HVV.out]; rfl, HB.out⟩

/-! ### Cut at a point -/
theorem indexByte_at (c : UInt8) : ∀ (l : List UInt8), (Lib.indexByte l c = -1 ∧ c ∉ l) ∨ ∃ k : Nat, Lib.indexByte l c = (k : Int) ∧ k < l.length ∧ l[k]? = some c ∧ c ∉ l.take k
  | [] => .inl ⟨rfl, by simp⟩
  | b :: l => by
    unfold Lib.indexByte
    by_cases h : (b == c) = true
    · rw [if_pos h]
      refine .inr ⟨0, rfl, by simp, ?_, by simp⟩
      have hb : b = c := by simpa using h
      rw [hb]; rfl
    · rw [if_neg h]
      rcases indexByte_at c l with ⟨e, hn⟩ | ⟨k, e, hk, hc, hn⟩
      · rw [e]
        refine .inl ⟨rfl, fun hm => ?_⟩
        rcases List.mem_cons.1 hm with e2 | e2
        · exact h (by simp [e2])
        · exact hn e2
      · rw [e]
        have hne : ((k : Int) == -1) = false := beq_eq_false_iff_ne.2 (by omega)
        rw [hne]
        refine .inr ⟨k + 1, by simp, by simpa using hk, by simpa using hc, fun hm => ?_⟩
        rw [List.take_succ_cons] at hm
        rcases List.mem_cons.1 hm with e2 | e2
        · exact h (by simp [e2])
        · exact hn e2
set_option maxHeartbeats 4000000 in
set_option maxRecDepth 100000 in
theorem iCut_none (s : ByteArray) (w : World) (h : (46 : UInt8) ∉ s.data.toList) :
    Calls Tryd.prog 48 #[.string s, .string ⟨#[46]⟩] w fun e w' => e = .returned (.tuple #[.string s, .string ⟨#[]⟩, .bool false]) ∧ w' = w := by
  have hix := Tryd.stringslite_Index_one s 46 w
  have e : Lib.indexByte s.data.toList 46 = -1 := by
    rcases indexByte_at 46 s.data.toList with ⟨e, _⟩ | ⟨k, e, hk, hc, hn⟩
    · exact e
    · exact absurd (List.mem_of_getElem? hc) h
  rw [e] at hix
  clear e h
  go_enter Tryd.func48, Tryd.ntmps48
  go_wp2_with fail
  ((with_reducible refine hix.mono ?_); rintro e_ W1 ⟨rfl, rfl⟩)
  clear hix
  go_wp2
  go_ret3
  exact ⟨rfl, rfl⟩
set_option maxHeartbeats 4000000 in
set_option maxRecDepth 100000 in
theorem Cut_none (s : ByteArray) (w : World) (h : (46 : UInt8) ∉ s.data.toList) :
    Calls Tryd.prog 42 #[.string s, .string ⟨#[46]⟩] w fun e w' => e = .returned (.tuple #[.string s, .string ⟨#[]⟩, .bool false]) ∧ w' = w := by
  have hc := iCut_none s w h
  clear h
  go_enter Tryd.func42, Tryd.ntmps42
  go_wp2_with fail
  ((with_reducible refine hc.mono ?_); rintro e_ W1 ⟨rfl, rfl⟩)
  clear hc
  go_wp2
  go_ret3
  exact ⟨rfl, rfl⟩
set_option maxHeartbeats 4000000 in
set_option maxRecDepth 100000 in
theorem iCut_some (s : ByteArray) (k : Nat) (w : World) (hs : s.size ≤ 140737488355328) (h : Lib.indexByte s.data.toList 46 = (k : Int)) :
    Calls Tryd.prog 48 #[.string s, .string ⟨#[46]⟩] w fun e w' => e = .returned (.tuple #[.string (s.extract 0 k), .string (s.extract (k + 1) s.size), .bool true]) ∧ ∃ n, w' = w.drewN n := by
  have hix := Tryd.stringslite_Index_one s 46 w
  have hk : k < s.size := by
    rcases indexByte_at 46 s.data.toList with ⟨e, _⟩ | ⟨k', e, hk, hc, hn⟩
    · rw [h] at e; omega
    · rw [h] at e
      have : k = k' := by omega
      rw [Lib.size_eq, this]; exact hk
  rw [h] at hix
  clear h
  go_enter Tryd.func48, Tryd.ntmps48
  go_wp2_with fail
  ((with_reducible refine hix.mono ?_); rintro e_ W1 ⟨rfl, rfl⟩)
  clear hix
  go_wp2
  go_quiet (fail)
  go_wp2
  go_ret3
  exact ⟨rfl, _, rfl⟩
set_option maxHeartbeats 4000000 in
set_option maxRecDepth 100000 in
theorem Cut_some (s : ByteArray) (k : Nat) (w : World) (hs : s.size ≤ 140737488355328) (h : Lib.indexByte s.data.toList 46 = (k : Int)) :
    Calls Tryd.prog 42 #[.string s, .string ⟨#[46]⟩] w fun e w' => e = .returned (.tuple #[.string (s.extract 0 k), .string (s.extract (k + 1) s.size), .bool true]) ∧ ∃ n, w' = w.drewN n := by
  have hc := iCut_some s k w hs h
  clear h
  go_enter Tryd.func42, Tryd.ntmps42
  go_wp2_with fail
  ((with_reducible refine hc.mono ?_); rintro e_ W1 ⟨rfl, n, rfl⟩)
  clear hc
  go_wp2
  go_ret3
  exact ⟨rfl, n, rfl⟩
end Go.Proofs.YtklkikndcieojaaDoor
