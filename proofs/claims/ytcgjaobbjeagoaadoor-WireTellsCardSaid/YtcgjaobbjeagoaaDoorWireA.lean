/- slices.Grow of nil, by bytes. -/
import Derived.Test.YtcgjaobbjeagoaaDoorKit
import Derived.Test.YtcgjaobbjeagoaaDoorWZeros
import Derived.Test.YtcgjaobbjeagoaaDoorProg
import Derived.WalkSpells
namespace Go.Proofs.YtcgjaobbjeagoaaDoor
open Go.RowKit Go.Proofs.YtcgjaobbjeagoaaDoorW.PrintWords Go.Proofs.YtcgjaobbjeagoaaDoorW.PrintLast Go.Proofs.YtcgjaobbjeagoaaDoorW.PrintMore
set_option linter.unusedVariables false
set_option linter.unusedSimpArgs false

theorem infoB : (Tryd.prog.info? 5).map (fun i => (i.zero, i.size, i.bytes)) = some (some (.int .u8 0), 1, 1) := by kernel_rfl

set_option maxHeartbeats 2000000 in
set_option maxRecDepth 100000 in
theorem grow_nil (n : Int) (w : World) (h0 : 0 ≤ n) (hn : n ≤ 140737488355328) :
    Calls Tryd.prog 39 #[.slice none 0 0, .int .i64 n] w
      fun e w' => ∃ v, e = .returned v ∧ Kd.R (Kd.int .u8) 5 w' w.heap.size (fun _ => True) v [] ∧ Below w.heap.size w w' := by
  have HB := Aside0.mk (Below.refl w.heap.size w)
  by_cases hz : n = 0
  · subst hz
    go_enter Tryd.func39, Tryd.ntmps39
    go_wp2
    go_ret
    exact ⟨_, rfl, Kd.R_nil _ _ _ _ _, HB.out⟩
  · have hp : 0 < n := by omega
    go_enter Tryd.func39, Tryd.ntmps39
    go_wp2_with (first | ((with_reducible refine gate_builtin (b := .append) (xs := #[.tmp 20, .tmp 21]) rfl ?_); at_builtin; refine Kd.R_append_zeros (Kd.int .u8) (w0 := w) w.heap.size rfl (.tmp 20) (.tmp 21) 23 3 5 (.int .u8 0) 1 rfl Tryd.underlying23 Tryd.underlying3 infoB rfl (by decide) (by omega) (.slice none 0 0) [] (0 : Int) n (fun _ => True) rfl rfl rfl (fun _ _ => trivial) (Kd.R_nil _ _ _ _ _) h0 HB.out (Nat.le_refl _) ?aL ?_; (case aL => simp; omega); intro v1 w1 ho hb hg hat; have HO := Aside0.mk ho; clear HB; have HB := Aside0.mk hb; clear ho hb hg hat; obtain ⟨A1, c1, hv⟩ := Kd.R_slice HO.out; subst hv; obtain ⟨i0, hi0, _, hsz0, _⟩ := info_parts infoB; obtain ⟨hcut, hA⟩ := print_take_int (P := Tryd.prog) (k := .i64) 23 5 Tryd.underlying23 hi0 hsz0 A1 c1 (List.replicate n.toNat 0) 0 (by omega) (by omega) (by have := (Kd.R_reads' HO.out).2.1; simpa using this)))
    go_ret
    exact ⟨_, rfl, Kd.R_take (m := 0) HO.out (Nat.zero_le _), HB.out⟩
end Go.Proofs.YtcgjaobbjeagoaaDoor
