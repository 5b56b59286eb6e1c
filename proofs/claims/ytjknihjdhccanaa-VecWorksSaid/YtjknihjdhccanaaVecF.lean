/- The walk of vec.Long: the root of the sum of the squares, bit by bit. -/
import Derived.Test.YtjknihjdhccanaaVecE
import Derived.Test.YtjknihjdhccanaaVecL
namespace Go.Proofs.Ytjknihjdhccanaa
open Go.RowKit Go.Proofs.YtjknihjdhccanaaW.PrintWords Go.Proofs.YtjknihjdhccanaaW.PrintLast Go.Proofs.YtjknihjdhccanaaW.PrintMore
set_option linter.unusedVariables false
set_option linter.unusedSimpArgs false

theorem mul64_calls (a b : Int) (w : World) (ha : U64 a) (hb : U64 b) :
    Calls Try.prog 28 #[.int .u64 a, .int .u64 b] w fun e w' => e = .returned (.tuple #[.int .u64 (hi64 a b), .int .u64 (lo64 a b)]) ∧ ∃ n, w' = w.drewN n :=
  (PVecWorks.bits_Mul64.calls a b _ _ w (mul64_eq a b ha.1 ha.2 hb.1 hb.2)).mono fun _ _ h => ⟨h.1, h.2.out⟩

theorem add64_run (x y c : Int) (w : World) (hx : 0 ≤ x) (hy : 0 ≤ y) (h0 : 0 ≤ c) (h1 : c ≤ 1) :
    (callFunc 30 #[.int .u64 x, .int .u64 y, .int .u64 c]).run Try.prog w =
      .ok (.value (.tuple #[.int .u64 ((x + y + c) % 18446744073709551616), .int .u64 ((x + y + c) / 18446744073709551616)])) w := by
  rw [run_callFunc_extern Try.func30 (by kernel_rfl) (by kernel_rfl) (by kernel_rfl) (e := add64Entry) (by kernel_rfl), run_add64 x y c hx hy h0 h1]
  rfl

/-- The two halves of the sum of the squares. -/
def sumLo (x y : Int) : Int := (lo64 x x + lo64 y y + 0) % 18446744073709551616
def sumC (x y : Int) : Int := (lo64 x x + lo64 y y + 0) / 18446744073709551616
def sumHi (x y : Int) : Int := (hi64 x x + hi64 y y + sumC x y) % 18446744073709551616
def sumH2 (x y : Int) : Int := (hi64 x x + hi64 y y + sumC x y) / 18446744073709551616
theorem sum_whole (x y : Int) (hx : 0 ≤ x) (hx1 : x ≤ 9223372036854775808) (hy : 0 ≤ y) (hy1 : y ≤ 9223372036854775808) : sumHi x y * 18446744073709551616 + sumLo x y = x * x + y * y := by
  unfold sumHi sumC sumLo hi64 lo64
  have h1 : x * x ≤ 9223372036854775808 * 9223372036854775808 := Int.mul_le_mul hx1 hx1 hx (by omega)
  have h2 : y * y ≤ 9223372036854775808 * 9223372036854775808 := Int.mul_le_mul hy1 hy1 hy (by omega)
  have h3 := Int.mul_nonneg hx hx
  have h4 := Int.mul_nonneg hy hy
  generalize x * x = X at *
  generalize y * y = Y at *
  omega
def vecS (a b : Int) : Int := (a.natAbs : Int) * a.natAbs + (b.natAbs : Int) * b.natAbs
theorem intOf_int (k : IntKind) (n : Int) : intOf (.int k n) = n := rfl
set_option maxHeartbeats 4000000 in
set_option maxRecDepth 100000 in
theorem long_calls (a b : Int) (w : World) (ha : I64 a) (hb : I64 b) :
    Calls Try.prog 9 #[.agg #[.int .i64 a, .int .i64 b]] w
      fun e w' => ∃ r : Int, e = .returned (.int .i64 r) ∧ LRel 63 (vecS a b) 0 r ∧ Below w.heap.size w w' := by
  have HB := Aside0.mk (Below.refl w.heap.size w)
  obtain ⟨x, hx⟩ : ∃ x, x = (a.natAbs : Int) := ⟨_, rfl⟩
  obtain ⟨y, hy⟩ : ∃ y, y = (b.natAbs : Int) := ⟨_, rfl⟩
  have hux : U64 x := ⟨by omega, by have := ha.1; have := ha.2; omega⟩
  have huy : U64 y := ⟨by omega, by have := hb.1; have := hb.2; omega⟩
  have hsw := sum_whole x y (by omega) (by have := ha.1; have := ha.2; omega) (by omega) (by have := hb.1; have := hb.2; omega)
  have hS : vecS a b = sumHi x y * 18446744073709551616 + sumLo x y := by rw [hsw, hx, hy]; rfl
  have hL1 : sumLo x y < 18446744073709551616 := by unfold sumLo; omega
  have hL0 : 0 ≤ sumLo x y := by unfold sumLo; omega
  have hS0 : 0 ≤ vecS a b := by unfold vecS; have := Int.mul_nonneg (Int.natCast_nonneg a.natAbs) (Int.natCast_nonneg a.natAbs); have := Int.mul_nonneg (Int.natCast_nonneg b.natAbs) (Int.natCast_nonneg b.natAbs); omega
  have HS := Lib.hid hS
  have HL1 := Lib.hid hL1
  have HL0 := Lib.hid hL0
  have HS0 := Lib.hid hS0
  clear hS hL1 hL0 hS0 hsw
  have hsx := fun w => size_calls a w ha
  have hsy := fun w => size_calls b w hb
  rw [← hx] at hsx
  rw [← hy] at hsy
  have HSX := Lib.hid hsx
  have HSY := Lib.hid hsy
  clear hx hy hsx hsy
  have l1 : 0 ≤ lo64 x x := by unfold lo64; omega
  have l2 : 0 ≤ lo64 y y := by unfold lo64; omega
  have l3 : 0 ≤ hi64 x x := by unfold hi64; have := Int.mul_nonneg hux.1 hux.1; omega
  have l4 : 0 ≤ hi64 y y := by unfold hi64; have := Int.mul_nonneg huy.1 huy.1; omega
  have l5 : 0 ≤ sumC x y := by unfold sumC; omega
  have l6 : sumC x y ≤ 1 := by unfold sumC lo64; omega
  have r1 : ∀ w, (callFunc 30 #[.int .u64 (lo64 x x), .int .u64 (lo64 y y), .int .u64 0]).run Try.prog w = .ok (.value (.tuple #[.int .u64 (sumLo x y), .int .u64 (sumC x y)])) w := fun w => add64_run _ _ _ w l1 l2 (by omega) (by omega)
  have r2 : ∀ w, (callFunc 30 #[.int .u64 (hi64 x x), .int .u64 (hi64 y y), .int .u64 (sumC x y)]).run Try.prog w = .ok (.value (.tuple #[.int .u64 (sumHi x y), .int .u64 (sumH2 x y)])) w := fun w => add64_run _ _ _ w l3 l4 l5 l6
  go_enter Try.func9, Try.ntmps9
  go_wp2_with (first | ((with_reducible refine gate_dst (N := 1) rfl ?_); refine box_event ?hg (N := 1) ?hd (cs := #[.int .i64 a, .int .i64 b]) (t := 23) ?hr ?_; (case hd => rfl); (case hg => rfl); (case hr => first | (go_simp; done) | (go_simp; rfl)); intro g1 hg_ W1 hbox_ hb_; have GEg1 := Aside0.mk ((by rw [hg_]; exact (below_size HB.out)) : w.heap.size ≤ g1); clear hg_; have n_ := Aside0.mk (below_step HB.out hb_); clear HB; have HB := n_; clear n_; have BKg1 := Aside0.mk hbox_; clear hbox_ hb_; have hcg1_0 : W1.cell? ⟨g1, 0, none⟩ = some (.int .i64 a) := (blk_cell BKg1.out 0).trans rfl; have hfg1_0 := blk_frozen BKg1.out 0; have hcg1_1 : W1.cell? ⟨g1, 1, none⟩ = some (.int .i64 b) := (blk_cell BKg1.out 1).trans rfl; have hfg1_1 := blk_frozen BKg1.out 1))
  try simp only [Act.put, List.setIfInBounds_toArray, List.set_cons_zero, List.set_cons_succ]
  go_quiet (first | (go_at_call 29; refine quiet_in (fun w => HSX.out w)) | (go_at_call 28; refine quiet_in (fun w => mul64_calls _ _ w hux hux)))
  have n_ := Aside0.mk (blk_drewN BKg1.out nq); clear BKg1; have BKg1 := n_; clear n_
  clear hcg1_0 hfg1_0
  clear hcg1_1 hfg1_1
  have n_ := Aside0.mk (pw_below_drewN HB.out nq); clear HB; have HB := n_; clear n_
  generalize W1.drewN nq = W2 at *
  have hcg1_0 : W2.cell? ⟨g1, 0, none⟩ = some (.int .i64 a) := (blk_cell BKg1.out 0).trans rfl
  have hfg1_0 := blk_frozen BKg1.out 0
  have hcg1_1 : W2.cell? ⟨g1, 1, none⟩ = some (.int .i64 b) := (blk_cell BKg1.out 1).trans rfl
  have hfg1_1 := blk_frozen BKg1.out 1
  go_wp2_with fail
  go_quiet (first | (go_at_call 29; refine quiet_in (fun w => HSY.out w)) | (go_at_call 28; refine quiet_in (fun w => mul64_calls _ _ w huy huy)))
  have n_ := Aside0.mk (blk_drewN BKg1.out nq); clear BKg1; have BKg1 := n_; clear n_
  clear hcg1_0 hfg1_0
  clear hcg1_1 hfg1_1
  have n_ := Aside0.mk (pw_below_drewN HB.out nq); clear HB; have HB := n_; clear n_
  generalize W2.drewN nq = W3 at *
  have hcg1_0 : W3.cell? ⟨g1, 0, none⟩ = some (.int .i64 a) := (blk_cell BKg1.out 0).trans rfl
  have hfg1_0 := blk_frozen BKg1.out 0
  have hcg1_1 : W3.cell? ⟨g1, 1, none⟩ = some (.int .i64 b) := (blk_cell BKg1.out 1).trans rfl
  have hfg1_1 := blk_frozen BKg1.out 1
  go_wp2_with fail
  clear r1 r2 l1 l2 l3 l4 l5 l6
  go_loopw [8, 9] (fun vn vb wr => ∃ (m : Nat) (N : Int), vn = .int .u64 N ∧ vb = .int .u64 (bitOf m) ∧ Aside0 (m ≤ 63) ∧ Aside0 (LRel 63 (vecS a b) m N) ∧ Aside0 (Below w.heap.size w wr)) (fun _ vb _ => (intOf vb).toNat)
  case atStart => exact ⟨63, 0, rfl, rfl, ⟨by omega⟩, ⟨LRel.start 63 HS0.out⟩, HB⟩
  case round =>
    obtain ⟨m, N, rfl, rfl, Hm, HL, HBr⟩ := hrel
    cases m with
    | zero =>
      have hb0 : bitOf 0 = 0 := rfl
      have hN := HL.out.bound
      have h63 : two 63 = 9223372036854775808 := by decide
      have hN0 : 0 ≤ N := hN.1
      have hN1 : N ≤ 9223372036854775807 := by omega
      clear hN h63
      go_wp2
      go_ret
      exact ⟨N, rfl, HL.out, HBr.out⟩
    | succ k =>
      have hm := Hm.out
      have hb1 : bitOf (k + 1) = two k := rfl
      have hp := two_pos k
      have hb2 : 1 ≤ bitOf (k + 1) := by omega
      have HO : Hid (Go.bits .or .u64 N (bitOf (k + 1)) = N + two k) := HL.out.or (by omega)
      have hN := HL.out.bound
      have ht := HL.out.top
      have t1 := two_succ k
      have h63 : two 63 = 9223372036854775808 := by decide
      have hv0 : 0 ≤ N + two k := by omega
      have hv1 : N + two k ≤ 9223372036854775808 := by omega
      obtain ⟨V, hV⟩ : ∃ V, V = N + two k := ⟨_, rfl⟩
      have huV : U64 V := ⟨by omega, by omega⟩
      have ho : Go.bits .or .u64 N (bitOf (k + 1)) = V := by rw [hV]; exact HO.out
      have HV := Lib.hid hV
      have hhalf := Lib.hid (bitOf_half k)
      clear hV hb1 hp hm hN ht t1 h63 hv0 hv1
      generalize hB : bitOf (k + 1) = B at *
      have HB' := Lib.hid hB
      clear hB
      have hcase : (hi64 V V < sumHi x y) ∨ (hi64 V V = sumHi x y ∧ lo64 V V ≤ sumLo x y) ∨ (hi64 V V = sumHi x y ∧ sumLo x y < lo64 V V) ∨ (sumHi x y < hi64 V V) := by omega
      have hpost : (hi64 V V < sumHi x y ∨ (hi64 V V = sumHi x y ∧ lo64 V V ≤ sumLo x y)) → LRel 63 (vecS a b) k V := fun h => by
        rw [HV.out]
        refine HL.out.take ?_
        rw [← HV.out, HS.out]
        rcases h with h | ⟨h, g⟩
        · exact sq_le_of_lt HL0.out h
        · exact sq_le_of_eq h g
      have hpost2 : ((hi64 V V = sumHi x y ∧ sumLo x y < lo64 V V) ∨ (sumHi x y < hi64 V V)) → LRel 63 (vecS a b) k N := fun h => by
        refine HL.out.leave ?_
        rw [← HV.out, HS.out]
        rcases h with ⟨h, g⟩ | h
        · exact sq_gt_of_eq h g
        · exact sq_gt_of_gt HL1.out h
      have HP1 := Lib.hid hpost
      have HP2 := Lib.hid hpost2
      clear hpost hpost2
      rcases hcase with h | ⟨h, g⟩ | ⟨h, g⟩ | h
      · have hR := Lib.hid (HP1.out (Or.inl h))
        go_wp2_with (go_at_call 28; (with_reducible refine (mul64_calls _ _ _ huV huV).mono ?_); rintro e_ w_ ⟨rfl, ⟨nd_, rfl⟩⟩)
        exact ⟨⟨k, V, rfl, congrArg (Value.int .u64) hhalf.out, ⟨by have := Hm.out; omega⟩, ⟨hR.out⟩, ⟨pw_below_drewN HBr.out nd_⟩⟩, by simp only [intOf_int]; omega⟩
      · have hR := Lib.hid (HP1.out (Or.inr ⟨h, g⟩))
        have cA : decide (hi64 V V < sumHi x y) = false := decide_eq_false (by omega)
        have cB : (hi64 V V == sumHi x y) = true := beq_iff_eq.2 h
        have cC : decide (lo64 V V ≤ sumLo x y) = true := decide_eq_true g
        clear h g
        go_wp2_with (go_at_call 28; (with_reducible refine (mul64_calls _ _ _ huV huV).mono ?_); rintro e_ w_ ⟨rfl, ⟨nd_, rfl⟩⟩)
        exact ⟨⟨k, V, rfl, congrArg (Value.int .u64) hhalf.out, ⟨by have := Hm.out; omega⟩, ⟨hR.out⟩, ⟨pw_below_drewN HBr.out nd_⟩⟩, by simp only [intOf_int]; omega⟩
      · have hR := Lib.hid (HP2.out (Or.inl ⟨h, g⟩))
        have cA : decide (hi64 V V < sumHi x y) = false := decide_eq_false (by omega)
        have cB : (hi64 V V == sumHi x y) = true := beq_iff_eq.2 h
        have cC : decide (lo64 V V ≤ sumLo x y) = false := decide_eq_false (by omega)
        clear h g
        go_wp2_with (go_at_call 28; (with_reducible refine (mul64_calls _ _ _ huV huV).mono ?_); rintro e_ w_ ⟨rfl, ⟨nd_, rfl⟩⟩)
        exact ⟨⟨k, N, rfl, congrArg (Value.int .u64) hhalf.out, ⟨by have := Hm.out; omega⟩, ⟨hR.out⟩, ⟨pw_below_drewN HBr.out nd_⟩⟩, by simp only [intOf_int]; omega⟩
      · have hR := Lib.hid (HP2.out (Or.inr h))
        have cA : decide (hi64 V V < sumHi x y) = false := decide_eq_false (by omega)
        have cB : (hi64 V V == sumHi x y) = false := beq_eq_false_iff_ne.2 (by omega)
        clear h
        go_wp2_with (go_at_call 28; (with_reducible refine (mul64_calls _ _ _ huV huV).mono ?_); rintro e_ w_ ⟨rfl, ⟨nd_, rfl⟩⟩)
        exact ⟨⟨k, N, rfl, congrArg (Value.int .u64) hhalf.out, ⟨by have := Hm.out; omega⟩, ⟨hR.out⟩, ⟨pw_below_drewN HBr.out nd_⟩⟩, by simp only [intOf_int]; omega⟩
end Go.Proofs.Ytjknihjdhccanaa
