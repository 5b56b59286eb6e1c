/- strconv.ParseUint of digits. -/
import Derived.Test.YtklkikndcieojaaDoorFixD
import Derived.Test.YtklkikndcieojaaDoorFp1
namespace Go.Proofs.YtklkikndcieojaaDoor
open Go.RowKit Go.Proofs.YtklkikndcieojaaDoorW.PrintWords Go.Proofs.YtklkikndcieojaaDoorW.PrintLast Go.Proofs.YtklkikndcieojaaDoorW.PrintMore
set_option linter.unusedVariables false
set_option linter.unusedSimpArgs false

/-- The number that decimal digits (bytes) say, behind n. -/
def numV (n : Int) (l : List Int) : Int := l.foldl (fun n c => n * 10 + (c - 48)) n
def Digs (l : List Int) : Prop := ∀ c ∈ l, 48 ≤ c ∧ c ≤ 57
theorem numV_cons (n c : Int) (l : List Int) : numV n (c :: l) = numV (n * 10 + (c - 48)) l := rfl
theorem numV_ge : ∀ (l : List Int) (n : Int), Digs l → 0 ≤ n → n ≤ numV n l
  | [], n, _, _ => Int.le_refl n
  | c :: l, n, hd, hn => by
    have hc := hd c (List.mem_cons_self ..)
    have := numV_ge l (n * 10 + (c - 48)) (fun x hx => hd x (List.mem_cons_of_mem _ hx)) (by omega)
    rw [numV_cons]
    omega
theorem numV_take (l : List Int) (i : Nat) (h : i < l.length) : numV 0 (l.take (i + 1)) = numV 0 (l.take i) * 10 + (rd l (i : Int) - 48) := by
  unfold numV
  rw [List.take_succ_eq_append_getElem h, List.foldl_append, rd_get' h]
  rfl
theorem numV_drop (l : List Int) (i : Nat) : numV 0 l = numV (numV 0 (l.take i)) (l.drop i) := by
  unfold numV
  rw [← List.foldl_append, List.take_append_drop]
theorem Digs.drop {l : List Int} (h : Digs l) (i : Nat) : Digs (l.drop i) := fun c hc => h c (List.mem_of_mem_drop hc)
theorem Digs.take {l : List Int} (h : Digs l) (i : Nat) : Digs (l.take i) := fun c hc => h c (List.mem_of_mem_take hc)
theorem numV_over {l : List Int} (hd : Digs l) (i : Nat) {M : Int} (h : M < numV 0 (l.take i)) : M < numV 0 l := by
  rw [numV_drop l i]
  have h0 := numV_ge (l.take i) 0 (hd.take i) (by omega)
  have := numV_ge (l.drop i) (numV 0 (l.take i)) (hd.drop i) h0
  omega
def PUpost (w : World) (l : List Int) (M : Int) (e : Ending) (w' : World) : Prop :=
  e = .returned (.tuple #[.int .u64 (if numV 0 l ≤ M then numV 0 l else M), if numV 0 l ≤ M then .nilIface else .iface 70 (.int .i64 1)]) ∧ Below w.heap.size w w'

theorem str_ne {s : ByteArray} (h : 0 < s.size) : s.toList ≠ [] := by
  intro e
  have : s.toList.length = s.size := by rw [Lib.toList_data]; exact (Lib.size_eq s).symm
  rw [e] at this
  simp at this
  omega

set_option maxHeartbeats 8000000 in
set_option maxRecDepth 100000 in
theorem iParseUint_calls (s : ByteArray) (B M : Int) (hB : (B = 31 ∧ M = 2147483647) ∨ (B = 63 ∧ M = 9223372036854775807)) (w : World) (hd : Digs (bytesOf s)) (h0 : 0 < s.size) (hs : s.size ≤ 140737488355328) :
    Calls Tryd.prog 45 #[.string s, .int .i64 10, .int .i64 B] w (PUpost w (bytesOf s) M) := by
  have hne := str_ne h0
  have hne2 : s.toList.isEmpty = false := by
    cases h : s.toList with
    | nil => exact absurd h hne
    | cons a b => rfl
  have kb := fun W => print_bytes (P := Tryd.prog) 9 54 5 Tryd.underlying9 Tryd.underlying54 Tryd.underlying5 s W
  have hlb : (bytesOf s).length = s.size := by simp [bytesOf]
  have hrd := bytes_reads w 5 s (by omega)
  have hbl := bytes_below (Below.refl w.heap.size w) (Nat.le_refl _) 5 s
  obtain ⟨l, hl⟩ : ∃ l, l = bytesOf s := ⟨_, rfl⟩
  rw [← hl] at hd hlb hrd ⊢
  obtain ⟨W0, hW0⟩ : ∃ W0, W0 = Lib.bytesWorld w 5 s := ⟨_, rfl⟩
  rw [← hW0] at hrd hbl
  have HB := Aside0.mk hbl; have HD := Aside0.mk hd; have HL := Aside0.mk hlb
  have HC : Aside0 (Kd.C (Kd.int .u8) W0 (some ⟨w.heap.size, 0, none⟩) s.size l) := ⟨Kd.C_of_reads (d := (0 : Int)) (h1 := fun _ => rfl) hrd⟩
  have hkb := kb w
  rw [← hW0] at hkb
  clear hbl hd hlb hrd hl kb hW0
  obtain ⟨n, hn⟩ : ∃ n, n = s.size := ⟨_, rfl⟩
  rw [← hn] at h0 hs hkb HC HL
  clear hn
  rcases hB with ⟨rfl, rfl⟩ | ⟨rfl, rfl⟩
  · go_enter Tryd.func45, Tryd.ntmps45
    go_wp2
    go_loop [12, 13, 101] (fun vu vn vi => vu = .bool false ∧ ∃ i : Nat, vi = .int .i64 i ∧ i ≤ n ∧ vn = .int .u64 (numV 0 (l.take i)) ∧ 0 ≤ numV 0 (l.take i) ∧ numV 0 (l.take i) ≤ 2147483647) (fun _ _ vi => (n - (intOf vi).toNat))
    case atStart => exact ⟨rfl, 0, rfl, by omega, rfl, by simp [numV], by simp [numV]⟩
    case round =>
      obtain ⟨rfl, i, rfl, hi, rfl, hv0, hv1⟩ := hrel
      by_cases hx : i < n
      · have dx : decide (i < n) = true := decide_eq_true hx
        have hil : i < l.length := by have := HL.out; omega
        obtain ⟨ad, e1, hc⟩ := Kd.at_int HC.out (i : Int) (by omega) (by omega)
        injection e1 with e1
        subst e1
        rw [Int.toNat_natCast, add_plain] at hc
        have hcd := HD.out (rd l (i : Int)) (by rw [rd_get' hil]; exact List.getElem_mem hil)
        have hst := numV_take l i hil
        have hov := fun h => numV_over HD.out (i + 1) (M := 2147483647) h
        have HST := Aside0.mk hst; have HOV := Aside0.mk hov
        clear hst hov
        generalize rd l (i : Int) = c at hc hcd HST
        generalize numV 0 (l.take i) = v at hv0 hv1 HST ⊢
        have d48 : decide (48 ≤ c) = true := decide_eq_true hcd.1
        have d57 : decide (c ≤ 57) = true := decide_eq_true hcd.2
        have d95 : (c == 95) = false := by simp; omega
        have dlt : decide (v * 10 + (c - 48) < v * 10) = false := decide_eq_false (by omega)
        have d10 : decide (10 ≤ c - 48) = false := decide_eq_false (by omega)
        by_cases hcut : 1844674407370955162 ≤ v
        · have dc : decide (1844674407370955162 ≤ v) = true := decide_eq_true hcut
          go_wp2
          go_ret2
          have := HOV.out (by rw [HST.out]; omega)
          exact ⟨by rw [if_neg (by omega), if_neg (by omega)]; rfl, HB.out⟩
        · have dc : decide (1844674407370955162 ≤ v) = false := decide_eq_false hcut
          by_cases hM : 2147483647 < v * 10 + (c - 48)
          · have dM : decide (2147483647 < v * 10 + (c - 48)) = true := decide_eq_true hM
            go_wp2
            go_ret2
            have := HOV.out (by rw [HST.out]; omega)
            exact ⟨by rw [if_neg (by omega), if_neg (by omega)]; rfl, HB.out⟩
          · have dM : decide (2147483647 < v * 10 + (c - 48)) = false := decide_eq_false hM
            go_wp2
            go_round
            case rel => exact ⟨rfl, i + 1, by go_num, by omega, by rw [HST.out], by rw [HST.out]; omega, by rw [HST.out]; omega⟩
            case measure => simp [intOf]; omega
      · have dx : decide (i < n) = false := decide_eq_false hx
        have htk : l.take i = l := List.take_of_length_le (by have := HL.out; omega)
        rw [htk] at hv0 hv1 ⊢
        have HV1 := Aside0.mk hv1
        clear htk
        go_wp2
        go_ret2
        exact ⟨by rw [if_pos HV1.out, if_pos HV1.out]; rfl, HB.out⟩
  · go_enter Tryd.func45, Tryd.ntmps45
    go_wp2
    go_loop [12, 13, 101] (fun vu vn vi => vu = .bool false ∧ ∃ i : Nat, vi = .int .i64 i ∧ i ≤ n ∧ vn = .int .u64 (numV 0 (l.take i)) ∧ 0 ≤ numV 0 (l.take i) ∧ numV 0 (l.take i) ≤ 9223372036854775807) (fun _ _ vi => (n - (intOf vi).toNat))
    case atStart => exact ⟨rfl, 0, rfl, by omega, rfl, by simp [numV], by simp [numV]⟩
    case round =>
      obtain ⟨rfl, i, rfl, hi, rfl, hv0, hv1⟩ := hrel
      by_cases hx : i < n
      · have dx : decide (i < n) = true := decide_eq_true hx
        have hil : i < l.length := by have := HL.out; omega
        obtain ⟨ad, e1, hc⟩ := Kd.at_int HC.out (i : Int) (by omega) (by omega)
        injection e1 with e1
        subst e1
        rw [Int.toNat_natCast, add_plain] at hc
        have hcd := HD.out (rd l (i : Int)) (by rw [rd_get' hil]; exact List.getElem_mem hil)
        have hst := numV_take l i hil
        have hov := fun h => numV_over HD.out (i + 1) (M := 9223372036854775807) h
        have HST := Aside0.mk hst; have HOV := Aside0.mk hov
        clear hst hov
        generalize rd l (i : Int) = c at hc hcd HST
        generalize numV 0 (l.take i) = v at hv0 hv1 HST ⊢
        have d48 : decide (48 ≤ c) = true := decide_eq_true hcd.1
        have d57 : decide (c ≤ 57) = true := decide_eq_true hcd.2
        have d95 : (c == 95) = false := by simp; omega
        have dlt : decide (v * 10 + (c - 48) < v * 10) = false := decide_eq_false (by omega)
        have d10 : decide (10 ≤ c - 48) = false := decide_eq_false (by omega)
        by_cases hcut : 1844674407370955162 ≤ v
        · have dc : decide (1844674407370955162 ≤ v) = true := decide_eq_true hcut
          go_wp2
          go_ret2
          have := HOV.out (by rw [HST.out]; omega)
          exact ⟨by rw [if_neg (by omega), if_neg (by omega)]; rfl, HB.out⟩
        · have dc : decide (1844674407370955162 ≤ v) = false := decide_eq_false hcut
          by_cases hw : 18446744073709551616 ≤ v * 10 + (c - 48)
          · clear dlt
            have hwr : IntKind.u64.wrap (v * 10 + (c - 48)) = v * 10 + (c - 48) - 18446744073709551616 := by rw [wrap_u64]; omega
            obtain ⟨t, ht⟩ : ∃ t, t = v * 10 + (c - 48) - 18446744073709551616 := ⟨_, rfl⟩
            rw [← ht] at hwr
            have dlt : decide (t < v * 10) = true := decide_eq_true (by omega)
            have HTT := Aside0.mk ht
            clear ht
            go_wp2
            go_ret2
            have := HOV.out (by rw [HST.out]; omega)
            exact ⟨by rw [if_neg (by omega), if_neg (by omega)]; rfl, HB.out⟩
          have hw' : v * 10 + (c - 48) < 18446744073709551616 := by omega
          by_cases hM : 9223372036854775807 < v * 10 + (c - 48)
          · have dM : decide (9223372036854775807 < v * 10 + (c - 48)) = true := decide_eq_true hM
            go_wp2
            go_ret2
            have := HOV.out (by rw [HST.out]; omega)
            exact ⟨by rw [if_neg (by omega), if_neg (by omega)]; rfl, HB.out⟩
          · have dM : decide (9223372036854775807 < v * 10 + (c - 48)) = false := decide_eq_false hM
            go_wp2
            go_round
            case rel => exact ⟨rfl, i + 1, by go_num, by omega, by rw [HST.out], by rw [HST.out]; omega, by rw [HST.out]; omega⟩
            case measure => simp [intOf]; omega
      · have dx : decide (i < n) = false := decide_eq_false hx
        have htk : l.take i = l := List.take_of_length_le (by have := HL.out; omega)
        rw [htk] at hv0 hv1 ⊢
        have HV1 := Aside0.mk hv1
        clear htk
        go_wp2
        go_ret2
        exact ⟨by rw [if_pos HV1.out, if_pos HV1.out]; rfl, HB.out⟩
end Go.Proofs.YtklkikndcieojaaDoor
