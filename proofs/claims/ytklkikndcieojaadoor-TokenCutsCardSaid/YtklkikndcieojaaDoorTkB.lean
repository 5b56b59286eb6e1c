/- The walks of run. -/
import Derived.Test.YtklkikndcieojaaDoorTkA
namespace Go.Proofs.YtklkikndcieojaaDoor
open Go.RowKit Go.Proofs.YtklkikndcieojaaDoorW.PrintWords Go.Proofs.YtklkikndcieojaaDoorW.PrintLast Go.Proofs.YtklkikndcieojaaDoorW.PrintMore
set_option linter.unusedVariables false
set_option linter.unusedSimpArgs false
theorem run_more {p : UInt8 → Bool} {l : List UInt8} {k : Nat} {c : UInt8} (h : l[k]? = some c) (hp : p c = true) (hk : k ≤ lenW p l) : k + 1 ≤ lenW p l := by
  obtain ⟨hl, hc⟩ := List.getElem?_eq_some_iff.1 h
  rcases Nat.lt_or_ge k (lenW p l) with g | g
  · exact g
  · exfalso
    have e : lenW p l = k := by omega
    have := lenW_stop p l (by omega)
    simp only [e] at this
    rw [hc, hp] at this; cases this
theorem run_stop {p : UInt8 → Bool} {l : List UInt8} {k : Nat} {c : UInt8} (h : l[k]? = some c) (hp : p c = false) (hk : k ≤ lenW p l) : (k : Int) = (lenW p l : Int) := by
  obtain ⟨hl, hc⟩ := List.getElem?_eq_some_iff.1 h
  rcases Nat.lt_or_ge k (lenW p l) with g | g
  · exfalso
    have := lenW_take p l c (by rw [List.mem_iff_getElem?]; exact ⟨k, by rw [List.getElem?_take_of_lt g]; exact h⟩)
    rw [hp] at this; cases this
  · omega
theorem byte_at (s : ByteArray) (k : Nat) (h : k < s.size) : s.data.toList[k]? = some s[k] := by
  rw [Array.getElem?_toList, Array.getElem?_eq_getElem h]; rfl
open PTk
theorem in_calls (c : UInt8) (w : World) : Calls Tryd.prog 26 #[.int .u8 (c.toNat : Int)] w fun e w' => e = .returned (.bool (nameC c)) ∧ ∃ n, w' = w.drewN n :=
  (token_inName.calls _ _ w (inName_f c)).mono fun _ _ h => ⟨h.1, h.2.out⟩
theorem dig_calls (c : UInt8) (w : World) : Calls Tryd.prog 28 #[.int .u8 (c.toNat : Int)] w fun e w' => e = .returned (.bool (digC c)) ∧ ∃ n, w' = w.drewN n :=
  (token_digit.calls _ _ w (digit_f c)).mono fun _ _ h => ⟨h.1, h.2.out⟩
theorem let_calls (c : UInt8) (w : World) : Calls Tryd.prog 25 #[.int .u8 (c.toNat : Int)] w fun e w' => e = .returned (.bool (letC c)) ∧ ∃ n, w' = w.drewN n :=
  (token_letter.calls _ _ w (letter_f c)).mono fun _ _ h => ⟨h.1, h.2.out⟩
theorem note_calls (c : UInt8) (w : World) : Calls Tryd.prog 18 #[.int .u8 (c.toNat : Int)] w fun e w' => e = .returned (.bool (noteC c)) ∧ ∃ n, w' = w.drewN n := by
  have e : noteC c = ((c.toNat : Int) != 10) := by unfold noteC; by_cases h : c.toNat = 10 <;> simp [h] <;> omega
  have E := Lib.hid e; clear e
  rw [E.out]
  go_enter Tryd.func18, Tryd.ntmps18
  go_wp2
  go_ret
  exact ⟨rfl, ⟨0, rfl⟩⟩
set_option maxHeartbeats 2000000 in
set_option maxRecDepth 100000 in
theorem run_name (s : ByteArray) (w : World) (hs : s.size ≤ 9223372036854775807) :
    Calls Tryd.prog 17 #[.string s, .func (.func 26) #[] #[]] w fun e w' => e = .returned (.int .i64 (lenW nameC s.data.toList : Int)) ∧ ∃ n, w' = w.drewN n := by
  go_enter Tryd.func17, Tryd.ntmps17
  go_wp2_with fail
  go_loopw [8] (fun v wr => ∃ (k n : Nat), v = .int .i64 k ∧ Aside0 (k ≤ lenW nameC s.data.toList) ∧ Aside0 (wr = w.drewN n)) (fun v _ => s.size - (intOf v).toNat)
  case atStart => exact ⟨0, 0, rfl, ⟨Nat.zero_le _⟩, ⟨rfl⟩⟩
  case round =>
    obtain ⟨k, n, rfl, HK, HW⟩ := hrel
    have hle := lenW_le nameC s.data.toList
    have hsz : s.data.toList.length = s.size := (Lib.size_eq s).symm
    have hk := HK.out
    by_cases hlt : k < s.size
    · have hc := byte_at s k hlt
      have hW := HW.out
      have HLE := Aside0.mk hle
      have HSZ := Lib.hid hsz; have HC := Lib.hid hc
      clear hle hsz hc HW
      subst hW
      by_cases hp : nameC s[k] = true
      · have HP := Lib.hid hp
        have hcall := fun W => in_calls s[k] W
        rw [hp] at hcall
        clear hp
        go_wp2_with fail
        ((with_reducible refine (hcall _).mono ?_); rintro e_ w_ ⟨rfl, ⟨m, rfl⟩⟩)
        clear hcall
        have hk1 := run_more HC.out HP.out hk
        go_wp2
        exact ⟨⟨k + 1, n + m, by go_num, ⟨hk1⟩, ⟨rfl⟩⟩, by simp [intOf]; omega⟩
      · have hp' : nameC s[k] = false := by simpa using hp
        have HP := Lib.hid hp'
        have hcall := fun W => in_calls s[k] W
        rw [hp'] at hcall
        clear hp hp'
        have e := run_stop HC.out HP.out hk
        have HE := Lib.hid e; clear e
        go_wp2_with fail
        ((with_reducible refine (hcall _).mono ?_); rintro e_ w_ ⟨rfl, ⟨m, rfl⟩⟩)
        clear hcall
        go_wp2
        go_ret
        exact ⟨ret_int HE.out, ⟨_, rfl⟩⟩
    · have e : (s.size : Int) = (lenW nameC s.data.toList : Int) := by omega
      have HE := Lib.hid e
      have hW := HW.out
      clear e HW hle hsz
      subst hW
      go_wp2
      go_ret
      exact ⟨ret_int HE.out, ⟨_, rfl⟩⟩
set_option maxHeartbeats 2000000 in
set_option maxRecDepth 100000 in
theorem run_dig (s : ByteArray) (w : World) (hs : s.size ≤ 9223372036854775807) :
    Calls Tryd.prog 17 #[.string s, .func (.func 28) #[] #[]] w fun e w' => e = .returned (.int .i64 (lenW digC s.data.toList : Int)) ∧ ∃ n, w' = w.drewN n := by
  go_enter Tryd.func17, Tryd.ntmps17
  go_wp2_with fail
  go_loopw [8] (fun v wr => ∃ (k n : Nat), v = .int .i64 k ∧ Aside0 (k ≤ lenW digC s.data.toList) ∧ Aside0 (wr = w.drewN n)) (fun v _ => s.size - (intOf v).toNat)
  case atStart => exact ⟨0, 0, rfl, ⟨Nat.zero_le _⟩, ⟨rfl⟩⟩
  case round =>
    obtain ⟨k, n, rfl, HK, HW⟩ := hrel
    have hle := lenW_le digC s.data.toList
    have hsz : s.data.toList.length = s.size := (Lib.size_eq s).symm
    have hk := HK.out
    by_cases hlt : k < s.size
    · have hc := byte_at s k hlt
      have hW := HW.out
      have HLE := Aside0.mk hle
      have HSZ := Lib.hid hsz; have HC := Lib.hid hc
      clear hle hsz hc HW
      subst hW
      by_cases hp : digC s[k] = true
      · have HP := Lib.hid hp
        have hcall := fun W => dig_calls s[k] W
        rw [hp] at hcall
        clear hp
        go_wp2_with fail
        ((with_reducible refine (hcall _).mono ?_); rintro e_ w_ ⟨rfl, ⟨m, rfl⟩⟩)
        clear hcall
        have hk1 := run_more HC.out HP.out hk
        go_wp2
        exact ⟨⟨k + 1, n + m, by go_num, ⟨hk1⟩, ⟨rfl⟩⟩, by simp [intOf]; omega⟩
      · have hp' : digC s[k] = false := by simpa using hp
        have HP := Lib.hid hp'
        have hcall := fun W => dig_calls s[k] W
        rw [hp'] at hcall
        clear hp hp'
        have e := run_stop HC.out HP.out hk
        have HE := Lib.hid e; clear e
        go_wp2_with fail
        ((with_reducible refine (hcall _).mono ?_); rintro e_ w_ ⟨rfl, ⟨m, rfl⟩⟩)
        clear hcall
        go_wp2
        go_ret
        exact ⟨ret_int HE.out, ⟨_, rfl⟩⟩
    · have e : (s.size : Int) = (lenW digC s.data.toList : Int) := by omega
      have HE := Lib.hid e
      have hW := HW.out
      clear e HW hle hsz
      subst hW
      go_wp2
      go_ret
      exact ⟨ret_int HE.out, ⟨_, rfl⟩⟩
set_option maxHeartbeats 2000000 in
set_option maxRecDepth 100000 in
theorem run_note (s : ByteArray) (w : World) (hs : s.size ≤ 9223372036854775807) :
    Calls Tryd.prog 17 #[.string s, .func (.func 18) #[] #[]] w fun e w' => e = .returned (.int .i64 (lenW noteC s.data.toList : Int)) ∧ ∃ n, w' = w.drewN n := by
  go_enter Tryd.func17, Tryd.ntmps17
  go_wp2_with fail
  go_loopw [8] (fun v wr => ∃ (k n : Nat), v = .int .i64 k ∧ Aside0 (k ≤ lenW noteC s.data.toList) ∧ Aside0 (wr = w.drewN n)) (fun v _ => s.size - (intOf v).toNat)
  case atStart => exact ⟨0, 0, rfl, ⟨Nat.zero_le _⟩, ⟨rfl⟩⟩
  case round =>
    obtain ⟨k, n, rfl, HK, HW⟩ := hrel
    have hle := lenW_le noteC s.data.toList
    have hsz : s.data.toList.length = s.size := (Lib.size_eq s).symm
    have hk := HK.out
    by_cases hlt : k < s.size
    · have hc := byte_at s k hlt
      have hW := HW.out
      have HLE := Aside0.mk hle
      have HSZ := Lib.hid hsz; have HC := Lib.hid hc
      clear hle hsz hc HW
      subst hW
      by_cases hp : noteC s[k] = true
      · have HP := Lib.hid hp
        have hcall := fun W => note_calls s[k] W
        rw [hp] at hcall
        clear hp
        go_wp2_with fail
        ((with_reducible refine (hcall _).mono ?_); rintro e_ w_ ⟨rfl, ⟨m, rfl⟩⟩)
        clear hcall
        have hk1 := run_more HC.out HP.out hk
        go_wp2
        exact ⟨⟨k + 1, n + m, by go_num, ⟨hk1⟩, ⟨rfl⟩⟩, by simp [intOf]; omega⟩
      · have hp' : noteC s[k] = false := by simpa using hp
        have HP := Lib.hid hp'
        have hcall := fun W => note_calls s[k] W
        rw [hp'] at hcall
        clear hp hp'
        have e := run_stop HC.out HP.out hk
        have HE := Lib.hid e; clear e
        go_wp2_with fail
        ((with_reducible refine (hcall _).mono ?_); rintro e_ w_ ⟨rfl, ⟨m, rfl⟩⟩)
        clear hcall
        go_wp2
        go_ret
        exact ⟨ret_int HE.out, ⟨_, rfl⟩⟩
    · have e : (s.size : Int) = (lenW noteC s.data.toList : Int) := by omega
      have HE := Lib.hid e
      have hW := HW.out
      clear e HW hle hsz
      subst hW
      go_wp2
      go_ret
      exact ⟨ret_int HE.out, ⟨_, rfl⟩⟩
end Go.Proofs.YtklkikndcieojaaDoor
