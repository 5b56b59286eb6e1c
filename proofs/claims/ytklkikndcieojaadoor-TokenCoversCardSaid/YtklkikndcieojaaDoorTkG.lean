/- The walk of Name; Tokens and Name as functions. -/
import Derived.Test.YtklkikndcieojaaDoorTkF
namespace Go.Proofs.YtklkikndcieojaaDoor
open Go.RowKit Go.Proofs.YtklkikndcieojaaDoorW.PrintWords Go.Proofs.YtklkikndcieojaaDoorW.PrintLast Go.Proofs.YtklkikndcieojaaDoorW.PrintMore
set_option linter.unusedVariables false
set_option linter.unusedSimpArgs false
open PTk
theorem Tokens_calls (s : ByteArray) (w : World) (hW : FixW w) : Calls Tryd.prog 9 #[.string s] w (TokPost w (tokensF s)) := by
  by_cases h : 16384 < s.size
  · exact Tokens_long s w h
  · exact Tokens_short s w hW (by omega)
/-- A name. -/
def nameF (s : ByteArray) : Bool := match s.data.toList with
  | [] => false
  | c :: r => decide (s.size ≤ 24) && (letC c && (decide (lenW nameC (c :: r) = s.size) && !wordL (c :: r)))
theorem nameF_nil {s : ByteArray} (h : s.size = 0) : nameF s = false := by
  unfold nameF
  have : s.data.toList = [] := by apply List.eq_nil_of_length_eq_zero; rw [← Lib.size_eq]; exact h
  rw [this]
theorem nameF_cons {s : ByteArray} (h : 0 < s.size) : nameF s = (decide (s.size ≤ 24) && (letC (s[0]'h) && (decide (lenW nameC s.data.toList = s.size) && !wordL s.data.toList))) := by
  unfold nameF
  have := drop_cons h
  rw [List.drop_zero] at this
  split
  · next e => rw [e] at this; cases this
  · next c r e =>
    have hc : c = s[0]'h := by rw [e] at this; injection this
    rw [hc] at e ⊢
    rw [e]
theorem drop0 {s : ByteArray} (h : 0 < s.size) : s.data.toList = s[0] :: s.data.toList.drop 1 := by have := drop_cons h; rw [List.drop_zero] at this; exact this
set_option maxHeartbeats 4000000 in
set_option maxRecDepth 100000 in
theorem Name_nil (s : ByteArray) (w : World) (hs : s.size ≤ 9223372036854775807) (h : s.size = 0) : Calls Tryd.prog 14 #[.string s] w fun e w' => e = .returned (.bool (nameF s)) ∧ Below w.heap.size w w' := by
  have HB := Aside0.mk (Below.refl w.heap.size w)
  have HR : Hid (nameF s = false) := Lib.hid (nameF_nil h)
  have he : s.toList = [] := by rw [Lib.toList_data]; apply List.eq_nil_of_length_eq_zero; rw [← Lib.size_eq]; exact h
  have he2 : (!s.toList.isEmpty) = false := by rw [he]; rfl
  clear h
  go_enter Tryd.func14, Tryd.ntmps14
  go_wp2
  go_ret
  exact ⟨ret_bool HR.out.symm, HB.out⟩
set_option maxHeartbeats 4000000 in
set_option maxRecDepth 100000 in
theorem Name_long (s : ByteArray) (w : World) (hs : s.size ≤ 9223372036854775807) (h : 0 < s.size) (h24 : 24 < s.size) : Calls Tryd.prog 14 #[.string s] w fun e w' => e = .returned (.bool (nameF s)) ∧ Below w.heap.size w w' := by
  have HB := Aside0.mk (Below.refl w.heap.size w)
  have HR : Hid (nameF s = false) := Lib.hid (by rw [nameF_cons h, decide_eq_false (by omega)]; rfl)
  have he : s.toList.isEmpty = false := by
    rw [Lib.toList_data, drop0 h]; rfl
  have he2 : s.toList ≠ [] := by
    rw [Lib.toList_data, drop0 h]; exact fun g => by cases g
  have z1 : decide ((s.size : Int) ≤ 24) = false := decide_eq_false (by omega)
  have z2 : decide (s.size ≤ 24) = false := decide_eq_false (by omega)
  clear h24
  go_enter Tryd.func14, Tryd.ntmps14
  go_wp2
  go_ret
  exact ⟨ret_bool HR.out.symm, HB.out⟩
set_option maxHeartbeats 4000000 in
set_option maxRecDepth 100000 in
theorem Name_sign (s : ByteArray) (w : World) (hs : s.size ≤ 9223372036854775807) (h : 0 < s.size) (h24 : s.size ≤ 24) (hl : letC (s[0]'h) = false) : Calls Tryd.prog 14 #[.string s] w fun e w' => e = .returned (.bool (nameF s)) ∧ Below w.heap.size w w' := by
  have HB := Aside0.mk (Below.refl w.heap.size w)
  have HR : Hid (nameF s = false) := Lib.hid (by rw [nameF_cons h, hl, decide_eq_true h24]; rfl)
  have he : s.toList.isEmpty = false := by
    rw [Lib.toList_data, drop0 h]; rfl
  have he2 : s.toList ≠ [] := by
    rw [Lib.toList_data, drop0 h]; exact fun g => by cases g
  have z1 : decide ((s.size : Int) ≤ 24) = true := decide_eq_true (by omega)
  have z2 : decide (s.size ≤ 24) = true := decide_eq_true h24
  obtain ⟨c, hc⟩ : ∃ c, c = s[0]'h := ⟨_, rfl⟩
  have hcs : s[0]'h = c := hc.symm
  have hlc := fun W => let_calls c W
  rw [show letC c = false from by rw [hc]; exact hl] at hlc
  clear hl hc h24
  go_enter Tryd.func14, Tryd.ntmps14
  go_wp2_with fail
  ((with_reducible refine (hlc _).mono ?_); rintro e_ W_ ⟨rfl, ⟨n_, hN_⟩⟩)
  have m_ := Aside0.mk (show Below w.heap.size w W_ from by rw [hN_]; exact pw_below_drewN HB.out n_); clear HB; have HB := m_; clear m_ hN_
  clear hlc
  go_wp2
  go_ret
  exact ⟨ret_bool HR.out.symm, HB.out⟩
set_option maxHeartbeats 4000000 in
set_option maxRecDepth 100000 in
theorem Name_part (s : ByteArray) (w : World) (hs : s.size ≤ 9223372036854775807) (h : 0 < s.size) (h24 : s.size ≤ 24) (hl : letC (s[0]'h) = true) (hne : lenW nameC s.data.toList ≠ s.size) : Calls Tryd.prog 14 #[.string s] w fun e w' => e = .returned (.bool (nameF s)) ∧ Below w.heap.size w w' := by
  have HB := Aside0.mk (Below.refl w.heap.size w)
  have HR : Hid (nameF s = false) := Lib.hid (by rw [nameF_cons h, hl, decide_eq_true h24, decide_eq_false hne]; rfl)
  have he : s.toList.isEmpty = false := by
    rw [Lib.toList_data, drop0 h]; rfl
  have he2 : s.toList ≠ [] := by
    rw [Lib.toList_data, drop0 h]; exact fun g => by cases g
  have z1 : decide ((s.size : Int) ≤ 24) = true := decide_eq_true (by omega)
  have z2 : decide (s.size ≤ 24) = true := decide_eq_true h24
  obtain ⟨c, hc⟩ : ∃ c, c = s[0]'h := ⟨_, rfl⟩
  have hcs : s[0]'h = c := hc.symm
  have hlc := fun W => let_calls c W
  have hr := fun W => run_name s W hs
  obtain ⟨n, hn⟩ : ∃ n, n = lenW nameC s.data.toList := ⟨_, rfl⟩
  rw [← hn] at hr
  rw [show letC c = true from by rw [hc]; exact hl] at hlc
  rw [← hn] at hne
  have z3 : ((n : Int) == (s.size : Int)) = false := by rw [beq_eq_false_iff_ne]; omega
  clear hl hc h24 hn hne
  go_enter Tryd.func14, Tryd.ntmps14
  go_wp2_with fail
  ((with_reducible refine (hlc _).mono ?_); rintro e_ W_ ⟨rfl, ⟨n_, hN_⟩⟩)
  have m_ := Aside0.mk (show Below w.heap.size w W_ from by rw [hN_]; exact pw_below_drewN HB.out n_); clear HB; have HB := m_; clear m_ hN_
  clear hlc
  go_wp2_with fail
  ((with_reducible refine (hr _).mono ?_); rintro e_ W_ ⟨rfl, ⟨n_, hN_⟩⟩)
  have m_ := Aside0.mk (show Below w.heap.size w W_ from by rw [hN_]; exact pw_below_drewN HB.out n_); clear HB; have HB := m_; clear m_ hN_
  clear hr
  go_wp2
  go_ret
  exact ⟨ret_bool HR.out.symm, HB.out⟩
set_option maxHeartbeats 4000000 in
set_option maxRecDepth 100000 in
theorem Name_word (s : ByteArray) (w : World) (hs : s.size ≤ 9223372036854775807) (h : 0 < s.size) (h24 : s.size ≤ 24) (hl : letC (s[0]'h) = true) (hne : lenW nameC s.data.toList = s.size) : Calls Tryd.prog 14 #[.string s] w fun e w' => e = .returned (.bool (nameF s)) ∧ Below w.heap.size w w' := by
  have HB := Aside0.mk (Below.refl w.heap.size w)
  have HR : Hid (nameF s = !wordL s.data.toList) := Lib.hid (by rw [nameF_cons h, hl, decide_eq_true h24, decide_eq_true hne]; simp)
  have he : s.toList.isEmpty = false := by
    rw [Lib.toList_data, drop0 h]; rfl
  have he2 : s.toList ≠ [] := by
    rw [Lib.toList_data, drop0 h]; exact fun g => by cases g
  have z1 : decide ((s.size : Int) ≤ 24) = true := decide_eq_true (by omega)
  have z2 : decide (s.size ≤ 24) = true := decide_eq_true h24
  obtain ⟨c, hc⟩ : ∃ c, c = s[0]'h := ⟨_, rfl⟩
  have hcs : s[0]'h = c := hc.symm
  have hlc := fun W => let_calls c W
  have hr := fun W => run_name s W hs
  obtain ⟨n, hn⟩ : ∃ n, n = lenW nameC s.data.toList := ⟨_, rfl⟩
  rw [← hn] at hr
  rw [show letC c = true from by rw [hc]; exact hl] at hlc
  rw [← hn] at hne
  have z3 : ((n : Int) == (s.size : Int)) = true := by rw [beq_iff_eq]; omega
  have hwd := fun W => Word_calls s W
  rw [Lib.toList_data] at hwd
  clear hl hc h24 hn hne
  cases hb : wordL s.data.toList with
  | true =>
    rw [hb] at hwd
    have HR2 := HR.out
    rw [hb] at HR2
    have HR := Lib.hid HR2
    clear hb HR2
    go_enter Tryd.func14, Tryd.ntmps14
    go_wp2_with fail
    ((with_reducible refine (hlc _).mono ?_); rintro e_ W_ ⟨rfl, ⟨n_, hN_⟩⟩)
    have m_ := Aside0.mk (show Below w.heap.size w W_ from by rw [hN_]; exact pw_below_drewN HB.out n_); clear HB; have HB := m_; clear m_ hN_
    clear hlc
    go_wp2_with fail
    ((with_reducible refine (hr _).mono ?_); rintro e_ W_ ⟨rfl, ⟨n_, hN_⟩⟩)
    have m_ := Aside0.mk (show Below w.heap.size w W_ from by rw [hN_]; exact pw_below_drewN HB.out n_); clear HB; have HB := m_; clear m_ hN_
    clear hr
    go_wp2_with fail
    ((with_reducible refine (hwd _).mono ?_); rintro e_ W_ ⟨rfl, ⟨n_, hN_⟩⟩)
    have m_ := Aside0.mk (show Below w.heap.size w W_ from by rw [hN_]; exact pw_below_drewN HB.out n_); clear HB; have HB := m_; clear m_ hN_
    clear hwd
    go_wp2
    go_ret
    exact ⟨ret_bool HR.out.symm, HB.out⟩
  | false =>
    rw [hb] at hwd
    have HR2 := HR.out
    rw [hb] at HR2
    have HR := Lib.hid HR2
    clear hb HR2
    go_enter Tryd.func14, Tryd.ntmps14
    go_wp2_with fail
    ((with_reducible refine (hlc _).mono ?_); rintro e_ W_ ⟨rfl, ⟨n_, hN_⟩⟩)
    have m_ := Aside0.mk (show Below w.heap.size w W_ from by rw [hN_]; exact pw_below_drewN HB.out n_); clear HB; have HB := m_; clear m_ hN_
    clear hlc
    go_wp2_with fail
    ((with_reducible refine (hr _).mono ?_); rintro e_ W_ ⟨rfl, ⟨n_, hN_⟩⟩)
    have m_ := Aside0.mk (show Below w.heap.size w W_ from by rw [hN_]; exact pw_below_drewN HB.out n_); clear HB; have HB := m_; clear m_ hN_
    clear hr
    go_wp2_with fail
    ((with_reducible refine (hwd _).mono ?_); rintro e_ W_ ⟨rfl, ⟨n_, hN_⟩⟩)
    have m_ := Aside0.mk (show Below w.heap.size w W_ from by rw [hN_]; exact pw_below_drewN HB.out n_); clear HB; have HB := m_; clear m_ hN_
    clear hwd
    go_wp2
    go_ret
    exact ⟨ret_bool HR.out.symm, HB.out⟩
theorem Name_calls (s : ByteArray) (w : World) (hs : s.size ≤ 9223372036854775807) : Calls Tryd.prog 14 #[.string s] w fun e w' => e = .returned (.bool (nameF s)) ∧ Below w.heap.size w w' := by
  rcases Nat.eq_zero_or_pos s.size with h | h
  · exact Name_nil s w hs h
  · by_cases h24 : 24 < s.size
    · exact Name_long s w hs h h24
    · have h24' : s.size ≤ 24 := by omega
      cases hl : letC (s[0]'h) with
      | false => exact Name_sign s w hs h h24' hl
      | true =>
        by_cases hne : lenW nameC s.data.toList = s.size
        · exact Name_word s w hs h h24' hl hne
        · exact Name_part s w hs h h24' hl hne
theorem beq_nil (l : List UInt8) : (l == []) = l.isEmpty := by cases l <;> rfl
namespace PTk
def token_Tokens.f (a0 : ByteArray) : Option (List S31 × Int × Int) := some (tokensF a0)
theorem token_Tokens.calls (a0 : ByteArray) (r1 : List S31) (r2 : Int) (r3 : Int) (w : World) (h : token_Tokens.f a0 = some (r1, r2, r3)) (hW : FixW w) :
    Calls Tryd.prog 9 #[.string a0] w fun e w' => ∃ v0_ : Value, e = .returned (.tuple #[v0_, .agg #[.int .i64 r2, .int .i64 r3]]) ∧ Kd.R k31 31 w' w.heap.size (fun _ => True) v0_ r1 ∧ Below w.heap.size w w' := by
  have e : tokensF a0 = (r1, r2, r3) := Option.some.inj h
  have := Tokens_calls a0 w hW
  rw [e] at this
  exact this
def token_Name.f (a0 : ByteArray) : Option Bool := if a0.size ≤ 9223372036854775807 then some (nameF a0) else none
theorem token_Name.calls (a0 : ByteArray) (r : Bool) (w : World) (h : token_Name.f a0 = some r) : Calls Tryd.prog 14 #[.string a0] w fun e w' => e = .returned (.bool r) ∧ Below w.heap.size w w' := by
  unfold token_Name.f at h
  by_cases hs : a0.size ≤ 9223372036854775807
  · rw [if_pos hs] at h
    obtain rfl := Option.some.inj h
    exact Name_calls a0 w hs
  · rw [if_neg hs] at h; cases h
end PTk
end Go.Proofs.YtklkikndcieojaaDoor
