/- The walk of piece. -/
import Derived.Test.YtklkikndcieojaaDoorTkC
namespace Go.Proofs.YtklkikndcieojaaDoor
open Go.RowKit Go.Proofs.YtklkikndcieojaaDoorW.PrintWords Go.Proofs.YtklkikndcieojaaDoorW.PrintLast Go.Proofs.YtklkikndcieojaaDoorW.PrintMore
set_option linter.unusedVariables false
set_option linter.unusedSimpArgs false
open PTk
def signSet : List UInt8 := [43, 45, 42, 47, 37, 40, 41, 123, 125, 91, 93, 44, 59, 58]
theorem index_in (l : List UInt8) (c : UInt8) : decide (0 ≤ Lib.indexByte l c) = decide (c ∈ l) := by
  rcases indexByte_at c l with ⟨e, hn⟩ | ⟨k, e, hk, hc, _⟩
  · rw [e, decide_eq_false hn]; rfl
  · rw [e, decide_eq_true (List.mem_of_getElem? hc)]; exact decide_eq_true (by omega)
theorem IndexByte_calls (c : UInt8) (w : World) : Calls Tryd.prog 30 #[.string ⟨#[43, 45, 42, 47, 37, 40, 41, 123, 125, 91, 93, 44, 59, 58]⟩, .int .u8 (c.toNat : Int)] w fun e w' => e = .returned (.int .i64 (Lib.indexByte signSet c)) ∧ w' = w := by
  have h := Tryd.strings_IndexByte ⟨#[43, 45, 42, 47, 37, 40, 41, 123, 125, 91, 93, 44, 59, 58]⟩ (c.toNat : Int) w
  have e : ((c.toNat : Int).toNat).toUInt8 = c := by simp
  rw [e] at h
  exact h
theorem Word_calls (s : ByteArray) (w : World) : Calls Tryd.prog 12 #[.string s] w fun e w' => e = .returned (.bool (wordL s.toList)) ∧ ∃ n, w' = w.drewN n :=
  (token_Word.calls _ _ w (word_f s)).mono fun _ _ h => ⟨h.1, h.2.out⟩
structure PcF (s : ByteArray) (c : UInt8) : Prop where
  h0 : s.data.toList[0]? = some c
theorem PcF.cons {s : ByteArray} {c : UInt8} (h : PcF s c) : ∃ r, s.data.toList = c :: r ∧ r = s.data.toList.drop 1 ∧ r.head? = s.data.toList[1]? := by
  have h0 := h.h0
  cases hl : s.data.toList with
  | nil => rw [hl] at h0; simp at h0
  | cons x l =>
    rw [hl] at h0
    simp at h0
    subst h0
    exact ⟨l, rfl, rfl, by cases l <;> rfl⟩
theorem PcF.name {s : ByteArray} {c : UInt8} (h : PcF s c) (hl : letC c = true) : pieceL s.data.toList = nameL s.data.toList := by
  obtain ⟨r, hr, _⟩ := h.cons
  rw [hr]; show (if letC c then _ else _) = _; rw [if_pos hl]
theorem PcF.num {s : ByteArray} {c : UInt8} (h : PcF s c) (hl : letC c = false) (hd : digC c = true) : pieceL s.data.toList = numL s.data.toList := by
  obtain ⟨r, hr, _⟩ := h.cons
  rw [hr]; show (if letC c then _ else if digC c then _ else _) = _; rw [hl, hd]; rfl
theorem PcF.sign {s : ByteArray} {c : UInt8} (h : PcF s c) (hl : letC c = false) (hd : digC c = false) : pieceL s.data.toList = signL c (s.data.toList.drop 1) := by
  obtain ⟨r, hr, hr2, _⟩ := h.cons
  rw [← hr2, hr]; show (if letC c then _ else if digC c then _ else _) = _; rw [hl, hd]; rfl
theorem PcF.h1 {s : ByteArray} {c : UInt8} (h : PcF s c) : (s.data.toList.drop 1).head? = s.data.toList[1]? := by
  obtain ⟨r, _, hr2, hr3⟩ := h.cons
  rw [← hr2]; exact hr3
theorem eq_of_int {c d : UInt8} (h : (c.toNat : Int) = (d.toNat : Int)) : c = d := by apply UInt8.toNat_inj.1; show c.toNat = d.toNat; omega
theorem beq_no {c d : UInt8} (h : c ≠ d) : ((c.toNat : Int) == (d.toNat : Int)) = false := by rw [beq_eq_false_iff_ne]; exact fun g => h (eq_of_int g)
set_option maxHeartbeats 4000000 in
set_option maxRecDepth 100000 in
theorem piece_name (s : ByteArray) (w : World) (hW : FixW w) (hs : s.size ≤ 16384) (hpos : 0 < s.size) (c : UInt8) (hpf : PcF s c) (hl : letC c = true) :
    Calls Tryd.prog 19 #[.string s] w fun e w' => e = .returned (.tuple #[.int .i64 ((pieceL s.data.toList).1 : Int), .int .i64 ((pieceL s.data.toList).2 : Int)]) ∧ Below w.heap.size w w' := by
  have hs0 : s[0]'hpos = c := by
    have h1 := byte_at s 0 hpos
    rw [hpf.h0] at h1
    exact (Option.some.inj h1).symm
  have HB := Aside0.mk (Below.refl w.heap.size w)
  have HW := Aside0.mk hW; have HPF := Aside0.mk hpf
  clear hW hpf
  have hle := lenW_le nameC s.data.toList
  rw [← Lib.size_eq] at hle
  have hr := fun W => run_name s W (by omega)
  have hres : pieceL s.data.toList = if lenW nameC s.data.toList > 24 then (0, 0) else (lenW nameC s.data.toList, if wordL (s.data.toList.take (lenW nameC s.data.toList)) then 2 else 1) := HPF.out.name hl
  obtain ⟨n, hn⟩ : ∃ n, n = lenW nameC s.data.toList := ⟨_, rfl⟩
  rw [← hn] at hr hle hres
  have hwd := fun W => Word_calls (s.extract 0 n) W
  have hwt : (s.extract 0 n).toList = s.data.toList.take n := by rw [Lib.toList_data, ext_data]
  rw [hwt] at hwd
  have hlc := fun W => let_calls c W
  rw [hl] at hlc
  have HRES := Lib.hid hres
  clear hres hn hl hwt
  go_enter Tryd.func19, Tryd.ntmps19
  go_wp2_with fail
  ((with_reducible refine (hlc _).mono ?_); rintro e_ W_ ⟨rfl, ⟨n_, hN_⟩⟩)
  have m_ := Aside0.mk (show Below w.heap.size w W_ from by rw [hN_]; exact pw_below_drewN HB.out n_); clear HB; have HB := m_; clear m_ hN_
  clear hlc
  go_wp2_with fail
  ((with_reducible refine (hr _).mono ?_); rintro e_ W_ ⟨rfl, ⟨n_, hN_⟩⟩)
  have m_ := Aside0.mk (show Below w.heap.size w W_ from by rw [hN_]; exact pw_below_drewN HB.out n_); clear HB; have HB := m_; clear m_ hN_
  clear hr
  by_cases h24 : 24 < n
  · have HR : Hid (pieceL s.data.toList = (0, 0)) := Lib.hid (by rw [HRES.out, if_pos h24])
    have z1 : decide (24 < (n : Int)) = true := decide_eq_true (by omega)
    have z2 : decide (24 < n) = true := decide_eq_true h24
    clear h24 hwd
    go_wp2
    (try simp only [Exit.jump])
    go_ret2
    exact ⟨by rw [HR.out]; rfl, HB.out⟩
  · have z1 : decide (24 < (n : Int)) = false := decide_eq_false (by omega)
    have z2 : decide (24 < n) = false := decide_eq_false h24
    have HR1 : Hid (pieceL s.data.toList = (n, if wordL (s.data.toList.take n) then 2 else 1)) := Lib.hid (by rw [HRES.out, if_neg h24])
    clear h24
    cases hwb : wordL (s.data.toList.take n) with
    | true =>
      rw [hwb] at hwd
      have HR : Hid (pieceL s.data.toList = (n, 2)) := Lib.hid (by rw [HR1.out, hwb]; rfl)
      clear hwb HR1
      go_wp2_with fail
      ((with_reducible refine (hwd _).mono ?_); rintro e_ W_ ⟨rfl, ⟨n_, hN_⟩⟩)
      have m_ := Aside0.mk (show Below w.heap.size w W_ from by rw [hN_]; exact pw_below_drewN HB.out n_); clear HB; have HB := m_; clear m_ hN_
      clear hwd
      go_wp2
      (try simp only [Exit.jump])
      go_ret2
      exact ⟨by rw [HR.out]; rfl, HB.out⟩
    | false =>
      rw [hwb] at hwd
      have HR : Hid (pieceL s.data.toList = (n, 1)) := Lib.hid (by rw [HR1.out, hwb]; rfl)
      clear hwb HR1
      go_wp2_with fail
      ((with_reducible refine (hwd _).mono ?_); rintro e_ W_ ⟨rfl, ⟨n_, hN_⟩⟩)
      have m_ := Aside0.mk (show Below w.heap.size w W_ from by rw [hN_]; exact pw_below_drewN HB.out n_); clear HB; have HB := m_; clear m_ hN_
      clear hwd
      go_wp2
      (try simp only [Exit.jump])
      go_ret2
      exact ⟨by rw [HR.out]; rfl, HB.out⟩
set_option maxHeartbeats 4000000 in
set_option maxRecDepth 100000 in
theorem piece_num (s : ByteArray) (w : World) (hW : FixW w) (hs : s.size ≤ 16384) (hpos : 0 < s.size) (c : UInt8) (hpf : PcF s c) (hl : letC c = false) (hd : digC c = true) :
    Calls Tryd.prog 19 #[.string s] w fun e w' => e = .returned (.tuple #[.int .i64 ((pieceL s.data.toList).1 : Int), .int .i64 ((pieceL s.data.toList).2 : Int)]) ∧ Below w.heap.size w w' := by
  have hs0 : s[0]'hpos = c := by
    have h1 := byte_at s 0 hpos
    rw [hpf.h0] at h1
    exact (Option.some.inj h1).symm
  have HB := Aside0.mk (Below.refl w.heap.size w)
  have HW := Aside0.mk hW; have HPF := Aside0.mk hpf
  clear hW hpf
  have HR := Lib.hid (HPF.out.num hl hd)
  have HD := Lib.hid hd
  have hlc := fun W => let_calls c W
  rw [hl] at hlc
  have hdc := fun W => dig_calls c W
  rw [hd] at hdc
  clear hl hd
  go_enter Tryd.func19, Tryd.ntmps19
  go_wp2_with fail
  ((with_reducible refine (hlc _).mono ?_); rintro e_ W_ ⟨rfl, ⟨n_, hN_⟩⟩)
  have m_ := Aside0.mk (show Below w.heap.size w W_ from by rw [hN_]; exact pw_below_drewN HB.out n_); clear HB; have HB := m_; clear m_ hN_
  clear hlc
  go_wp2_with fail
  ((with_reducible refine (hdc _).mono ?_); rintro e_ W_ ⟨rfl, ⟨n_, hN_⟩⟩)
  have m_ := Aside0.mk (show Below w.heap.size w W_ from by rw [hN_]; exact pw_below_drewN HB.out n_); clear HB; have HB := m_; clear m_ hN_
  clear hdc
  have hnum := number_calls s W_ (HW.out.below HB.out) hs c HPF.out.h0 HD.out
  go_wp2_with fail
  ((with_reducible refine hnum.mono ?_); rintro e_ W2 ⟨rfl, hb⟩)
  have HB2 := Aside0.mk (below_step HB.out hb)
  clear hb hnum
  go_wp2
  (try simp only [Exit.jump])
  go_ret2
  exact ⟨by rw [HR.out]; rfl, HB2.out⟩
set_option maxHeartbeats 4000000 in
set_option maxRecDepth 100000 in
theorem piece_and38 (s : ByteArray) (w : World) (hW : FixW w) (hs : s.size ≤ 16384) (hpos : 0 < s.size) (c : UInt8) (hpf : PcF s c) (hl : letC c = false) (hd : digC c = false) (hc : c = 38) :
    Calls Tryd.prog 19 #[.string s] w fun e w' => e = .returned (.tuple #[.int .i64 ((pieceL s.data.toList).1 : Int), .int .i64 ((pieceL s.data.toList).2 : Int)]) ∧ Below w.heap.size w w' := by
  have hs0 : s[0]'hpos = c := by
    have h1 := byte_at s 0 hpos
    rw [hpf.h0] at h1
    exact (Option.some.inj h1).symm
  have HB := Aside0.mk (Below.refl w.heap.size w)
  have HW := Aside0.mk hW; have HPF := Aside0.mk hpf
  clear hW hpf
  have e38 : ((c.toNat : Int) == 38) = true := by rw [hc]; rfl
  have HC := Lib.hid hc
  have hlc := fun W => let_calls c W
  rw [hl] at hlc
  have hdc := fun W => dig_calls c W
  rw [hd] at hdc
  have HSG := Lib.hid (HPF.out.sign hl hd)
  clear hl hd
  clear hc
  go_enter Tryd.func19, Tryd.ntmps19
  go_wp2_with fail
  ((with_reducible refine (hlc _).mono ?_); rintro e_ W_ ⟨rfl, ⟨n_, hN_⟩⟩)
  have m_ := Aside0.mk (show Below w.heap.size w W_ from by rw [hN_]; exact pw_below_drewN HB.out n_); clear HB; have HB := m_; clear m_ hN_
  clear hlc
  go_wp2_with fail
  ((with_reducible refine (hdc _).mono ?_); rintro e_ W_ ⟨rfl, ⟨n_, hN_⟩⟩)
  have m_ := Aside0.mk (show Below w.heap.size w W_ from by rw [hN_]; exact pw_below_drewN HB.out n_); clear HB; have HB := m_; clear m_ hN_
  clear hdc
  by_cases h2 : s.size < 2
  · have HR : Hid (pieceL s.data.toList = (0, 0)) := Lib.hid (by rw [HSG.out]; unfold signL; rw [if_pos (by rw [HC.out]; decide), HPF.out.h1, List.getElem?_eq_none (by rw [← Lib.size_eq]; omega), if_neg (by simp)])
    have z1 : decide ((s.size : Int) < 2) = true := decide_eq_true (by omega)
    have z2 : decide (s.size < 2) = true := decide_eq_true h2
    clear h2
    go_wp2
    (try simp only [Exit.jump])
    go_ret2
    exact ⟨by rw [HR.out]; rfl, HB.out⟩
  · have z1 : decide ((s.size : Int) < 2) = false := decide_eq_false (by omega)
    have z2 : decide (s.size < 2) = false := decide_eq_false h2
    have h1 : 1 < s.size := by omega
    by_cases h3 : s[1] = c
    · have HR : Hid (pieceL s.data.toList = (2, 5)) := Lib.hid (by rw [HSG.out]; unfold signL; rw [if_pos (by rw [HC.out]; decide), HPF.out.h1, byte_at s 1 h1, h3, if_pos rfl])
      have z3 : (((s[1]).toNat : Int) != (c.toNat : Int)) = false := by rw [h3]; simp
      clear h3 h2
      go_wp2
      (try simp only [Exit.jump])
      go_ret2
      exact ⟨by rw [HR.out]; rfl, HB.out⟩
    · have HR : Hid (pieceL s.data.toList = (0, 0)) := Lib.hid (by rw [HSG.out]; unfold signL; rw [if_pos (by rw [HC.out]; decide), HPF.out.h1, byte_at s 1 h1, if_neg (fun g => h3 (Option.some.inj g))])
      have z3 : (((s[1]).toNat : Int) != (c.toNat : Int)) = true := by rw [bne_iff_ne]; exact fun g => h3 (eq_of_int g)
      clear h3 h2
      go_wp2
      (try simp only [Exit.jump])
      go_ret2
      exact ⟨by rw [HR.out]; rfl, HB.out⟩
set_option maxHeartbeats 4000000 in
set_option maxRecDepth 100000 in
theorem piece_and124 (s : ByteArray) (w : World) (hW : FixW w) (hs : s.size ≤ 16384) (hpos : 0 < s.size) (c : UInt8) (hpf : PcF s c) (hl : letC c = false) (hd : digC c = false) (hc : c = 124) :
    Calls Tryd.prog 19 #[.string s] w fun e w' => e = .returned (.tuple #[.int .i64 ((pieceL s.data.toList).1 : Int), .int .i64 ((pieceL s.data.toList).2 : Int)]) ∧ Below w.heap.size w w' := by
  have hs0 : s[0]'hpos = c := by
    have h1 := byte_at s 0 hpos
    rw [hpf.h0] at h1
    exact (Option.some.inj h1).symm
  have HB := Aside0.mk (Below.refl w.heap.size w)
  have HW := Aside0.mk hW; have HPF := Aside0.mk hpf
  clear hW hpf
  have e38 : ((c.toNat : Int) == 38) = false := beq_no (d := 38) (by rw [hc]; decide)
  have e124 : ((c.toNat : Int) == 124) = true := by rw [hc]; rfl
  have HC := Lib.hid hc
  have hlc := fun W => let_calls c W
  rw [hl] at hlc
  have hdc := fun W => dig_calls c W
  rw [hd] at hdc
  have HSG := Lib.hid (HPF.out.sign hl hd)
  clear hl hd
  clear hc
  go_enter Tryd.func19, Tryd.ntmps19
  go_wp2_with fail
  ((with_reducible refine (hlc _).mono ?_); rintro e_ W_ ⟨rfl, ⟨n_, hN_⟩⟩)
  have m_ := Aside0.mk (show Below w.heap.size w W_ from by rw [hN_]; exact pw_below_drewN HB.out n_); clear HB; have HB := m_; clear m_ hN_
  clear hlc
  go_wp2_with fail
  ((with_reducible refine (hdc _).mono ?_); rintro e_ W_ ⟨rfl, ⟨n_, hN_⟩⟩)
  have m_ := Aside0.mk (show Below w.heap.size w W_ from by rw [hN_]; exact pw_below_drewN HB.out n_); clear HB; have HB := m_; clear m_ hN_
  clear hdc
  by_cases h2 : s.size < 2
  · have HR : Hid (pieceL s.data.toList = (0, 0)) := Lib.hid (by rw [HSG.out]; unfold signL; rw [if_pos (by rw [HC.out]; decide), HPF.out.h1, List.getElem?_eq_none (by rw [← Lib.size_eq]; omega), if_neg (by simp)])
    have z1 : decide ((s.size : Int) < 2) = true := decide_eq_true (by omega)
    have z2 : decide (s.size < 2) = true := decide_eq_true h2
    clear h2
    go_wp2
    (try simp only [Exit.jump])
    go_ret2
    exact ⟨by rw [HR.out]; rfl, HB.out⟩
  · have z1 : decide ((s.size : Int) < 2) = false := decide_eq_false (by omega)
    have z2 : decide (s.size < 2) = false := decide_eq_false h2
    have h1 : 1 < s.size := by omega
    by_cases h3 : s[1] = c
    · have HR : Hid (pieceL s.data.toList = (2, 5)) := Lib.hid (by rw [HSG.out]; unfold signL; rw [if_pos (by rw [HC.out]; decide), HPF.out.h1, byte_at s 1 h1, h3, if_pos rfl])
      have z3 : (((s[1]).toNat : Int) != (c.toNat : Int)) = false := by rw [h3]; simp
      clear h3 h2
      go_wp2
      (try simp only [Exit.jump])
      go_ret2
      exact ⟨by rw [HR.out]; rfl, HB.out⟩
    · have HR : Hid (pieceL s.data.toList = (0, 0)) := Lib.hid (by rw [HSG.out]; unfold signL; rw [if_pos (by rw [HC.out]; decide), HPF.out.h1, byte_at s 1 h1, if_neg (fun g => h3 (Option.some.inj g))])
      have z3 : (((s[1]).toNat : Int) != (c.toNat : Int)) = true := by rw [bne_iff_ne]; exact fun g => h3 (eq_of_int g)
      clear h3 h2
      go_wp2
      (try simp only [Exit.jump])
      go_ret2
      exact ⟨by rw [HR.out]; rfl, HB.out⟩
set_option maxHeartbeats 4000000 in
set_option maxRecDepth 100000 in
theorem piece_eq61 (s : ByteArray) (w : World) (hW : FixW w) (hs : s.size ≤ 16384) (hpos : 0 < s.size) (c : UInt8) (hpf : PcF s c) (hl : letC c = false) (hd : digC c = false) (hc : c = 61) :
    Calls Tryd.prog 19 #[.string s] w fun e w' => e = .returned (.tuple #[.int .i64 ((pieceL s.data.toList).1 : Int), .int .i64 ((pieceL s.data.toList).2 : Int)]) ∧ Below w.heap.size w w' := by
  have hs0 : s[0]'hpos = c := by
    have h1 := byte_at s 0 hpos
    rw [hpf.h0] at h1
    exact (Option.some.inj h1).symm
  have HB := Aside0.mk (Below.refl w.heap.size w)
  have HW := Aside0.mk hW; have HPF := Aside0.mk hpf
  clear hW hpf
  have e38 : ((c.toNat : Int) == 38) = false := beq_no (d := 38) (by rw [hc]; decide)
  have e124 : ((c.toNat : Int) == 124) = false := beq_no (d := 124) (by rw [hc]; decide)
  have e61 : ((c.toNat : Int) == 61) = true := by rw [hc]; rfl
  have HC := Lib.hid hc
  have hlc := fun W => let_calls c W
  rw [hl] at hlc
  have hdc := fun W => dig_calls c W
  rw [hd] at hdc
  have HSG := Lib.hid (HPF.out.sign hl hd)
  clear hl hd
  clear hc
  go_enter Tryd.func19, Tryd.ntmps19
  go_wp2_with fail
  ((with_reducible refine (hlc _).mono ?_); rintro e_ W_ ⟨rfl, ⟨n_, hN_⟩⟩)
  have m_ := Aside0.mk (show Below w.heap.size w W_ from by rw [hN_]; exact pw_below_drewN HB.out n_); clear HB; have HB := m_; clear m_ hN_
  clear hlc
  go_wp2_with fail
  ((with_reducible refine (hdc _).mono ?_); rintro e_ W_ ⟨rfl, ⟨n_, hN_⟩⟩)
  have m_ := Aside0.mk (show Below w.heap.size w W_ from by rw [hN_]; exact pw_below_drewN HB.out n_); clear HB; have HB := m_; clear m_ hN_
  clear hdc
  by_cases h2 : 1 < s.size
  · have z1 : decide (1 < (s.size : Int)) = true := decide_eq_true (by omega)
    have z2 : decide (1 < s.size) = true := decide_eq_true h2
    by_cases h3 : s[1] = 61
    · have HR : Hid (pieceL s.data.toList = (2, 5)) := Lib.hid (by rw [HSG.out]; unfold signL; rw [if_neg (by rw [HC.out]; decide), if_pos (by rw [HC.out]; decide), HPF.out.h1, byte_at s 1 h2, h3, if_pos rfl])
      have z3 : (((s[1]).toNat : Int) == 61) = true := by rw [h3]; rfl
      clear h3
      go_wp2
      (try simp only [Exit.jump])
      go_ret2
      exact ⟨by rw [HR.out]; rfl, HB.out⟩
    · have HR : Hid (pieceL s.data.toList = (1, 5)) := Lib.hid (by rw [HSG.out]; unfold signL; rw [if_neg (by rw [HC.out]; decide), if_pos (by rw [HC.out]; decide), HPF.out.h1, byte_at s 1 h2, if_neg (fun g => h3 (Option.some.inj g))])
      have z3 : (((s[1]).toNat : Int) == 61) = false := beq_no (d := 61) h3
      clear h3
      go_wp2
      (try simp only [Exit.jump])
      go_ret2
      exact ⟨by rw [HR.out]; rfl, HB.out⟩
  · have HR : Hid (pieceL s.data.toList = (1, 5)) := Lib.hid (by rw [HSG.out]; unfold signL; rw [if_neg (by rw [HC.out]; decide), if_pos (by rw [HC.out]; decide), HPF.out.h1, List.getElem?_eq_none (by rw [← Lib.size_eq]; omega), if_neg (by simp)])
    have z1 : decide (1 < (s.size : Int)) = false := decide_eq_false (by omega)
    have z2 : decide (1 < s.size) = false := decide_eq_false h2
    clear h2
    go_wp2
    (try simp only [Exit.jump])
    go_ret2
    exact ⟨by rw [HR.out]; rfl, HB.out⟩
set_option maxHeartbeats 4000000 in
set_option maxRecDepth 100000 in
theorem piece_eq33 (s : ByteArray) (w : World) (hW : FixW w) (hs : s.size ≤ 16384) (hpos : 0 < s.size) (c : UInt8) (hpf : PcF s c) (hl : letC c = false) (hd : digC c = false) (hc : c = 33) :
    Calls Tryd.prog 19 #[.string s] w fun e w' => e = .returned (.tuple #[.int .i64 ((pieceL s.data.toList).1 : Int), .int .i64 ((pieceL s.data.toList).2 : Int)]) ∧ Below w.heap.size w w' := by
  have hs0 : s[0]'hpos = c := by
    have h1 := byte_at s 0 hpos
    rw [hpf.h0] at h1
    exact (Option.some.inj h1).symm
  have HB := Aside0.mk (Below.refl w.heap.size w)
  have HW := Aside0.mk hW; have HPF := Aside0.mk hpf
  clear hW hpf
  have e38 : ((c.toNat : Int) == 38) = false := beq_no (d := 38) (by rw [hc]; decide)
  have e124 : ((c.toNat : Int) == 124) = false := beq_no (d := 124) (by rw [hc]; decide)
  have e61 : ((c.toNat : Int) == 61) = false := beq_no (d := 61) (by rw [hc]; decide)
  have e33 : ((c.toNat : Int) == 33) = true := by rw [hc]; rfl
  have HC := Lib.hid hc
  have hlc := fun W => let_calls c W
  rw [hl] at hlc
  have hdc := fun W => dig_calls c W
  rw [hd] at hdc
  have HSG := Lib.hid (HPF.out.sign hl hd)
  clear hl hd
  clear hc
  go_enter Tryd.func19, Tryd.ntmps19
  go_wp2_with fail
  ((with_reducible refine (hlc _).mono ?_); rintro e_ W_ ⟨rfl, ⟨n_, hN_⟩⟩)
  have m_ := Aside0.mk (show Below w.heap.size w W_ from by rw [hN_]; exact pw_below_drewN HB.out n_); clear HB; have HB := m_; clear m_ hN_
  clear hlc
  go_wp2_with fail
  ((with_reducible refine (hdc _).mono ?_); rintro e_ W_ ⟨rfl, ⟨n_, hN_⟩⟩)
  have m_ := Aside0.mk (show Below w.heap.size w W_ from by rw [hN_]; exact pw_below_drewN HB.out n_); clear HB; have HB := m_; clear m_ hN_
  clear hdc
  by_cases h2 : 1 < s.size
  · have z1 : decide (1 < (s.size : Int)) = true := decide_eq_true (by omega)
    have z2 : decide (1 < s.size) = true := decide_eq_true h2
    by_cases h3 : s[1] = 61
    · have HR : Hid (pieceL s.data.toList = (2, 5)) := Lib.hid (by rw [HSG.out]; unfold signL; rw [if_neg (by rw [HC.out]; decide), if_pos (by rw [HC.out]; decide), HPF.out.h1, byte_at s 1 h2, h3, if_pos rfl])
      have z3 : (((s[1]).toNat : Int) == 61) = true := by rw [h3]; rfl
      clear h3
      go_wp2
      (try simp only [Exit.jump])
      go_ret2
      exact ⟨by rw [HR.out]; rfl, HB.out⟩
    · have HR : Hid (pieceL s.data.toList = (1, 5)) := Lib.hid (by rw [HSG.out]; unfold signL; rw [if_neg (by rw [HC.out]; decide), if_pos (by rw [HC.out]; decide), HPF.out.h1, byte_at s 1 h2, if_neg (fun g => h3 (Option.some.inj g))])
      have z3 : (((s[1]).toNat : Int) == 61) = false := beq_no (d := 61) h3
      clear h3
      go_wp2
      (try simp only [Exit.jump])
      go_ret2
      exact ⟨by rw [HR.out]; rfl, HB.out⟩
  · have HR : Hid (pieceL s.data.toList = (1, 5)) := Lib.hid (by rw [HSG.out]; unfold signL; rw [if_neg (by rw [HC.out]; decide), if_pos (by rw [HC.out]; decide), HPF.out.h1, List.getElem?_eq_none (by rw [← Lib.size_eq]; omega), if_neg (by simp)])
    have z1 : decide (1 < (s.size : Int)) = false := decide_eq_false (by omega)
    have z2 : decide (1 < s.size) = false := decide_eq_false h2
    clear h2
    go_wp2
    (try simp only [Exit.jump])
    go_ret2
    exact ⟨by rw [HR.out]; rfl, HB.out⟩
set_option maxHeartbeats 4000000 in
set_option maxRecDepth 100000 in
theorem piece_eq60 (s : ByteArray) (w : World) (hW : FixW w) (hs : s.size ≤ 16384) (hpos : 0 < s.size) (c : UInt8) (hpf : PcF s c) (hl : letC c = false) (hd : digC c = false) (hc : c = 60) :
    Calls Tryd.prog 19 #[.string s] w fun e w' => e = .returned (.tuple #[.int .i64 ((pieceL s.data.toList).1 : Int), .int .i64 ((pieceL s.data.toList).2 : Int)]) ∧ Below w.heap.size w w' := by
  have hs0 : s[0]'hpos = c := by
    have h1 := byte_at s 0 hpos
    rw [hpf.h0] at h1
    exact (Option.some.inj h1).symm
  have HB := Aside0.mk (Below.refl w.heap.size w)
  have HW := Aside0.mk hW; have HPF := Aside0.mk hpf
  clear hW hpf
  have e38 : ((c.toNat : Int) == 38) = false := beq_no (d := 38) (by rw [hc]; decide)
  have e124 : ((c.toNat : Int) == 124) = false := beq_no (d := 124) (by rw [hc]; decide)
  have e61 : ((c.toNat : Int) == 61) = false := beq_no (d := 61) (by rw [hc]; decide)
  have e33 : ((c.toNat : Int) == 33) = false := beq_no (d := 33) (by rw [hc]; decide)
  have e60 : ((c.toNat : Int) == 60) = true := by rw [hc]; rfl
  have HC := Lib.hid hc
  have hlc := fun W => let_calls c W
  rw [hl] at hlc
  have hdc := fun W => dig_calls c W
  rw [hd] at hdc
  have HSG := Lib.hid (HPF.out.sign hl hd)
  clear hl hd
  clear hc
  go_enter Tryd.func19, Tryd.ntmps19
  go_wp2_with fail
  ((with_reducible refine (hlc _).mono ?_); rintro e_ W_ ⟨rfl, ⟨n_, hN_⟩⟩)
  have m_ := Aside0.mk (show Below w.heap.size w W_ from by rw [hN_]; exact pw_below_drewN HB.out n_); clear HB; have HB := m_; clear m_ hN_
  clear hlc
  go_wp2_with fail
  ((with_reducible refine (hdc _).mono ?_); rintro e_ W_ ⟨rfl, ⟨n_, hN_⟩⟩)
  have m_ := Aside0.mk (show Below w.heap.size w W_ from by rw [hN_]; exact pw_below_drewN HB.out n_); clear HB; have HB := m_; clear m_ hN_
  clear hdc
  by_cases h2 : 1 < s.size
  · have z1 : decide (1 < (s.size : Int)) = true := decide_eq_true (by omega)
    have z2 : decide (1 < s.size) = true := decide_eq_true h2
    by_cases h3 : s[1] = 61
    · have HR : Hid (pieceL s.data.toList = (2, 5)) := Lib.hid (by rw [HSG.out]; unfold signL; rw [if_neg (by rw [HC.out]; decide), if_pos (by rw [HC.out]; decide), HPF.out.h1, byte_at s 1 h2, h3, if_pos rfl])
      have z3 : (((s[1]).toNat : Int) == 61) = true := by rw [h3]; rfl
      clear h3
      go_wp2
      (try simp only [Exit.jump])
      go_ret2
      exact ⟨by rw [HR.out]; rfl, HB.out⟩
    · have HR : Hid (pieceL s.data.toList = (1, 5)) := Lib.hid (by rw [HSG.out]; unfold signL; rw [if_neg (by rw [HC.out]; decide), if_pos (by rw [HC.out]; decide), HPF.out.h1, byte_at s 1 h2, if_neg (fun g => h3 (Option.some.inj g))])
      have z3 : (((s[1]).toNat : Int) == 61) = false := beq_no (d := 61) h3
      clear h3
      go_wp2
      (try simp only [Exit.jump])
      go_ret2
      exact ⟨by rw [HR.out]; rfl, HB.out⟩
  · have HR : Hid (pieceL s.data.toList = (1, 5)) := Lib.hid (by rw [HSG.out]; unfold signL; rw [if_neg (by rw [HC.out]; decide), if_pos (by rw [HC.out]; decide), HPF.out.h1, List.getElem?_eq_none (by rw [← Lib.size_eq]; omega), if_neg (by simp)])
    have z1 : decide (1 < (s.size : Int)) = false := decide_eq_false (by omega)
    have z2 : decide (1 < s.size) = false := decide_eq_false h2
    clear h2
    go_wp2
    (try simp only [Exit.jump])
    go_ret2
    exact ⟨by rw [HR.out]; rfl, HB.out⟩
set_option maxHeartbeats 4000000 in
set_option maxRecDepth 100000 in
theorem piece_eq62 (s : ByteArray) (w : World) (hW : FixW w) (hs : s.size ≤ 16384) (hpos : 0 < s.size) (c : UInt8) (hpf : PcF s c) (hl : letC c = false) (hd : digC c = false) (hc : c = 62) :
    Calls Tryd.prog 19 #[.string s] w fun e w' => e = .returned (.tuple #[.int .i64 ((pieceL s.data.toList).1 : Int), .int .i64 ((pieceL s.data.toList).2 : Int)]) ∧ Below w.heap.size w w' := by
  have hs0 : s[0]'hpos = c := by
    have h1 := byte_at s 0 hpos
    rw [hpf.h0] at h1
    exact (Option.some.inj h1).symm
  have HB := Aside0.mk (Below.refl w.heap.size w)
  have HW := Aside0.mk hW; have HPF := Aside0.mk hpf
  clear hW hpf
  have e38 : ((c.toNat : Int) == 38) = false := beq_no (d := 38) (by rw [hc]; decide)
  have e124 : ((c.toNat : Int) == 124) = false := beq_no (d := 124) (by rw [hc]; decide)
  have e61 : ((c.toNat : Int) == 61) = false := beq_no (d := 61) (by rw [hc]; decide)
  have e33 : ((c.toNat : Int) == 33) = false := beq_no (d := 33) (by rw [hc]; decide)
  have e60 : ((c.toNat : Int) == 60) = false := beq_no (d := 60) (by rw [hc]; decide)
  have e62 : ((c.toNat : Int) == 62) = true := by rw [hc]; rfl
  have HC := Lib.hid hc
  have hlc := fun W => let_calls c W
  rw [hl] at hlc
  have hdc := fun W => dig_calls c W
  rw [hd] at hdc
  have HSG := Lib.hid (HPF.out.sign hl hd)
  clear hl hd
  clear hc
  go_enter Tryd.func19, Tryd.ntmps19
  go_wp2_with fail
  ((with_reducible refine (hlc _).mono ?_); rintro e_ W_ ⟨rfl, ⟨n_, hN_⟩⟩)
  have m_ := Aside0.mk (show Below w.heap.size w W_ from by rw [hN_]; exact pw_below_drewN HB.out n_); clear HB; have HB := m_; clear m_ hN_
  clear hlc
  go_wp2_with fail
  ((with_reducible refine (hdc _).mono ?_); rintro e_ W_ ⟨rfl, ⟨n_, hN_⟩⟩)
  have m_ := Aside0.mk (show Below w.heap.size w W_ from by rw [hN_]; exact pw_below_drewN HB.out n_); clear HB; have HB := m_; clear m_ hN_
  clear hdc
  by_cases h2 : 1 < s.size
  · have z1 : decide (1 < (s.size : Int)) = true := decide_eq_true (by omega)
    have z2 : decide (1 < s.size) = true := decide_eq_true h2
    by_cases h3 : s[1] = 61
    · have HR : Hid (pieceL s.data.toList = (2, 5)) := Lib.hid (by rw [HSG.out]; unfold signL; rw [if_neg (by rw [HC.out]; decide), if_pos (by rw [HC.out]; decide), HPF.out.h1, byte_at s 1 h2, h3, if_pos rfl])
      have z3 : (((s[1]).toNat : Int) == 61) = true := by rw [h3]; rfl
      clear h3
      go_wp2
      (try simp only [Exit.jump])
      go_ret2
      exact ⟨by rw [HR.out]; rfl, HB.out⟩
    · have HR : Hid (pieceL s.data.toList = (1, 5)) := Lib.hid (by rw [HSG.out]; unfold signL; rw [if_neg (by rw [HC.out]; decide), if_pos (by rw [HC.out]; decide), HPF.out.h1, byte_at s 1 h2, if_neg (fun g => h3 (Option.some.inj g))])
      have z3 : (((s[1]).toNat : Int) == 61) = false := beq_no (d := 61) h3
      clear h3
      go_wp2
      (try simp only [Exit.jump])
      go_ret2
      exact ⟨by rw [HR.out]; rfl, HB.out⟩
  · have HR : Hid (pieceL s.data.toList = (1, 5)) := Lib.hid (by rw [HSG.out]; unfold signL; rw [if_neg (by rw [HC.out]; decide), if_pos (by rw [HC.out]; decide), HPF.out.h1, List.getElem?_eq_none (by rw [← Lib.size_eq]; omega), if_neg (by simp)])
    have z1 : decide (1 < (s.size : Int)) = false := decide_eq_false (by omega)
    have z2 : decide (1 < s.size) = false := decide_eq_false h2
    clear h2
    go_wp2
    (try simp only [Exit.jump])
    go_ret2
    exact ⟨by rw [HR.out]; rfl, HB.out⟩
set_option maxHeartbeats 4000000 in
set_option maxRecDepth 100000 in
theorem piece_one (s : ByteArray) (w : World) (hW : FixW w) (hs : s.size ≤ 16384) (hpos : 0 < s.size) (c : UInt8) (hpf : PcF s c) (hl : letC c = false) (hd : digC c = false) (hn38 : c ≠ 38) (hn124 : c ≠ 124) (hn61 : c ≠ 61) (hn33 : c ≠ 33) (hn60 : c ≠ 60) (hn62 : c ≠ 62) :
    Calls Tryd.prog 19 #[.string s] w fun e w' => e = .returned (.tuple #[.int .i64 ((pieceL s.data.toList).1 : Int), .int .i64 ((pieceL s.data.toList).2 : Int)]) ∧ Below w.heap.size w w' := by
  have hs0 : s[0]'hpos = c := by
    have h1 := byte_at s 0 hpos
    rw [hpf.h0] at h1
    exact (Option.some.inj h1).symm
  have HB := Aside0.mk (Below.refl w.heap.size w)
  have HW := Aside0.mk hW; have HPF := Aside0.mk hpf
  clear hW hpf
  have e38 : ((c.toNat : Int) == 38) = false := beq_no (d := 38) (by exact hn38)
  have e124 : ((c.toNat : Int) == 124) = false := beq_no (d := 124) (by exact hn124)
  have e61 : ((c.toNat : Int) == 61) = false := beq_no (d := 61) (by exact hn61)
  have e33 : ((c.toNat : Int) == 33) = false := beq_no (d := 33) (by exact hn33)
  have e60 : ((c.toNat : Int) == 60) = false := beq_no (d := 60) (by exact hn60)
  have e62 : ((c.toNat : Int) == 62) = false := beq_no (d := 62) (by exact hn62)
  have HS2 : Hid (signL c (s.data.toList.drop 1) = if c ∈ signSet then (1, 5) else (0, 0)) := Lib.hid (by
    unfold signL signSet
    rw [if_neg (by rintro (h | h); exact hn38 h; exact hn124 h), if_neg (by rintro (h | h | h | h); exact hn61 h; exact hn33 h; exact hn60 h; exact hn62 h)])
  have hix := fun W => IndexByte_calls c W
  have hdi := index_in signSet c
  obtain ⟨ix, hixx⟩ : ∃ ix, ix = Lib.indexByte signSet c := ⟨_, rfl⟩
  rw [← hixx] at hix hdi
  have hlc := fun W => let_calls c W
  rw [hl] at hlc
  have hdc := fun W => dig_calls c W
  rw [hd] at hdc
  have HSG := Lib.hid (HPF.out.sign hl hd)
  clear hl hd
  clear hn38 hn124 hn61 hn33 hn60 hn62 hixx
  go_enter Tryd.func19, Tryd.ntmps19
  go_wp2_with fail
  ((with_reducible refine (hlc _).mono ?_); rintro e_ W_ ⟨rfl, ⟨n_, hN_⟩⟩)
  have m_ := Aside0.mk (show Below w.heap.size w W_ from by rw [hN_]; exact pw_below_drewN HB.out n_); clear HB; have HB := m_; clear m_ hN_
  clear hlc
  go_wp2_with fail
  ((with_reducible refine (hdc _).mono ?_); rintro e_ W_ ⟨rfl, ⟨n_, hN_⟩⟩)
  have m_ := Aside0.mk (show Below w.heap.size w W_ from by rw [hN_]; exact pw_below_drewN HB.out n_); clear HB; have HB := m_; clear m_ hN_
  clear hdc
  by_cases hin : c ∈ signSet
  · have HR : Hid (pieceL s.data.toList = (1, 5)) := Lib.hid (by rw [HSG.out, HS2.out, if_pos hin])
    rw [decide_eq_true hin] at hdi
    clear hin
    go_wp2_with fail
    ((with_reducible refine (hix _).mono ?_); rintro e_ W2 ⟨rfl, rfl⟩)
    clear hix
    go_wp2
    (try simp only [Exit.jump])
    go_ret2
    exact ⟨by rw [HR.out]; rfl, HB.out⟩
  · have HR : Hid (pieceL s.data.toList = (0, 0)) := Lib.hid (by rw [HSG.out, HS2.out, if_neg hin])
    rw [decide_eq_false hin] at hdi
    clear hin
    go_wp2_with fail
    ((with_reducible refine (hix _).mono ?_); rintro e_ W2 ⟨rfl, rfl⟩)
    clear hix
    go_wp2
    (try simp only [Exit.jump])
    go_ret2
    exact ⟨by rw [HR.out]; rfl, HB.out⟩
theorem piece_calls (s : ByteArray) (w : World) (hW : FixW w) (hs : s.size ≤ 16384) (hpos : 0 < s.size) :
    Calls Tryd.prog 19 #[.string s] w fun e w' => e = .returned (.tuple #[.int .i64 ((pieceL s.data.toList).1 : Int), .int .i64 ((pieceL s.data.toList).2 : Int)]) ∧ Below w.heap.size w w' := by
  have hpf : PcF s (s[0]'hpos) := ⟨byte_at s 0 hpos⟩
  cases hl : letC (s[0]'hpos) with
  | true => exact piece_name s w hW hs hpos _ hpf hl
  | false =>
    cases hd : digC (s[0]'hpos) with
    | true => exact piece_num s w hW hs hpos _ hpf hl hd
    | false =>
      by_cases h38 : s[0]'hpos = 38
      · exact piece_and38 s w hW hs hpos _ hpf hl hd h38
      by_cases h124 : s[0]'hpos = 124
      · exact piece_and124 s w hW hs hpos _ hpf hl hd h124
      by_cases h61 : s[0]'hpos = 61
      · exact piece_eq61 s w hW hs hpos _ hpf hl hd h61
      by_cases h33 : s[0]'hpos = 33
      · exact piece_eq33 s w hW hs hpos _ hpf hl hd h33
      by_cases h60 : s[0]'hpos = 60
      · exact piece_eq60 s w hW hs hpos _ hpf hl hd h60
      by_cases h62 : s[0]'hpos = 62
      · exact piece_eq62 s w hW hs hpos _ hpf hl hd h62
      exact piece_one s w hW hs hpos _ hpf hl hd h38 h124 h61 h33 h60 h62
end Go.Proofs.YtklkikndcieojaaDoor
