/- Receive, all ways together. -/
import Derived.Test.YtbdocgddidcfeaaDoorLinkI
import Derived.Test.YtbdocgddidcfeaaDoorLinkJ
import Derived.Test.YtbdocgddidcfeaaDoorLinkK
namespace Go.Proofs.YtbdocgddidcfeaaDoor
open Go.RowKit Go.Proofs.YtbdocgddidcfeaaDoorW.PrintWords Go.Proofs.YtbdocgddidcfeaaDoorW.PrintLast Go.Proofs.YtbdocgddidcfeaaDoorW.PrintMore
set_option linter.unusedVariables false
set_option linter.unusedSimpArgs false

/-- Receive behind the opening. -/
def recvG (s : LS) (b : List Int) (N x9 x10 : Int) : LS × List Int × Bool × Int :=
  if s.any = true ∧ newerF N s.last = false then ({ s with acked := hearF s b }, [], false, 71) else
  if s.waits = true ∧ N ≠ s.n ∧ newerF N s.n = false then ({ s with acked := hearF s b }, [], false, 71) else
  if s.waits = true ∧ N = s.n then
    if s.many ≠ x10 then ({ s with acked := hearF s b }, [], false, 70) else
    if (pget x9 s.parts).isSome = true then ({ s with acked := hearF s b }, [], false, 71) else
    if (s.parts.length : Int) + 1 < x10 then ({ s with acked := hearF s b, parts := s.parts ++ [(x9, b.drop 11)] }, [], false, 0)
    else (tellF { s with acked := hearF s b, parts := s.parts ++ [(x9, b.drop 11)] } N, outF { s with acked := hearF s b, parts := s.parts ++ [(x9, b.drop 11)] }, true, 0)
  else if 1 < x10 then ({ s with acked := hearF s b, waits := true, n := N, many := x10, parts := [(x9, b.drop 11)] }, [], false, 0)
  else (tellF { s with acked := hearF s b, waits := true, n := N, many := x10, parts := [(x9, b.drop 11)] } N, outF { s with acked := hearF s b, waits := true, n := N, many := x10, parts := [(x9, b.drop 11)] }, true, 0)
theorem recvF_open {s : LS} {d : List Int} (h2 : (opF d).2 = true) (h3 : formedF (opF d).1 = true) : recvF s d = recvG s (opF d).1 (rd (opF d).1 7 * 256 + rd (opF d).1 8) (rd (opF d).1 9) (rd (opF d).1 10) := by
  unfold recvF recvG
  rw [if_neg (by rw [h2, h3]; simp)]
  simp only []
  generalize (opF d).1 = b
  generalize rd b 7 * 256 + rd b 8 = N
  by_cases c1 : s.any = true ∧ newerF N s.last = false
  · rw [if_pos c1, if_pos c1]
  · rw [if_neg c1, if_neg c1]
    by_cases c2 : s.waits = true ∧ N ≠ s.n ∧ newerF N s.n = false
    · rw [if_pos c2, if_pos c2]
    · rw [if_neg c2, if_neg c2]
      by_cases c3 : s.waits = true ∧ N = s.n
      · simp only [if_pos c3]
        by_cases c4 : s.many ≠ rd b 10
        · rw [if_pos c4, if_pos c4]
        · rw [if_neg c4, if_neg c4]
          by_cases c5 : (pget (rd b 9) s.parts).isSome = true
          · rw [if_pos c5, if_pos c5]
          · rw [if_neg c5, if_neg c5]
            have c6 : s.many = rd b 10 := Classical.not_not.1 c4
            rw [List.length_append, c6]
            rfl
      · simp only [if_neg c3]
        rw [if_neg (by simp), if_neg (by simp [pget])]
        rfl
theorem opF_len (d : List Int) : (opF d).1.length ≤ d.length := by
  unfold opF
  split
  · simp
  · split
    · rw [List.length_take]; omega
    · simp
theorem bool2 (b : Bool) : b = false ∨ b = true := by cases b <;> simp
theorem Receive_calls (A : Option Addr) (c : Nat) (d : List Int) (g : Nat) (s : LS) (ws : List Nat) (w : World) (h : LinkM w g s ws) (hC : Kd.C (Kd.int .u8) w A d.length d) (hc : d.length ≤ c) (hd : ∀ x ∈ d, 0 ≤ x ∧ x < 256) (hl : d.length ≤ 140737488351232) (hT : Tab w) :
    Calls Tryd.prog 13 #[.pointer (some ⟨g, 0, none⟩), .slice A d.length c] w (RcvPost w g ws (recvF s d).1 (recvF s d).2.1 (recvF s d).2.2.1 (recvF s d).2.2.2) := by
  have hbl : (opF d).1.length ≤ 140737488355328 := by have := opF_len d; omega
  cases h2 : (opF d).2 with
  | false =>
    have hr : recvF s d = (s, [], false, 70) := by unfold recvF; rw [if_pos (.inl h2)]
    rw [hr]
    exact rcv_shut A c d g s ws w h hC hc hd hl hT h2
  | true =>
    cases h3 : formedF (opF d).1 with
    | false =>
      have hr : recvF s d = (s, [], false, 70) := by unfold recvF; rw [if_pos (.inr h3)]
      rw [hr]
      exact rcv_unformed A c d g s ws w h hC hc hd hl hT hbl h2 h3
    | true =>
      rw [recvF_open h2 h3]
      obtain ⟨b, hbe⟩ : ∃ b, b = (opF d).1 := ⟨_, rfl⟩
      rw [← hbe] at hbl h3 ⊢
      obtain ⟨N, hN⟩ : ∃ N, N = rd b 7 * 256 + rd b 8 := ⟨_, rfl⟩
      obtain ⟨x9, h9⟩ : ∃ x, x = rd b 9 := ⟨_, rfl⟩
      obtain ⟨x10, h10⟩ : ∃ x, x = rd b 10 := ⟨_, rfl⟩
      rw [← hN, ← h9, ← h10]
      unfold recvG
      by_cases c1 : s.any = true ∧ newerF N s.last = false
      · rw [if_pos c1]
        exact rcv_stale1 A c d g s ws w h hC hc hd hl hT b N x9 x10 hbe hN h9 h10 hbl h2 h3 c1.1 c1.2
      · rw [if_neg c1]
        by_cases c2 : s.waits = true ∧ N ≠ s.n ∧ newerF N s.n = false
        · rw [if_pos c2]
          rcases bool2 s.any with ha | ha
          · exact rcv_stale2 A c d g s ws w h hC hc hd hl hT b N x9 x10 hbe hN h9 h10 hbl h2 h3 ha c2.1 c2.2.1 c2.2.2
          · exact rcv_stale2a A c d g s ws w h hC hc hd hl hT b N x9 x10 hbe hN h9 h10 hbl h2 h3 ha (by cases hn : newerF N s.last with | true => rfl | false => exact absurd ⟨ha, hn⟩ c1) c2.1 c2.2.1 c2.2.2
        · rw [if_neg c2]
          by_cases c3 : s.waits = true ∧ N = s.n
          · rw [if_pos c3]
            by_cases c4 : s.many ≠ x10
            · rw [if_pos c4]
              rcases bool2 s.any with ha | ha
              · exact rcv_same_wrong A c d g s ws w h hC hc hd hl hT b N x9 x10 hbe hN h9 h10 hbl h2 h3 ha c3.1 c3.2 c4
              · exact rcv_same_wronga A c d g s ws w h hC hc hd hl hT b N x9 x10 hbe hN h9 h10 hbl h2 h3 ha (by cases hn : newerF N s.last with | true => rfl | false => exact absurd ⟨ha, hn⟩ c1) c3.1 c3.2 c4
            · rw [if_neg c4]
              have c6 : s.many = x10 := Classical.not_not.1 c4
              by_cases c5 : (pget x9 s.parts).isSome = true
              · rw [if_pos c5]
                rcases bool2 s.any with ha | ha
                · exact rcv_same_stale A c d g s ws w h hC hc hd hl hT b N x9 x10 hbe hN h9 h10 hbl h2 h3 ha c3.1 c3.2 c6 c5
                · exact rcv_same_stalea A c d g s ws w h hC hc hd hl hT b N x9 x10 hbe hN h9 h10 hbl h2 h3 ha (by cases hn : newerF N s.last with | true => rfl | false => exact absurd ⟨ha, hn⟩ c1) c3.1 c3.2 c6 c5
              · rw [if_neg c5]
                have c7 : pget x9 s.parts = none := by cases hp : pget x9 s.parts with | none => rfl | some a => rw [hp] at c5; exact absurd rfl c5
                by_cases c8 : (s.parts.length : Int) + 1 < x10
                · rw [if_pos c8]
                  rcases bool2 s.any with ha | ha
                  · exact rcv_same_pending A c d g s ws w h hC hc hd hl hT b N x9 x10 hbe hN h9 h10 hbl h2 h3 ha c3.1 c3.2 c6 c7 c8
                  · exact rcv_same_pendinga A c d g s ws w h hC hc hd hl hT b N x9 x10 hbe hN h9 h10 hbl h2 h3 ha (by cases hn : newerF N s.last with | true => rfl | false => exact absurd ⟨ha, hn⟩ c1) c3.1 c3.2 c6 c7 c8
                · rw [if_neg c8]
                  rcases bool2 s.any with ha | ha
                  · exact rcv_same_told A c d g s ws w h hC hc hd hl hT b N x9 x10 hbe hN h9 h10 hbl h2 h3 ha c3.1 c3.2 c6 c7 c8
                  · exact rcv_same_tolda A c d g s ws w h hC hc hd hl hT b N x9 x10 hbe hN h9 h10 hbl h2 h3 ha (by cases hn : newerF N s.last with | true => rfl | false => exact absurd ⟨ha, hn⟩ c1) c3.1 c3.2 c6 c7 c8
          · rw [if_neg c3]
            have hnn : s.waits = true → N ≠ s.n ∧ newerF N s.n = true := by
              intro hw
              have hne : N ≠ s.n := fun e => c3 ⟨hw, e⟩
              exact ⟨hne, by cases hn : newerF N s.n with | true => rfl | false => exact absurd ⟨hw, hne, hn⟩ c2⟩
            by_cases c8 : 1 < x10
            · rw [if_pos c8]
              rcases bool2 s.any with ha | ha
              ·
                rcases bool2 s.waits with hw | hw
                · exact rcv_new_pending A c d g s ws w h hC hc hd hl hT b N x9 x10 hbe hN h9 h10 hbl h2 h3 ha hw c8
                · exact rcv_newer_pending A c d g s ws w h hC hc hd hl hT b N x9 x10 hbe hN h9 h10 hbl h2 h3 ha hw (hnn hw).1 (hnn hw).2 c8
              ·
                have hnw : newerF N s.last = true := by cases hn : newerF N s.last with | true => rfl | false => exact absurd ⟨ha, hn⟩ c1
                rcases bool2 s.waits with hw | hw
                · exact rcv_new_pendinga A c d g s ws w h hC hc hd hl hT b N x9 x10 hbe hN h9 h10 hbl h2 h3 ha hnw hw c8
                · exact rcv_newer_pendinga A c d g s ws w h hC hc hd hl hT b N x9 x10 hbe hN h9 h10 hbl h2 h3 ha hnw hw (hnn hw).1 (hnn hw).2 c8
            · rw [if_neg c8]
              rcases bool2 s.any with ha | ha
              ·
                rcases bool2 s.waits with hw | hw
                · exact rcv_new_told A c d g s ws w h hC hc hd hl hT b N x9 x10 hbe hN h9 h10 hbl h2 h3 ha hw c8
                · exact rcv_newer_told A c d g s ws w h hC hc hd hl hT b N x9 x10 hbe hN h9 h10 hbl h2 h3 ha hw (hnn hw).1 (hnn hw).2 c8
              ·
                have hnw : newerF N s.last = true := by cases hn : newerF N s.last with | true => rfl | false => exact absurd ⟨ha, hn⟩ c1
                rcases bool2 s.waits with hw | hw
                · exact rcv_new_tolda A c d g s ws w h hC hc hd hl hT b N x9 x10 hbe hN h9 h10 hbl h2 h3 ha hnw hw c8
                · exact rcv_newer_tolda A c d g s ws w h hC hc hd hl hT b N x9 x10 hbe hN h9 h10 hbl h2 h3 ha hnw hw (hnn hw).1 (hnn hw).2 c8
end Go.Proofs.YtbdocgddidcfeaaDoor
