/-
  What a queue tells is memory of its own, and none of the queue's.
-/
import Derived.Test.YtelhnhnbfjamhaaQueueKn
namespace Go.Proofs.Ytelhnhnbfjamhaa
open Go.RowKit

theorem qo_first2 {W w : World} {q : Nat} {l : List It} {L : Nat → Prop} {x : It} (h : QOff W w q (x :: l) L) : Calls Try.prog 30 #[.pointer (some ⟨q, 0, none⟩)] w fun e w' => ∃ v', e = .returned (.tuple #[.agg #[.int .i64 x.1, v'], .bool true]) ∧ NewB w' w.heap.size v' x.2 ∧ QOff W w' q (x :: l) (fun k => L k ∨ v'.ownBlock = some k) ∧ KeptL L w w' := by
  obtain ⟨v, zs, h1, h2, h3, h4, h5, h6⟩ := id h
  cases zs with
  | nil => cases h2
  | cons z zs =>
    obtain ⟨rfl, rfl⟩ := List.cons.inj h2
    refine (q_first h1).mono ?_
    rintro e w' ⟨v', he, hn, hk⟩
    exact ⟨v', he, hn, h.move hk.no (fun k hk' => by
      rcases hk' with hk' | hk'
      · exact ⟨.inl hk', Nat.lt_of_lt_of_le (h.llt k hk').2 hk.size⟩
      · exact ⟨.inr (hn.2.1 k hk').1, (hn.2.1 k hk').2⟩), hk.no⟩

theorem qo_pop2 {W w : World} {q : Nat} {l : List It} {L : Nat → Prop} {x : It} (h : QOff W w q (x :: l) L) : Calls Try.prog 29 #[.pointer (some ⟨q, 0, none⟩)] w fun e w' => ∃ v', e = .returned (.tuple #[.agg #[.int .i64 x.1, v'], .bool true]) ∧ NewB w' w.heap.size v' x.2 ∧ QOff W w' q l (fun k => L k ∨ v'.ownBlock = some k) ∧ KeptL L w w' := by
  obtain ⟨v, zs, h1, h2, h3, h4, h5, h6⟩ := h
  cases zs with
  | nil => cases h2
  | cons z zs =>
    obtain ⟨rfl, rfl⟩ := List.cons.inj h2
    refine (q_pop h1).mono ?_
    rintro e w' ⟨v', vr, he, hn, hq, hv, hk⟩
    have hF : ∀ k, QFoot q vr zs k → QFoot q v (z :: zs) k := fun k hk' => by
      rcases hk' with e | e | ⟨y, hy, e⟩
      · exact .inl e
      · exact .inr (.inl (hv ▸ e))
      · exact .inr (.inr ⟨y, by simp [hy], e⟩)
    obtain ⟨hq2, hk2⟩ := off_left h1 h3 h4 h5 h6 hq rfl hk (fun k e => .inl e) (fun k hk' => .inl (hF k hk'))
    refine ⟨v', he, hn, ?_, hk2⟩
    refine ⟨vr, zs, hq, rfl, hq2.below, h4, fun k hk' hl => ?_, fun k hl => ?_⟩
    · have hlt := h1.lt (hF k hk')
      rcases hl with hl | hl
      · exact h5 k (hF k hk') hl
      · have := (hn.2.1 k hl).1; omega
    · rcases hl with hl | hl
      · exact hq2.llt k hl
      · have := hn.2.1 k hl; have := h3.size; omega
end Go.Proofs.Ytelhnhnbfjamhaa
