/-
  RecvFresh: the laws' calls among the arguments; Tell, Due; Put and Take of a stream without an end.
-/
import Derived.Test.YtbkpapdbidbhaaaRecvQ
import Derived.Test.YtbkpapdbidbhaaaByArg
namespace Go.Proofs.Ytbkpapdbidbhaaa
open Go.RowKit

theorem raw14_rd {W : World} {v : Value} (h : SlArg 23 W v) : RdSl W 64 [RdI, RdI, RdI, RdI, RdB, RdBy W] v := by
  have hB : Try.prog.bytesOf 31 = 64 := by kernel_rfl
  rw [← hB]
  refine h.rd Try.underlying23 fun H enc => fieldSlS Try.underlying23 Try.underlying31 (by kernel_rfl) (by kernel_rfl) (by decide) rfl ?_
  intro j f q hf hq
  match j with
  | 0 => simp at hf hq; subst hf hq; exact fieldI Try.underlying3
  | 1 => simp at hf hq; subst hf hq; exact fieldI Try.underlying3
  | 2 => simp at hf hq; subst hf hq; exact fieldI Try.underlying3
  | 3 => simp at hf hq; subst hf hq; exact fieldI Try.underlying3
  | 4 => simp at hf hq; subst hf hq; exact fieldB Try.underlying4
  | 5 => simp at hf hq; subst hf hq; exact fieldBy Try.underlying22 (by kernel_rfl) (by kernel_rfl) Try.underlying5
  | j + 6 => simp at hf

section
variable {w : World} {F : Nat → Prop} {g : Nat} {s : RS}
theorem h_tell (h : HasSt w F g s) (t : Nat) (ht : t = max s.told (s.rd + 400)) (ht6 : t ≤ 225000000000000) :
    Calls Try.prog 17 #[.pointer (some ⟨g, 1, none⟩)] w fun e w' => e = .returned (.int .i64 (t : Int)) ∧ HasSt w' F g { s with told := t } ∧ Kp (fun k => ¬ F k) w w' := by
  have hok := h.ok
  obtain ⟨id, v, bv, h, h1, h2, h3, h4⟩ := h
  have hr := hok.rd
  have hr2 := hok.taken
  have hr3 := hok.dl
  have hr4 := hok.told
  have e1 : tellF 400 (s.rd : Int) (s.told : Int) = (t : Int) := by unfold tellF; omega
  have hT := tell_any (w := w) (b := g) (o := 1) (M := 400) (R := (s.rd : Int)) (T := (s.told : Int)) h.all.2.1 h.all.2.2.1 h.all.2.2.2.1 (h.cell.frozen 3) (by omega) (by omega) (by omega) (by omega) (by omega) (by omega)
  rw [e1] at hT
  refine hT.mono ?_
  rintro e w' ⟨rfl, dd, rfl⟩
  have hk : Kp (fun k => k = g) w ((w.setCell ⟨g, 1 + 2, none⟩ (.int .i64 (t : Int))).drewN dd) := Kp.drewN (Kp.set (S := fun k => k = g) (Kp.refl _ w) (p := ⟨g, 1 + 2, none⟩) (.inl rfl) _) dd
  have hst : StAt ((w.setCell ⟨g, 1 + 2, none⟩ (.int .i64 (t : Int))).drewN dd) g id v bv { s with told := t } :=
    StAt.mk2 (Whole.drewN (h.cell.set 3 (.int .i64 (t : Int))) dd) h hk rfl rfl rfl rfl ⟨hok.norm, hok.dl, hok.rd, ht6, hok.taken, hok.top, hok.en, hok.code, hok.sure, hok.cov, hok.lf⟩
  exact ⟨rfl, ⟨id, v, bv, hst, h1, h2, h3, fun k e => Nat.lt_of_lt_of_le (h4 k e) hk.size⟩, hk.mono (fun k _ e1 e2 => h1 (e1 ▸ e2))⟩
theorem h_due (h : HasSt w F g s) (b : Bool) (hb : b = decide ((s.told : Int) + 200 ≤ (s.rd : Int) + 400)) :
    Calls Try.prog 16 #[.pointer (some ⟨g, 1, none⟩)] w fun e w' => e = .returned (.tuple #[.int .i64 ((s.rd : Int) + 400), .bool b]) ∧ Kp (fun _ => False) w w' := by
  have hok := h.ok
  obtain ⟨id, v, bv, h, _⟩ := h
  have hr := hok.rd
  have hr2 := hok.taken
  have hr3 := hok.dl
  have hr4 := hok.told
  have e1 : dueB 400 (s.rd : Int) (s.told : Int) = b := by rw [hb]; unfold dueB; congr 1
  have hT := due_any (w := w) (b := g) (o := 1) (M := 400) (R := (s.rd : Int)) (T := (s.told : Int)) h.all.2.1 h.all.2.2.1 h.all.2.2.2.1 (by omega) (by omega) (by omega) (by omega) (by omega) (by omega)
  rw [e1] at hT
  refine hT.mono ?_
  rintro e w' ⟨rfl, hd⟩
  obtain ⟨dn, rfl⟩ := hd
  exact ⟨rfl, (Kp.refl _ w).drewN dn⟩
end
end Go.Proofs.Ytbkpapdbidbhaaa
