/-
  RecvFresh: the laws' calls among the arguments; Tell, Due; Put and Take of a stream without an end.
-/
import Derived.Test.YtbkpapdbidbhaaaRecvQ
import Derived.Test.YtbkpapdbidbhaaaByArg
namespace Go.Proofs.Ytbkpapdbidbhaaa
open Go.RowKit

theorem raw14_rd {W : World} {v : Value} (h : SlArg 23 W v) : RdSl W 64 [RdI, RdI, RdI, RdI, RdB, RdBy W] v := by
  have hB : Try.prog.bytesOf 31 = 64 := by kernel_rfl
  rw [← hB]
  refine h.rd Try.underlying23 fun H enc => fieldSlS Try.underlying23 Try.underlying31 (by kernel_rfl) (by kernel_rfl) (by decide) rfl ?_
  intro j f q hf hq
  match j with
  | 0 => simp at hf hq; subst hf hq; exact fieldI Try.underlying3
  | 1 => simp at hf hq; subst hf hq; exact fieldI Try.underlying3
  | 2 => simp at hf hq; subst hf hq; exact fieldI Try.underlying3
  | 3 => simp at hf hq; subst hf hq; exact fieldI Try.underlying3
  | 4 => simp at hf hq; subst hf hq; exact fieldB Try.underlying4
  | 5 => simp at hf hq; subst hf hq; exact fieldBy Try.underlying22 (by kernel_rfl) (by kernel_rfl) Try.underlying5
  | j + 6 => simp at hf

section
variable {w : World} {F : Nat → Prop} {g : Nat} {s : RS}
theorem h_tell (h : HasSt w F g s) (t : Nat) (ht : t = max s.told (s.rd + 400)) (ht6 : t ≤ 1000000000) :
    Calls Try.prog 17 #[.pointer (some ⟨g, 1, none⟩)] w fun e w' => e = .returned (.int .i64 (t : Int)) ∧ HasSt w' F g { s with told := t } ∧ Kp (fun k => ¬ F k) w w' := by
  have hok := h.ok
  obtain ⟨id, v, bv, h, h1, h2, h3, h4⟩ := h
  have hr := hok.rd
  have hr2 := hok.taken
  have hr3 := hok.dl
  have hr4 := hok.told
  have e1 : tellF 400 (s.rd : Int) (s.told : Int) = (t : Int) := by unfold tellF; omega
  have hT := tell_any (w := w) (b := g) (o := 1) (M := 400) (R := (s.rd : Int)) (T := (s.told : Int)) h.all.2.1 h.all.2.2.1 h.all.2.2.2.1 (h.cell.frozen 3) (by omega) (by omega) (by omega) (by omega) (by omega) (by omega)
  rw [e1] at hT
  refine hT.mono ?_
  rintro e w' ⟨rfl, dd, rfl⟩
  have hk : Kp (fun k => k = g) w ((w.setCell ⟨g, 1 + 2, none⟩ (.int .i64 (t : Int))).drewN dd) := Kp.drewN (Kp.set (S := fun k => k = g) (Kp.refl _ w) (p := ⟨g, 1 + 2, none⟩) (.inl rfl) _) dd
  have hst : StAt ((w.setCell ⟨g, 1 + 2, none⟩ (.int .i64 (t : Int))).drewN dd) g id v bv { s with told := t } :=
    StAt.mk2 (Whole.drewN (h.cell.set 3 (.int .i64 (t : Int))) dd) h hk rfl rfl rfl rfl ⟨hok.norm, hok.dl, hok.rd, ht6, hok.taken, hok.top, hok.en, hok.code, hok.sure, hok.cov⟩
  exact ⟨rfl, ⟨id, v, bv, hst, h1, h2, h3, fun k e => Nat.lt_of_lt_of_le (h4 k e) hk.size⟩, hk.mono (fun k _ e1 e2 => h1 (e1 ▸ e2))⟩
theorem h_due (h : HasSt w F g s) (b : Bool) (hb : b = decide ((s.told : Int) + 200 ≤ (s.rd : Int) + 400)) :
    Calls Try.prog 16 #[.pointer (some ⟨g, 1, none⟩)] w fun e w' => e = .returned (.tuple #[.int .i64 ((s.rd : Int) + 400), .bool b]) ∧ Kp (fun _ => False) w w' := by
  have hok := h.ok
  obtain ⟨id, v, bv, h, _⟩ := h
  have hr := hok.rd
  have hr2 := hok.taken
  have hr3 := hok.dl
  have hr4 := hok.told
  have e1 : dueB 400 (s.rd : Int) (s.told : Int) = b := by rw [hb]; unfold dueB; congr 1
  have hT := due_any (w := w) (b := g) (o := 1) (M := 400) (R := (s.rd : Int)) (T := (s.told : Int)) h.all.2.1 h.all.2.2.1 h.all.2.2.2.1 (by omega) (by omega) (by omega) (by omega) (by omega) (by omega)
  rw [e1] at hT
  refine hT.mono ?_
  rintro e w' ⟨rfl, hd⟩
  obtain ⟨dn, rfl⟩ := hd
  exact ⟨rfl, (Kp.refl _ w).drewN dn⟩
/-- A stream without an end. -/
structure Fr (s : RS) : Prop where
  ended : s.ended = false
  broken : s.broken = false
  top : s.top ≤ 479
  len : s.d.length ≤ 479
  told : s.told ≤ s.taken + 400
theorem fr_put (h : HasSt w F g s) (hf : Fr s) (o m : Nat) (ho : o < 420) (hm : m < 60) {A : Option Addr} {c : Nat} {p : List UInt8} (hp : Src w 1 (.slice A m c) m (encB p)) (hmc : m ≤ c) (hcm : c ≤ maxLen)
    (hown : ∀ k, (Value.slice A m c).ownBlock = some k → F k) (er : Nat) (her : er = if o + m ≤ s.told then 0 else 7) (tp : Nat) (htp : tp = if o + m ≤ s.told ∧ 0 < m then max s.top (o + m) else s.top) :
    Calls Try.prog 13 #[.pointer (some ⟨g, 0, none⟩), .int .i64 (o : Int), .bool false, .slice A m c] w fun e w' =>
      ∃ s' : RS, e = .returned (.tuple #[.int .i64 ((tp : Int) - (s.top : Int)), .int .i64 (er : Int)]) ∧ HasSt w' F g s' ∧ Fr s' ∧ s'.top = tp ∧ s'.taken = s.taken ∧ s'.told = s.told ∧ Kp (fun k => ¬ F k) w w' := by
  have hpl : p.length = m := by have := hp.1; rw [encB_len] at this; omega
  have hpe : putErr s (o : Int) false m = er := by
    unfold putErr
    rw [if_neg (by omega), hf.ended, her]
    by_cases e1 : o + m ≤ s.told
    · rw [if_neg (by omega), if_neg (by simp), if_pos e1]
    · rw [if_pos (by omega), if_neg e1]
  by_cases e1 : o + m ≤ s.told
  · rw [if_pos e1] at her
    subst her
    refine (h_put h o false hp hmc hcm hown hpe).mono ?_
    rintro e w' ⟨rfl, hs, hk⟩
    have htop : (putS s o false p).top = tp := by
      show (if p.length = 0 ∧ false = false then s.top else max s.top (o + p.length)) = tp
      rw [htp, hpl]
      by_cases e2 : m = 0
      · rw [if_pos ⟨e2, rfl⟩, if_neg (by omega)]
      · rw [if_neg (fun h => e2 h.1), if_pos ⟨e1, by omega⟩]
    refine ⟨_, by rw [htop]; rfl, hs, ⟨?_, hf.broken, ?_, ?_, hf.told⟩, htop, rfl, rfl, hk⟩
    · show (s.ended || false) = false
      rw [hf.ended]; rfl
    · rw [htop, htp]
      have := hf.top
      split <;> omega
    · rw [putS_len h.ok (by rw [hpl]; omega), hpl]
      have := hf.len
      omega
  · rw [if_neg e1] at her
    have htp' : tp = s.top := by rw [htp, if_neg (fun h => e1 h.1)]
    refine (h_put_err h (o : Int) (by omega) (by omega) false A m c (by omega) er hpe (by rw [her]; decide)).mono ?_
    rintro e w' ⟨rfl, rfl⟩
    exact ⟨s, by rw [htp', Int.sub_self], h, hf, htp'.symm, rfl, rfl, Kp.refl _ _⟩
theorem fr_take (h : HasSt w F g s) (hf : Fr s) (most : Nat) (hm : most ≤ 1000) :
    Calls Try.prog 14 #[.pointer (some ⟨g, 0, none⟩), .int .i64 (most : Int)] w fun e w' => ∃ (vr : Value) (s' : RS) (n : Nat) (ov cd : Int), e = .returned (.tuple #[vr, .int .i64 ov, .int .i64 cd]) ∧ (∃ A c, vr = .slice A n c) ∧
      HasSt w' F g s' ∧ Fr s' ∧ s'.top = s.top ∧ s'.taken = s.taken + n ∧ s'.told = s.told ∧ Kp (fun k => ¬ F k) w w' := by
  have ht := to_le h.ok (most : Int)
  refine (h_take h (most : Int) (by omega) (by omega) _ rfl).mono ?_
  rintro e w' ⟨vr, rfl, hr, hs, hk⟩
  exact ⟨vr, _, toN s most - s.taken, _, _, rfl, hr.form, hs.sub (fun _ e => .inl e), ⟨hf.ended, hf.broken, hf.top, hf.len, by show s.told ≤ toN s most + 400; have := hf.told; omega⟩, rfl, by show toN s most = _; omega, rfl, hk⟩
end
end Go.Proofs.Ytbkpapdbidbhaaa
