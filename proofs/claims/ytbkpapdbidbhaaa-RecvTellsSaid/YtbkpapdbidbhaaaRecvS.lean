/-
  RecvSure, RecvOnce: plain laws.
-/
import Derived.Test.YtbkpapdbidbhaaaRecvQ
namespace Go.Proofs.Ytbkpapdbidbhaaa
open Go.RowKit

theorem far_in {s : RS} (h : s.Ok) : ∀ j : Nat, s.taken ≤ j → j < farN s → InL s.L j := by
  obtain ⟨h1, h2, _⟩ := first_spec h.norm (s.taken : Int)
  intro j hj1 hj2
  refine h2 j (by omega) ?_
  unfold farN at hj2
  split at hj2 <;> omega
theorem take_bytes {all : List UInt8} {s : RS} (h : s.Ok) (hG : Good2 all s) (most : Int) (_hl : toN s most ≤ all.length) : (s.d.drop s.taken).take (toN s most - s.taken) = (all.drop s.taken).take (toN s most - s.taken) := by
  have ht := to_le h most
  apply List.ext_getElem?
  intro j
  rw [List.getElem?_take, List.getElem?_take]
  by_cases hj : j < toN s most - s.taken
  · rw [if_pos hj, if_pos hj, List.getElem?_drop, List.getElem?_drop]
    refine hG _ (far_in h _ (by omega) ?_)
    have : toN s most ≤ farN s := by unfold toN; omega
    omega
  · rw [if_neg hj, if_neg hj]
theorem got_app {all : List UInt8} {a t : Nat} (h1 : a ≤ t) : all.take a ++ (all.drop a).take (t - a) = all.take t := by
  have := List.take_add (l := all) (i := a) (j := t - a)
  rw [← this]
  congr 1
  omega

/-- A stream that was written from all's first en bytes, broken or not. -/
structure Sv (all : List UInt8) (en : Nat) (s : RS) : Prop where
  ok : s.Ok
  told : s.told = 400
  good : Good2 all s
  top : s.top ≤ en
  len : s.d.length ≤ en
  rng : ∀ j, InL s.L j → 0 ≤ j ∧ j < (en : Int)
  same : s.ended = s.broken
  brk : s.broken = true → s.en = en ∧ s.top = en ∧ s.code = 77
section
variable {all : List UInt8} {en : Nat} {s : RS}
theorem sv_start : Sv all en rs0 := ⟨rs0_ok, rfl, fun j hj => absurd hj (inl_nil _), Nat.zero_le _, Nat.zero_le _, fun j hj => absurd hj (inl_nil _), rfl, fun h => by cases h⟩
theorem sv_perr (h : Sv all en s) (h4 : en ≤ 400) (o m : Nat) (hto : o + m ≤ en) : putErr s (o : Int) false m = 0 := by
  unfold putErr
  have ht := h.told
  rw [if_neg (by omega), if_neg (by omega), if_neg]
  rintro (⟨h1, h2⟩ | ⟨h1, _⟩ | ⟨h1, _⟩)
  · have := h.brk (by rw [← h.same]; exact h1)
    omega
  · cases h1
  · cases h1
theorem sv_put (h : Sv all en s) (h4 : en ≤ 400) {o : Nat} {p : List UInt8} (hto : o + p.length ≤ en) (hp : ∀ j, o ≤ j → j < o + p.length → p[j - o]? = all[j]?) (hok : (putS s o false p).Ok) : Sv all en (putS s o false p) := by
  have htop : (putS s o false p).top ≤ en ∧ (s.top = en → (putS s o false p).top = en) := by
    show (if p.length = 0 ∧ false = false then s.top else max s.top (o + p.length)) ≤ en ∧ (s.top = en → (if p.length = 0 ∧ false = false then s.top else max s.top (o + p.length)) = en)
    have := h.top
    split <;> (constructor <;> omega)
  refine ⟨hok, h.told, good_put h.ok (by omega) h.good (fun j h1 h2 _ => hp j h1 h2), htop.1, ?_, fun j hj => ?_, ?_, fun hb => ?_⟩
  · rw [putS_len h.ok (by omega)]
    have := h.len
    omega
  · rcases (putS_in h.ok (by omega) j).1 hj with h1 | h1
    · exact h.rng j h1
    · omega
  · show (s.ended || false) = s.broken
    rw [Bool.or_false, h.same]
  · have := h.brk hb
    exact ⟨this.1, htop.2 this.2.1, this.2.2⟩
theorem sv_berr (h : Sv all en s) (h4 : en ≤ 400) (code sure : Nat) (hc : code ≤ 1000) (hs : sure ≤ en) : brkErr s (code : Int) (en : Int) (sure : Int) = 0 := by
  have m1 : mayN (code : Int) = true := by unfold mayN; simp; omega
  have m2 : mayN (en : Int) = true := by unfold mayN; simp; omega
  have m3 : mayN (sure : Int) = true := by unfold mayN; simp; omega
  unfold brkErr
  have ht := h.told
  have htp := h.top
  rw [m1, m2, m3, if_neg (by simp; omega), if_neg (by omega), if_neg]
  rintro (⟨h1, h2⟩ | h1)
  · have := h.brk (by rw [← h.same]; exact h1)
    omega
  · omega
theorem sv_brk1 (h : Sv all en s) (hb : s.broken = false) (sure : Nat) (hok : (brkS s 77 en sure).Ok) : Sv all en (brkS s 77 en sure) ∧ (brkS s 77 en sure).broken = true ∧ (brkS s 77 en sure).sure = sure ∧ (brkS s 77 en sure).taken = s.taken := by
  have he : s.ended = false := by rw [h.same]; exact hb
  have e : brkS s 77 en sure = { s with ended := true, en := en, top := max s.top en, broken := true, code := 77, sure := sure } := by
    unfold brkS
    rw [if_neg (fun h => by rw [he] at h; cases h.1), if_neg (by rw [hb]; simp)]
  rw [e] at hok ⊢
  have htp := h.top
  exact ⟨⟨hok, h.told, h.good, by show max s.top en ≤ en; omega, h.len, h.rng, rfl, fun _ => ⟨rfl, by show max s.top en = en; omega, rfl⟩⟩, rfl, rfl, rfl⟩
theorem sv_brk2 (h : Sv all en s) (hb : s.broken = true) (code less : Nat) (hok : (brkS s code en less).Ok) : Sv all en (brkS s code en less) ∧ (brkS s code en less).broken = true ∧ (brkS s code en less).sure = min s.sure less ∧ (brkS s code en less).taken = s.taken := by
  have e : brkS s code en less = { s with ended := true, en := en, top := max s.top en, sure := min s.sure less } := by
    unfold brkS
    rw [if_neg (fun h => by rw [hb] at h; cases h.2.2), if_pos hb]
  rw [e] at hok ⊢
  have htp := h.top
  have hx := h.brk hb
  exact ⟨⟨hok, h.told, h.good, by show max s.top en ≤ en; omega, h.len, h.rng, hb.symm, fun _ => ⟨rfl, by show max s.top en = en; omega, hx.2.2⟩⟩, hb, rfl, rfl⟩
theorem sv_take (h : Sv all en s) (most : Int) : Sv all en (takeS s (toN s most)) ∧ s.taken ≤ toN s most ∧ toN s most ≤ en ∧ (s.broken = true → toN s most ≤ max s.sure s.taken) ∧ overN (takeS s (toN s most)) = (if s.broken = true ∧ s.sure ≤ toN s most then 2 else 0) ∧ codeN (takeS s (toN s most)) = (if s.broken = true ∧ s.sure ≤ toN s most then 77 else 0) := by
  have ht := to_le h.ok most
  have hl := h.len
  have hov : overN (takeS s (toN s most)) = (if s.broken = true ∧ s.sure ≤ toN s most then 2 else 0) := by
    show (if s.broken = true ∧ s.sure ≤ toN s most then 2 else if s.broken = false ∧ s.ended = true ∧ toN s most = s.en then 1 else 0) = _
    by_cases e1 : s.broken = true ∧ s.sure ≤ toN s most
    · rw [if_pos e1, if_pos e1]
    · rw [if_neg e1, if_neg e1, if_neg]
      rintro ⟨h1, h2, _⟩
      rw [h.same, h1] at h2
      cases h2
  refine ⟨⟨takeS_ok h.ok _ ht.2, h.told, h.good, h.top, h.len, h.rng, h.same, h.brk⟩, ht.1, by omega, fun hb => ?_, hov, ?_⟩
  · unfold toN farN
    rw [if_pos hb]
    omega
  · unfold codeN
    rw [hov]
    by_cases e1 : s.broken = true ∧ s.sure ≤ toN s most
    · rw [if_pos e1, if_pos e1, if_pos rfl]
      exact (h.brk e1.1).2.2
    · rw [if_neg e1, if_neg e1, if_neg (by omega)]
/-- Once all of it came the rest that is sure is taken. -/
theorem sv_last (h : Sv all en s) (hb : s.broken = true) (hall : ∀ j, InL s.L j ↔ 0 ≤ j ∧ j < (en : Int)) (hsu : s.sure ≤ en) (ht : s.taken ≤ en) : toN s 999 = min (max s.sure s.taken) (s.taken + 999) := by
  have hf : firstL s.L s.taken = (en : Int) := first_is h.ok.norm (by omega) (fun j h1 h2 => (hall j).2 ⟨by omega, h2⟩) (fun hh => by have := (hall _).1 hh; omega)
  unfold toN farN mostN
  rw [if_pos hb, hf]
  omega
theorem sv_full (h : Sv all en s) (h4 : en ≤ 400) {p : List UInt8} (hp : p.length = en) : ∀ j, InL (putS s 0 false p).L j ↔ 0 ≤ j ∧ j < (en : Int) := by
  intro j
  rw [putS_in h.ok (by omega), hp]
  constructor
  · rintro (h1 | h1)
    · exact h.rng j h1
    · omega
  · intro h1; right; omega
end
end Go.Proofs.Ytbkpapdbidbhaaa
