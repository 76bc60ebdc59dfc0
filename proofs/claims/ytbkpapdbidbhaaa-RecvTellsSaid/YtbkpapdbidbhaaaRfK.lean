/-
  RecvTells: Put and Break on either side, refused or not; what the numbers grow to.
-/
import Derived.Test.YtbkpapdbidbhaaaRfJ
import Derived.Test.YtbkpapdbidbhaaaPot
namespace Go.Proofs.Ytbkpapdbidbhaaa
open Go.RowKit

def putRs (s : RS) (off : Int) (fin : Bool) (m : Nat) (p : List UInt8) : RS := if putErr s off fin m = 0 then putS s off.toNat fin p else s
def putRf (s : RS) (off : Int) (fin : Bool) (m : Nat) (p : List UInt8) : Int := if putErr s off fin m = 0 then ((putS s off.toNat fin p).top : Int) - s.top else 0
def brkRs (s : RS) (code : Int) (en su : Nat) : RS := if brkErr s code en su = 0 then brkS s code.toNat en su else s
def brkRf (s : RS) (code : Int) (en su : Nat) : Int := if brkErr s code en su = 0 then ((brkS s code.toNat en su).top : Int) - s.top else 0
theorem put_off {s : RS} {off : Int} {fin : Bool} {m : Nat} (he : putErr s off fin m = 0) : 0 ≤ off ∧ off + m ≤ s.told := by
  unfold putErr at he
  by_cases e1 : off < 0 ∨ 4611686018427387903 - (m : Int) < off
  · rw [if_pos e1] at he; cases he
  · rw [if_neg e1] at he
    by_cases e2 : (s.told : Int) < off + m
    · rw [if_pos e2] at he; cases he
    · omega
theorem brk_code {s : RS} {code : Int} {en su : Nat} (he : brkErr s code en su = 0) : 0 ≤ code := by
  unfold brkErr at he
  by_cases e1 : mayN code = false ∨ mayN (en : Int) = false ∨ mayN (su : Int) = false ∨ (en : Int) < su
  · rw [if_pos e1] at he; cases he
  · have : mayN code = true := by cases hx : mayN code with | true => rfl | false => exact absurd (.inl hx) e1
    unfold mayN at this
    simp at this
    omega
/-- All below a, and nothing beyond a + 400: few runs. -/
theorem runs_few {E : Int} {L : List Pr} (hn : NormL E L) (a : Nat) (h1 : ∀ j : Nat, j < a → InL L j) (h2 : ∀ j, InL L j → j < (a : Int) + 400) : L.length ≤ 401 := by
  have hN : NormL ((a : Int) + 400) L := ⟨hn.asc, fun r hr => by
    obtain ⟨q1, q2, _⟩ := hn.run r hr
    have := h2 (r.2 - 1) ⟨r, hr, by omega, by omega⟩
    omega⟩
  cases L with
  | nil => simp
  | cons r L =>
    obtain ⟨c1, c2, c3, c4, c5⟩ := hN.cons
    rcases Nat.eq_zero_or_pos a with h0 | h0
    · have := hN.few (by omega)
      simp only [List.length_cons] at this ⊢
      omega
    · have hr2 : (a : Int) ≤ r.2 := by
        have h00 : r.1 ≤ 0 := by
          obtain ⟨x, hx, hx1, hx2⟩ := h1 0 h0
          rcases List.mem_cons.1 hx with rfl | hx
          · simpa using hx1
          · have := c2 x hx
            simp at hx1
            omega
        refine Classical.byContradiction fun hlt => ?_
        obtain ⟨x, hx, hx1, hx2⟩ := h1 r.2.toNat (by omega)
        rcases List.mem_cons.1 hx with rfl | hx
        · omega
        · have := c2 x hx
          omega
      have := norm_len L a c1 (fun x hx => by have := c2 x hx; omega) (by omega)
      simp only [List.length_cons]
      omega
/-- What the numbers grow to. -/
structure Jt (n : Nat) (s : RS) : Prop where
  pot : Pot n s.rd s.top s.told
  dl : s.d.length ≤ s.told
  low : ∀ j : Nat, j < s.taken → InL s.L j
  hi : ∀ j, InL s.L j → j < (s.top : Int)
section
variable {w w' : World} {F G : Nat → Prop} {g r n : Nat} {s : RS}
theorem Jt.told (h : Jt n s) : s.told ≤ 100 * n + 600 := h.pot.bound
theorem Jt.few (h : Jt n s) (hok : s.Ok) : s.L.length ≤ 401 := by
  refine runs_few hok.norm s.taken h.low (fun j hj => ?_)
  have h1 := h.hi j hj
  have h2 := h.pot.tt
  have h3 := h.pot.win
  have h4 := hok.rd
  omega
theorem jt_start : Jt 0 rs0 := ⟨Pot.start, by decide, fun j hj => absurd hj (Nat.not_lt_zero _), fun j hj => absurd hj (inl_nil _)⟩
theorem jt_more (h : Jt n s) : Jt (n + 1) s := ⟨h.pot.more, h.dl, h.low, h.hi⟩
theorem jt_put (h : Jt n s) (hok : s.Ok) {off : Int} {fin : Bool} {m : Nat} {p : List UInt8} (hp : p.length = m) : Jt (n + 1) (putRs s off fin m p) := by
  unfold putRs
  by_cases e : putErr s off fin m = 0
  · rw [if_pos e]
    have h1 := put_off e
    have h2 := hok.told
    have h3 := h.pot.tt
    have hin := putS_in (fin := fin) hok (o := off.toNat) (p := p) (by omega)
    refine ⟨h.pot.put ?_ ?_, ?_, fun j hj => (hin j).2 (.inl (h.low j hj)), fun j hj => ?_⟩
    · show s.top ≤ (if p.length = 0 ∧ fin = false then s.top else max s.top (off.toNat + p.length))
      split <;> omega
    · show (if p.length = 0 ∧ fin = false then s.top else max s.top (off.toNat + p.length)) ≤ s.told
      split <;> omega
    · rw [putS_len hok (by omega)]
      show max s.d.length (off.toNat + p.length) ≤ s.told
      have := h.dl
      omega
    · show j < ((if p.length = 0 ∧ fin = false then s.top else max s.top (off.toNat + p.length) : Nat) : Int)
      rcases (hin j).1 hj with h4 | h4
      · have := h.hi j h4
        split <;> omega
      · split
        · rename_i hh; omega
        · omega
  · rw [if_neg e]; exact jt_more h
theorem brk_en {code : Int} {en su : Nat} (he : brkErr s code en su = 0) : en ≤ s.told := by
  unfold brkErr at he
  by_cases e1 : mayN code = false ∨ mayN (en : Int) = false ∨ mayN (su : Int) = false ∨ (en : Int) < su
  · rw [if_pos e1] at he; cases he
  · rw [if_neg e1] at he
    by_cases e2 : (s.told : Int) < (en : Int)
    · rw [if_pos e2] at he; cases he
    · omega
theorem jt_brk (h : Jt n s) (code : Int) (en su : Nat) : Jt (n + 1) (brkRs s code en su) := by
  unfold brkRs
  by_cases e : brkErr s code en su = 0
  · rw [if_pos e]
    have e0 := brk_en e
    have e1 : (brkS s code.toNat en su).told = s.told := by unfold brkS; split; rfl; split <;> rfl
    have e2 : (brkS s code.toNat en su).d = s.d := by unfold brkS; split; rfl; split <;> rfl
    have e3 : (brkS s code.toNat en su).L = s.L := by unfold brkS; split; rfl; split <;> rfl
    have e4 : (brkS s code.toNat en su).top = max s.top en := by unfold brkS; split; rfl; split <;> rfl
    have e5 : (brkS s code.toNat en su).rd = s.rd := by unfold brkS; split; rfl; split <;> rfl
    have e6 : (brkS s code.toNat en su).taken = s.taken := by unfold brkS; split; rfl; split <;> rfl
    have h3 := h.pot.tt
    refine ⟨?_, by rw [e1, e2]; exact h.dl, by rw [e3, e6]; exact h.low, fun j hj => ?_⟩
    · rw [e1, e4, e5]
      exact h.pot.put (by omega) (by omega)
    · rw [e3] at hj
      rw [e4]
      have := h.hi j hj
      omega
  · rw [if_neg e]; exact jt_more h
theorem jt_take (h : Jt n s) (hok : s.Ok) (q : Nat) (hq : q < 250) (t : Nat) (ht : t = toN s (q : Int)) : Jt (n + 1) (takeS s t) := by
  have h1 := to_le hok (q : Int)
  rw [← ht] at h1
  have h2 := hok.rd
  have h3 : t ≤ farN s ∧ t ≤ s.taken + 249 := by
    rw [ht]
    unfold toN mostN
    omega
  have hlow : ∀ j : Nat, j < t → InL s.L j := fun j hj => by
    rcases Nat.lt_or_ge j s.taken with h4 | h4
    · exact h.low j h4
    · exact far_in hok j h4 (by omega)
  refine ⟨h.pot.take (rd' := t) (by omega) ?_ (by omega), h.dl, hlow, h.hi⟩
  rcases Nat.eq_zero_or_pos t with h4 | h4
  · omega
  · have := h.hi _ (hlow (t - 1) (by omega))
    omega
theorem jt_tell (h : Jt n s) (t : Nat) (ht : t = max s.told (s.rd + 400)) : Jt (n + 1) { s with told := t } := by
  have := h.dl
  exact ⟨ht ▸ h.pot.tell, by show s.d.length ≤ t; omega, h.low, h.hi⟩
theorem h_put_any (h : HasSt w F g s) (hL : s.L.length < 1000000000) (off : Int) (l0 : -9223372036854775808 ≤ off) (h0 : off ≤ 9223372036854775807) (fin : Bool) {A : Option Addr} {m c : Nat} {p : List UInt8} (hp : Src w 1 (.slice A m c) m (encB p)) (hmc : m ≤ c) (hcm : c ≤ maxLen) (hm : m ≤ 4611686018427387904)
    (hown : 0 < m → ∀ k, (Value.slice A m c).ownBlock = some k → F k) :
    Calls Try.prog 13 #[.pointer (some ⟨g, 0, none⟩), .int .i64 off, .bool fin, .slice A m c] w fun e w' =>
      e = .returned (.tuple #[.int .i64 (putRf s off fin m p), .int .i64 (putErr s off fin m : Int)]) ∧ HasSt w' F g (putRs s off fin m p) ∧ Kp (fun k => ¬ F k) w w' := by
  unfold putRs putRf
  by_cases e : putErr s off fin m = 0
  · rw [if_pos e, if_pos e, e]
    obtain ⟨o, rfl⟩ := Int.eq_ofNat_of_zero_le (put_off e).1
    exact h_put0 h hL o fin hp hmc hcm hown e
  · rw [if_neg e, if_neg e]
    refine (h_put_err h off l0 h0 fin A m c hm _ rfl e).mono ?_
    rintro e w' ⟨rfl, rfl⟩
    exact ⟨rfl, h, Kp.refl _ _⟩
theorem j_put_any (h : HasRf w G r s) (hok : s.Ok) (off : Int) (l0 : -9223372036854775808 ≤ off) (h0 : off ≤ 9223372036854775807) (fin : Bool) {A : Option Addr} {m c : Nat} {p : List UInt8} (hp : Src w 1 (.slice A m c) m (encB p)) (hm : m ≤ 4611686018427387904)
    (hown : 0 < m → ∀ k, (Value.slice A m c).ownBlock = some k → k < w.heap.size ∧ ¬ G k) :
    Calls Try.prog 28 #[.pointer (some ⟨r, 0, none⟩), .int .i64 off, .bool fin, .slice A m c] w fun e w' =>
      e = .returned (.tuple #[.int .i64 (putRf s off fin m p), .int .i64 (putErr s off fin m : Int)]) ∧ HasRf w' (NewG w w' G) r (putRs s off fin m p) ∧ Kp G w w' := by
  unfold putRs putRf
  by_cases e : putErr s off fin m = 0
  · rw [if_pos e, if_pos e, e]
    obtain ⟨o, rfl⟩ := Int.eq_ofNat_of_zero_le (put_off e).1
    exact j_put h hok o fin hp hown e
  · rw [if_neg e, if_neg e]
    refine (j_put_err h off l0 h0 fin A m c hm _ rfl e).mono ?_
    rintro e w' ⟨rfl, rfl⟩
    exact ⟨rfl, h.sup (fun _ e => .inl e) (fun k e => e.elim (h.old k) (fun e => e.2)), Kp.refl _ _⟩
theorem h_brk_any (h : HasSt w F g s) (code : Int) (en su : Nat) :
    Calls Try.prog 19 #[.pointer (some ⟨g, 0, none⟩), .int .i64 code, .int .i64 (en : Int), .int .i64 (su : Int)] w fun e w' =>
      e = .returned (.tuple #[.int .i64 (brkRf s code en su), .int .i64 (brkErr s code en su : Int)]) ∧ HasSt w' F g (brkRs s code en su) ∧ Kp (fun k => ¬ F k) w w' := by
  unfold brkRs brkRf
  by_cases e : brkErr s code en su = 0
  · rw [if_pos e, if_pos e, e]
    obtain ⟨o, rfl⟩ := Int.eq_ofNat_of_zero_le (brk_code e)
    exact h_brk h o en su e
  · rw [if_neg e, if_neg e]
    refine (h_brk_err h code en su _ rfl e).mono ?_
    rintro e w' ⟨rfl, rfl⟩
    exact ⟨rfl, h, Kp.refl _ _⟩
theorem j_brk_any (h : HasRf w G r s) (hok : s.Ok) (code : Int) (en su : Nat) :
    Calls Try.prog 26 #[.pointer (some ⟨r, 0, none⟩), .int .i64 code, .int .i64 (en : Int), .int .i64 (su : Int)] w fun e w' =>
      e = .returned (.tuple #[.int .i64 (brkRf s code en su), .int .i64 (brkErr s code en su : Int)]) ∧ HasRf w' G r (brkRs s code en su) ∧ Kp G w w' := by
  unfold brkRs brkRf
  by_cases e : brkErr s code en su = 0
  · rw [if_pos e, if_pos e, e]
    obtain ⟨o, rfl⟩ := Int.eq_ofNat_of_zero_le (brk_code e)
    exact j_brk h hok o en su e
  · rw [if_neg e, if_neg e]
    refine (j_brk_err h code en su _ rfl e).mono ?_
    rintro e w' ⟨rfl, rfl⟩
    exact ⟨rfl, h, Kp.refl _ _⟩
/-- Both streams: the reference's blocks are among those that are foreign to the program's, none of them is one of the law's. -/
structure Two (w : World) (B0 xb : Nat) (F G : Nat → Prop) (g r : Nat) (s : RS) : Prop where
  st : HasSt w F g s
  rf : HasRf w G r s
  sub : ∀ k, G k → F k ∧ B0 ≤ k ∧ k ≠ xb
  low : ∀ k, k < B0 → F k
  x : F xb
variable {B0 xb : Nat}
/-- What the program's stream did. -/
theorem Two.step1 (h : Two w B0 xb F G g r s) (hk : Kp (fun k => ¬ F k) w w') : HasRf w' G r s := h.rf.kp hk (fun k e1 e2 => e2 (h.sub k e1).1)
/-- What the reference did behind it. -/
theorem Two.step2 {w1 : World} {s' : RS} {G' : Nat → Prop} (h : Two w B0 xb F G g r s) (hB : B0 ≤ w1.heap.size) (hx : xb < w1.heap.size) (hs : HasSt w1 F g s') (hk : Kp G w1 w') (hr : HasRf w' G' r s') (hG : ∀ k, G' k → G k ∨ (w1.heap.size ≤ k ∧ k < w'.heap.size)) :
    Two w' B0 xb (fun k => F k ∨ (w1.heap.size ≤ k ∧ k < w'.heap.size)) G' g r s' :=
  ⟨hs.turn (hk.mono (fun k _ e => (h.sub k e).1)), hr, fun k e => (hG k e).elim (fun e => ⟨.inl (h.sub k e).1, (h.sub k e).2⟩) (fun e => ⟨.inr e, by omega, by omega⟩), fun k e => .inl (h.low k e), .inl h.x⟩
/-- Nothing turned that is one of theirs. -/
theorem Two.no (h : Two w B0 xb F G g r s) (hk : Kp (fun _ => False) w w') : Two w' B0 xb F G g r s := ⟨h.st.no hk, h.rf.no hk, h.sub, h.low, h.x⟩
/-- New blocks are foreign. -/
theorem Two.new (h : Two w B0 xb F G g r s) (hk : Kp (fun _ => False) w w') : Two w' B0 xb (fun k => F k ∨ (w.heap.size ≤ k ∧ k < w'.heap.size)) G g r s :=
  ⟨h.st.turn hk.no, h.rf.no hk, fun k e => ⟨.inl (h.sub k e).1, (h.sub k e).2⟩, fun k e => .inl (h.low k e), .inl h.x⟩
end
end Go.Proofs.Ytbkpapdbidbhaaa
