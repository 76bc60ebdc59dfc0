/-
  RecvTells: Put and Break on either side, refused or not; what the numbers grow to.
-/
import Derived.Test.YtbkpapdbidbhaaaRfJ
namespace Go.Proofs.Ytbkpapdbidbhaaa
open Go.RowKit

def putRs (s : RS) (off : Int) (fin : Bool) (m : Nat) (p : List UInt8) : RS := if putErr s off fin m = 0 then putS s off.toNat fin p else s
def putRf (s : RS) (off : Int) (fin : Bool) (m : Nat) (p : List UInt8) : Int := if putErr s off fin m = 0 then ((putS s off.toNat fin p).top : Int) - s.top else 0
def brkRs (s : RS) (code : Int) (en su : Nat) : RS := if brkErr s code en su = 0 then brkS s code.toNat en su else s
def brkRf (s : RS) (code : Int) (en su : Nat) : Int := if brkErr s code en su = 0 then ((brkS s code.toNat en su).top : Int) - s.top else 0
theorem put_off {s : RS} {off : Int} {fin : Bool} {m : Nat} (he : putErr s off fin m = 0) : 0 ≤ off ∧ off + m ≤ s.told := by
  unfold putErr at he
  by_cases e1 : off < 0 ∨ 4611686018427387903 - (m : Int) < off
  · rw [if_pos e1] at he; cases he
  · rw [if_neg e1] at he
    by_cases e2 : (s.told : Int) < off + m
    · rw [if_pos e2] at he; cases he
    · omega
theorem brk_code {s : RS} {code : Int} {en su : Nat} (he : brkErr s code en su = 0) : 0 ≤ code := by
  unfold brkErr at he
  by_cases e1 : mayN code = false ∨ mayN (en : Int) = false ∨ mayN (su : Int) = false ∨ (en : Int) < su
  · rw [if_pos e1] at he; cases he
  · have : mayN code = true := by cases hx : mayN code with | true => rfl | false => exact absurd (.inl hx) e1
    unfold mayN at this
    simp at this
    omega
/-- What the numbers grow to. -/
structure Jt (n : Nat) (s : RS) : Prop where
  told : s.told ≤ n
  dl : s.d.length ≤ s.told
section
variable {w w' : World} {F G : Nat → Prop} {g r n : Nat} {s : RS}
theorem jt_start : Jt 400 rs0 := ⟨Nat.le_refl _, by decide⟩
theorem jt_more {n' : Nat} (h : Jt n s) (hn : n ≤ n') : Jt n' s := ⟨Nat.le_trans h.told hn, h.dl⟩
theorem jt_put (h : Jt n s) (hok : s.Ok) {off : Int} {fin : Bool} {m : Nat} {p : List UInt8} (hp : p.length = m) : Jt n (putRs s off fin m p) := by
  unfold putRs
  by_cases e : putErr s off fin m = 0
  · rw [if_pos e]
    have h1 := put_off e
    have h2 := hok.told
    refine ⟨h.told, ?_⟩
    rw [putS_len hok (by omega)]
    show max s.d.length (off.toNat + p.length) ≤ s.told
    have := h.dl
    omega
  · rw [if_neg e]; exact h
theorem jt_brk (h : Jt n s) (code : Int) (en su : Nat) : Jt n (brkRs s code en su) := by
  unfold brkRs
  split
  · have e1 : (brkS s code.toNat en su).told = s.told := by unfold brkS; split; rfl; split <;> rfl
    have e2 : (brkS s code.toNat en su).d = s.d := by unfold brkS; split; rfl; split <;> rfl
    exact ⟨by rw [e1]; exact h.told, by rw [e1, e2]; exact h.dl⟩
  · exact h
theorem jt_take (h : Jt n s) (t : Nat) : Jt n (takeS s t) := ⟨h.told, h.dl⟩
theorem jt_tell (h : Jt n s) (hok : s.Ok) (t : Nat) (ht : t = max s.told (s.rd + 400)) : Jt (n + 400) { s with told := t } := by
  have := h.told
  have := h.dl
  have := hok.rd
  have := hok.taken
  exact ⟨by show t ≤ _; omega, by show s.d.length ≤ t; omega⟩
theorem h_put_any (h : HasSt w F g s) (off : Int) (l0 : -9223372036854775808 ≤ off) (h0 : off ≤ 9223372036854775807) (fin : Bool) {A : Option Addr} {m c : Nat} {p : List UInt8} (hp : Src w 1 (.slice A m c) m (encB p)) (hmc : m ≤ c) (hcm : c ≤ maxLen) (hm : m ≤ 4611686018427387904)
    (hown : 0 < m → ∀ k, (Value.slice A m c).ownBlock = some k → F k) :
    Calls Try.prog 13 #[.pointer (some ⟨g, 0, none⟩), .int .i64 off, .bool fin, .slice A m c] w fun e w' =>
      e = .returned (.tuple #[.int .i64 (putRf s off fin m p), .int .i64 (putErr s off fin m : Int)]) ∧ HasSt w' F g (putRs s off fin m p) ∧ Kp (fun k => ¬ F k) w w' := by
  unfold putRs putRf
  by_cases e : putErr s off fin m = 0
  · rw [if_pos e, if_pos e, e]
    obtain ⟨o, rfl⟩ := Int.eq_ofNat_of_zero_le (put_off e).1
    exact h_put0 h o fin hp hmc hcm hown e
  · rw [if_neg e, if_neg e]
    refine (h_put_err h off l0 h0 fin A m c hm _ rfl e).mono ?_
    rintro e w' ⟨rfl, rfl⟩
    exact ⟨rfl, h, Kp.refl _ _⟩
theorem j_put_any (h : HasRf w G r s) (hok : s.Ok) (off : Int) (l0 : -9223372036854775808 ≤ off) (h0 : off ≤ 9223372036854775807) (fin : Bool) {A : Option Addr} {m c : Nat} {p : List UInt8} (hp : Src w 1 (.slice A m c) m (encB p)) (hm : m ≤ 4611686018427387904)
    (hown : 0 < m → ∀ k, (Value.slice A m c).ownBlock = some k → k < w.heap.size ∧ ¬ G k) :
    Calls Try.prog 28 #[.pointer (some ⟨r, 0, none⟩), .int .i64 off, .bool fin, .slice A m c] w fun e w' =>
      e = .returned (.tuple #[.int .i64 (putRf s off fin m p), .int .i64 (putErr s off fin m : Int)]) ∧ HasRf w' (NewG w w' G) r (putRs s off fin m p) ∧ Kp G w w' := by
  unfold putRs putRf
  by_cases e : putErr s off fin m = 0
  · rw [if_pos e, if_pos e, e]
    obtain ⟨o, rfl⟩ := Int.eq_ofNat_of_zero_le (put_off e).1
    exact j_put h hok o fin hp hown e
  · rw [if_neg e, if_neg e]
    refine (j_put_err h off l0 h0 fin A m c hm _ rfl e).mono ?_
    rintro e w' ⟨rfl, rfl⟩
    exact ⟨rfl, h.sup (fun _ e => .inl e) (fun k e => e.elim (h.old k) (fun e => e.2)), Kp.refl _ _⟩
theorem h_brk_any (h : HasSt w F g s) (code : Int) (en su : Nat) :
    Calls Try.prog 19 #[.pointer (some ⟨g, 0, none⟩), .int .i64 code, .int .i64 (en : Int), .int .i64 (su : Int)] w fun e w' =>
      e = .returned (.tuple #[.int .i64 (brkRf s code en su), .int .i64 (brkErr s code en su : Int)]) ∧ HasSt w' F g (brkRs s code en su) ∧ Kp (fun k => ¬ F k) w w' := by
  unfold brkRs brkRf
  by_cases e : brkErr s code en su = 0
  · rw [if_pos e, if_pos e, e]
    obtain ⟨o, rfl⟩ := Int.eq_ofNat_of_zero_le (brk_code e)
    exact h_brk h o en su e
  · rw [if_neg e, if_neg e]
    refine (h_brk_err h code en su _ rfl e).mono ?_
    rintro e w' ⟨rfl, rfl⟩
    exact ⟨rfl, h, Kp.refl _ _⟩
theorem j_brk_any (h : HasRf w G r s) (hok : s.Ok) (code : Int) (en su : Nat) :
    Calls Try.prog 26 #[.pointer (some ⟨r, 0, none⟩), .int .i64 code, .int .i64 (en : Int), .int .i64 (su : Int)] w fun e w' =>
      e = .returned (.tuple #[.int .i64 (brkRf s code en su), .int .i64 (brkErr s code en su : Int)]) ∧ HasRf w' G r (brkRs s code en su) ∧ Kp G w w' := by
  unfold brkRs brkRf
  by_cases e : brkErr s code en su = 0
  · rw [if_pos e, if_pos e, e]
    obtain ⟨o, rfl⟩ := Int.eq_ofNat_of_zero_le (brk_code e)
    exact j_brk h hok o en su e
  · rw [if_neg e, if_neg e]
    refine (j_brk_err h code en su _ rfl e).mono ?_
    rintro e w' ⟨rfl, rfl⟩
    exact ⟨rfl, h, Kp.refl _ _⟩
/-- Both streams: the reference's blocks are among those that are foreign to the program's, none of them is one of the law's. -/
structure Two (w : World) (B0 xb : Nat) (F G : Nat → Prop) (g r : Nat) (s : RS) : Prop where
  st : HasSt w F g s
  rf : HasRf w G r s
  sub : ∀ k, G k → F k ∧ B0 ≤ k ∧ k ≠ xb
  low : ∀ k, k < B0 → F k
  x : F xb
variable {B0 xb : Nat}
/-- What the program's stream did. -/
theorem Two.step1 (h : Two w B0 xb F G g r s) (hk : Kp (fun k => ¬ F k) w w') : HasRf w' G r s := h.rf.kp hk (fun k e1 e2 => e2 (h.sub k e1).1)
/-- What the reference did behind it. -/
theorem Two.step2 {w1 : World} {s' : RS} {G' : Nat → Prop} (h : Two w B0 xb F G g r s) (hB : B0 ≤ w1.heap.size) (hx : xb < w1.heap.size) (hs : HasSt w1 F g s') (hk : Kp G w1 w') (hr : HasRf w' G' r s') (hG : ∀ k, G' k → G k ∨ (w1.heap.size ≤ k ∧ k < w'.heap.size)) :
    Two w' B0 xb (fun k => F k ∨ (w1.heap.size ≤ k ∧ k < w'.heap.size)) G' g r s' :=
  ⟨hs.turn (hk.mono (fun k _ e => (h.sub k e).1)), hr, fun k e => (hG k e).elim (fun e => ⟨.inl (h.sub k e).1, (h.sub k e).2⟩) (fun e => ⟨.inr e, by omega, by omega⟩), fun k e => .inl (h.low k e), .inl h.x⟩
/-- Nothing turned that is one of theirs. -/
theorem Two.no (h : Two w B0 xb F G g r s) (hk : Kp (fun _ => False) w w') : Two w' B0 xb F G g r s := ⟨h.st.no hk, h.rf.no hk, h.sub, h.low, h.x⟩
/-- New blocks are foreign. -/
theorem Two.new (h : Two w B0 xb F G g r s) (hk : Kp (fun _ => False) w w') : Two w' B0 xb (fun k => F k ∨ (w.heap.size ≤ k ∧ k < w'.heap.size)) G g r s :=
  ⟨h.st.turn hk.no, h.rf.no hk, fun k e => ⟨.inl (h.sub k e).1, (h.sub k e).2⟩, fun k e => .inl (h.low k e), .inl h.x⟩
end
end Go.Proofs.Ytbkpapdbidbhaaa
