/-
  Package spans: Spans, Has, Count.
-/
import Derived.Test.YtbkpapdbidbhaaaSpan
namespace Go.Proofs.Ytbkpapdbidbhaaa
open Go.RowKit

theorem enter_h1 (args : Array Value) (w : World) : (callFunc 54 args).run Try.prog w = .ok (.enter 54 args) w := by
  go_simp

/-- The run has the number. -/
def hasP (n : Int) (r : Pr) : Bool := decide (r.1 ≤ n) && decide (n < r.2)
theorem has1_c {w : World} {bn : Nat} {n : Int} (h0 : w.cell? ⟨bn, 0, none⟩ = some (.int .i64 n)) (r : Pr) :
    Calls Try.prog 54 #[aggP r, .pointer (some ⟨bn, 0, none⟩)] w fun e w' => e = .returned (.bool (hasP n r)) ∧ Kp (fun _ => False) w w' := by
  obtain ⟨r1, r2⟩ := r
  have hbl := World.block_lt_of_cell? w _ h0
  dsimp only at hbl
  have Hl : Hid (hasP n (r1, r2) = (decide (r1 ≤ n) && decide (n < r2))) := Lib.hid rfl
  by_cases t1 : r1 ≤ n
  · by_cases t2 : n < r2
    · go_enter Try.func54, Try.ntmps54
      go_wp2_with fail
      go_ret
      exact ⟨by rw [Hl.out, decide_eq_true t1, decide_eq_true t2]; rfl, (Kp.refl _ _).alloc _⟩
    · go_enter Try.func54, Try.ntmps54
      go_wp2_with fail
      go_ret
      exact ⟨by rw [Hl.out, decide_eq_true t1, decide_eq_false (p := n < r2) (by omega)]; rfl, (Kp.refl _ _).alloc _⟩
  · go_enter Try.func54, Try.ntmps54
    go_wp2_with fail
    go_ret
    exact ⟨by rw [Hl.out, decide_eq_false (p := r1 ≤ n) (by omega)]; rfl, (Kp.refl _ _).alloc _⟩

/-- Has: is the number in one of the runs? -/
theorem t_has {w : World} {s o : Nat} {tc : TypeId} {cs : Array Value} {v : Value} {L : List Pr} (h : SetIn w s o tc cs v L) (hlen : L.length ≤ 1073741824) (n : Int) :
    Calls Try.prog 31 #[.pointer (some ⟨s, o, none⟩), .int .i64 n] w fun e w' => e = .returned (.bool (L.any (hasP n))) ∧ Kp (fun _ => False) w w' := by
  obtain ⟨A, cap, rfl⟩ : ∃ A cap, v = .slice A L.length cap := by
    rcases h.src.2.2 with ⟨h1, h2⟩ | ⟨a, c, h1, _⟩
    · exact ⟨none, 0, by rw [h1, h2]⟩
    · exact ⟨_, _, h1⟩
  have hka : Kp (fun _ => False) w (w.alloc (.cells #[.int .i64 n] 3)) := (Kp.refl _ w).alloc _
  have hxw : Whole (w.alloc (.cells #[.int .i64 n] 3)) w.heap.size 3 #[.int .i64 n] := Whole.new _ _ _
  have hsl := h.cell.lt
  have c0 := h.c0
  have HC := Lib.hid (cf_any (hka.src h.src (fun _ _ h => h)) 54 #[.pointer (some ⟨w.heap.size, 0, none⟩)] (hasP n) enter_h1 (fun w' r hk _ => has1_c (by simpa using (hk.whole hxw (fun h => h)).cell 0) r) (by omega))
  have Hka := Lib.hid hka
  clear h hka hxw
  generalize L.length = m at *
  go_enter Try.func31, Try.ntmps31
  go_wp2_with fail
  with_reducible refine (HC.out).mono ?_
  rintro e w1 ⟨rfl, hk⟩
  have Hk := Lib.hid hk
  clear hk
  go_wp2_with fail
  go_ret
  exact ⟨rfl, Hka.out.trans Hk.out⟩
theorem s_has {w : World} {s : Nat} {v : Value} {L : List Pr} (h : SetAt w s v L) (hlen : L.length ≤ 1073741824) (n : Int) :
    Calls Try.prog 31 #[.pointer (some ⟨s, 0, none⟩), .int .i64 n] w fun e w' => e = .returned (.bool (L.any (hasP n))) ∧ Kp (fun _ => False) w w' := t_has h.inn hlen n

theorem has_iff (L : List Pr) (n : Int) : L.any (hasP n) = true ↔ InL L n := by
  rw [List.any_eq_true]
  constructor
  · rintro ⟨r, hr, h⟩
    simp only [hasP, Bool.and_eq_true, decide_eq_true_eq] at h
    exact ⟨r, hr, h⟩
  · rintro ⟨r, hr, h⟩
    exact ⟨r, hr, by simp only [hasP, Bool.and_eq_true, decide_eq_true_eq]; exact h⟩

set_option maxHeartbeats 400000 in
theorem clip_p {w : World} {A : Option Addr} {n cap : Nat} (h : n ≤ cap) (hA : ∀ a, A = some a → a.add 0 = a) :
    Calls Try.prog 56 #[.slice A n cap] w fun e w' => e = .returned (.slice A n n) ∧ w = w' := by
  cases A with
  | none =>
    go_enter Try.func56, Try.ntmps56
    go_wp2_with fail
    go_ret
    exact ⟨by simp, rfl⟩
  | some a =>
    have ha := hA a rfl
    clear hA
    go_enter Try.func56, Try.ntmps56
    go_wp2_with fail
    go_ret
    exact ⟨by simp, rfl⟩



end Go.Proofs.Ytbkpapdbidbhaaa
