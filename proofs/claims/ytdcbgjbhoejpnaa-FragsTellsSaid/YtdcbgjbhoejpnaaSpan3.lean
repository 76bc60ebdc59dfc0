/-
  Package spans: Spans, Has, Count.
-/
import Derived.Test.YtdcbgjbhoejpnaaSpan
namespace Go.Proofs.Ytdcbgjbhoejpnaa
open Go.RowKit

theorem enter_h1 (args : Array Value) (w : World) : (callFunc 45 args).run Try.prog w = .ok (.enter 45 args) w := by
  go_simp

/-- The run has the number. -/
def hasP (n : Int) (r : Pr) : Bool := decide (r.1 ≤ n) && decide (n < r.2)
theorem has1_c {w : World} {bn : Nat} {n : Int} (h0 : w.cell? ⟨bn, 0, none⟩ = some (.int .i64 n)) (r : Pr) :
    Calls Try.prog 45 #[aggP r, .pointer (some ⟨bn, 0, none⟩)] w fun e w' => e = .returned (.bool (hasP n r)) ∧ Kp (fun _ => False) w w' := by
  obtain ⟨r1, r2⟩ := r
  have hbl := World.block_lt_of_cell? w _ h0
  dsimp only at hbl
  have Hl : Hid (hasP n (r1, r2) = (decide (r1 ≤ n) && decide (n < r2))) := Lib.hid rfl
  by_cases t1 : r1 ≤ n
  · by_cases t2 : n < r2
    · go_enter Try.func45, Try.ntmps45
      go_wp2_with fail
      go_ret
      exact ⟨by rw [Hl.out, decide_eq_true t1, decide_eq_true t2]; rfl, (Kp.refl _ _).alloc _⟩
    · go_enter Try.func45, Try.ntmps45
      go_wp2_with fail
      go_ret
      exact ⟨by rw [Hl.out, decide_eq_true t1, decide_eq_false (p := n < r2) (by omega)]; rfl, (Kp.refl _ _).alloc _⟩
  · go_enter Try.func45, Try.ntmps45
    go_wp2_with fail
    go_ret
    exact ⟨by rw [Hl.out, decide_eq_false (p := r1 ≤ n) (by omega)]; rfl, (Kp.refl _ _).alloc _⟩

/-- Has: is the number in one of the runs? -/
theorem t_has {w : World} {s o : Nat} {tc : TypeId} {cs : Array Value} {v : Value} {L : List Pr} (h : SetIn w s o tc cs v L) (hlen : L.length ≤ 1048576) (n : Int) :
    Calls Try.prog 19 #[.pointer (some ⟨s, o, none⟩), .int .i64 n] w fun e w' => e = .returned (.bool (L.any (hasP n))) ∧ Kp (fun _ => False) w w' := by
  obtain ⟨A, cap, rfl⟩ : ∃ A cap, v = .slice A L.length cap := by
    rcases h.src.2.2 with ⟨h1, h2⟩ | ⟨a, c, h1, _⟩
    · exact ⟨none, 0, by rw [h1, h2]⟩
    · exact ⟨_, _, h1⟩
  have hka : Kp (fun _ => False) w (w.alloc (.cells #[.int .i64 n] 3)) := (Kp.refl _ w).alloc _
  have hxw : Whole (w.alloc (.cells #[.int .i64 n] 3)) w.heap.size 3 #[.int .i64 n] := Whole.new _ _ _
  have hsl := h.cell.lt
  have c0 := h.c0
  have HC := Lib.hid (cf_any (hka.src h.src (fun _ _ h => h)) 45 #[.pointer (some ⟨w.heap.size, 0, none⟩)] (hasP n) enter_h1 (fun w' r hk _ => has1_c (by simpa using (hk.whole hxw (fun h => h)).cell 0) r) (by omega))
  have Hka := Lib.hid hka
  clear h hka hxw
  generalize L.length = m at *
  go_enter Try.func19, Try.ntmps19
  go_wp2_with fail
  with_reducible refine (HC.out).mono ?_
  rintro e w1 ⟨rfl, hk⟩
  have Hk := Lib.hid hk
  clear hk
  go_wp2_with fail
  go_ret
  exact ⟨rfl, Hka.out.trans Hk.out⟩
theorem s_has {w : World} {s : Nat} {v : Value} {L : List Pr} (h : SetAt w s v L) (hlen : L.length ≤ 1048576) (n : Int) :
    Calls Try.prog 19 #[.pointer (some ⟨s, 0, none⟩), .int .i64 n] w fun e w' => e = .returned (.bool (L.any (hasP n))) ∧ Kp (fun _ => False) w w' := t_has h.inn hlen n

theorem has_iff (L : List Pr) (n : Int) : L.any (hasP n) = true ↔ InL L n := by
  rw [List.any_eq_true]
  constructor
  · rintro ⟨r, hr, h⟩
    simp only [hasP, Bool.and_eq_true, decide_eq_true_eq] at h
    exact ⟨r, hr, h⟩
  · rintro ⟨r, hr, h⟩
    exact ⟨r, hr, by simp only [hasP, Bool.and_eq_true, decide_eq_true_eq]; exact h⟩

set_option maxHeartbeats 400000 in
theorem clip_p {w : World} {A : Option Addr} {n cap : Nat} (h : n ≤ cap) (hA : ∀ a, A = some a → a.add 0 = a) :
    Calls Try.prog 41 #[.slice A n cap] w fun e w' => e = .returned (.slice A n n) ∧ w = w' := by
  cases A with
  | none =>
    go_enter Try.func41, Try.ntmps41
    go_wp2_with fail
    go_ret
    exact ⟨by simp, rfl⟩
  | some a =>
    have ha := hA a rfl
    clear hA
    go_enter Try.func41, Try.ntmps41
    go_wp2_with fail
    go_ret
    exact ⟨by simp, rfl⟩

set_option maxRecDepth 100000 in
set_option maxHeartbeats 1000000 in
theorem clone_p {w : World} {A : Option Addr} {cap : Nat} {L : List Pr} (hx : Src w 2 (.slice A L.length cap) L.length (encs encP L)) (hn : L.length ≤ 1048576) :
    Calls Try.prog 42 #[.slice A L.length cap] w fun e w' => ∃ v', e = .returned v' ∧ RowAt w' w.heap.size 2 v' L.length (encs encP L) ∧ Kp (fun _ => False) w w' := by
  obtain ⟨i0, hi, hz0, hz1, hz2⟩ := info_parts infoPr
  have q : ∀ (w : World) (a : Option Addr) (n c n' c' : Nat), (binOp .eql 25 (.slice a n c) (.slice none n' c')).run Try.prog w = .ok (.bool a.isNone) w := fun w a n c n' c' => Lib.run_eql_slice_nil w _ _ a n c n' c' Try.underlying25
  cases A with
  | none =>
    obtain ⟨hl, _, ⟨hv, hn0⟩ | ⟨a, c, hv, _⟩⟩ := hx
    · obtain rfl : L = [] := List.eq_nil_of_length_eq_zero hn0
      cases hv
      go_enter Try.func42, Try.ntmps42
      go_wp2_with fail
      go_ret
      exact ⟨_, rfl, RowAt.nil _ _ _, Kp.refl _ _⟩
    · cases hv
  | some a =>
    have HO : Hid (RowAt (w.alloc (.cells #[] 35)) w.heap.size 2 (.slice (some ⟨w.heap.size, 0, none⟩) 0 0) 0 []) := Lib.hid (RowAt.of_own (World.ownsRow_made (base := w.heap.size) (e := 35) (size := 2) w #[] 0 (Nat.le_refl _) (Nat.zero_le _) rfl))
    have Hi := Lib.hid hi
    have Hz0 := Lib.hid hz0
    have Hz1 := Lib.hid hz1
    have Hz2 := Lib.hid hz2
    have HX : Hid (Src (w.alloc (.cells #[] 35)) 2 (.slice (some a) L.length cap) L.length (encs encP L)) := Lib.hid (((Kp.refl (fun _ => False) w).alloc _).src hx (fun _ _ h => h))
    clear hx hi hz0 hz1 hz2
    generalize L.length = n at *
    go_enter Try.func42, Try.ntmps42
    go_wp2_with (at_builtin; refine wpList_row rfl (.tmp 5) (.tmp 6) 25 rfl w.heap.size 35 i0 _ 2 16 Try.underlying25 Hi.out Hz0.out Hz1.out Hz2.out rfl (by decide) _ 0 _ rfl HO.out _ n _ rfl HX.out (by unfold maxLen; omega) (by omega) (by simp) ?_; intro v5 w5 hr5 hg5 hn5; have hk5 : Kp (fun _ => False) w w5 := ((Kp.refl _ w).alloc _).grown hg5 (fun i hi hlt => absurd (HO.out.lt i hi).1 (by omega)); have Hr5 := Lib.hid hr5; have Hk5 := Lib.hid hk5; clear hr5 hg5 hn5 hk5)
    go_ret
    exact ⟨_, rfl, by simpa using Hr5.out, Hk5.out⟩

/-- Spans: the runs, in a row of their own. -/
theorem t_spans {w : World} {s o : Nat} {tc : TypeId} {cs : Array Value} {v : Value} {L : List Pr} (h : SetIn w s o tc cs v L) (hlen : L.length ≤ 1048576) :
    Calls Try.prog 13 #[.pointer (some ⟨s, o, none⟩)] w fun e w' => ∃ A, e = .returned (.slice A L.length L.length) ∧ RowAt w' w.heap.size 2 (.slice A L.length L.length) L.length (encs encP L) ∧ Kp (fun _ => False) w w' := by
  obtain ⟨A, cap, rfl⟩ : ∃ A cap, v = .slice A L.length cap := by
    rcases h.src.2.2 with ⟨h1, h2⟩ | ⟨a, c, h1, _⟩
    · exact ⟨none, 0, by rw [h1, h2]⟩
    · exact ⟨_, _, h1⟩
  have hsl := h.cell.lt
  have c0 := h.c0
  have HC := Lib.hid (clone_p h.src hlen)
  clear h
  generalize L.length = m at *
  go_enter Try.func13, Try.ntmps13
  go_wp2_with fail
  with_reducible refine (HC.out).mono ?_
  rintro e w1 ⟨v1, rfl, hr, hk⟩
  obtain ⟨A1, c1, rfl⟩ := hr.form
  have Hr := Lib.hid hr
  have Hk := Lib.hid hk
  have hcap := (row_capL hr).1
  have Hadd := Lib.hid (row_add hr)
  clear hr hk
  go_wp2_with fail
  with_reducible refine (clip_p hcap Hadd.out).mono ?_
  rintro e w2 ⟨rfl, rfl⟩
  go_wp2_with fail
  go_ret
  exact ⟨A1, rfl, Hr.out.clip, Hk.out⟩
theorem s_spans {w : World} {s : Nat} {v : Value} {L : List Pr} (h : SetAt w s v L) (hlen : L.length ≤ 1048576) :
    Calls Try.prog 13 #[.pointer (some ⟨s, 0, none⟩)] w fun e w' => ∃ A, e = .returned (.slice A L.length L.length) ∧ RowAt w' w.heap.size 2 (.slice A L.length L.length) L.length (encs encP L) ∧ Kp (fun _ => False) w w' := t_spans h.inn hlen

end Go.Proofs.Ytdcbgjbhoejpnaa
