/-
  Double, Turn, Swap of a net.
-/
import Derived.Test.YtelhnhnbfjamhaaNetKn
namespace Go.Proofs.Ytelhnhnbfjamhaa
open Go.RowKit

theorem pk0 {ps : List Pk} {i : Nat} {p : Pk} (hi : ps[i]? = some p) : (encs encPk ps)[i * 2]? = some (.int .i64 p.1) := encs_get encPk_len ps i 0 p hi (by omega)
theorem pk1 {ps : List Pk} {i : Nat} {p : Pk} (hi : ps[i]? = some p) : (encs encPk ps)[i * 2 + 1]? = some (.string p.2) := encs_get encPk_len ps i 1 p hi (by omega)

theorem near_old {w : World} {o : Obj} {v v' : Value} (h : Near (w.alloc o) v v') : Near w v v' := by
  rcases h with h | h
  · exact .inl h
  · exact .inr (fun k hk => by have := h k hk; simp only [World.size_alloc] at this; omega)

set_option maxRecDepth 100000 in
set_option maxHeartbeats 1000000 in
theorem net_double_none {w : World} {g B : Nat} {A : Option Addr} {cap : Nat} {ps : List Pk} (h : NetAt w g B A cap ps) (k : Int) (hk : ¬ (0 ≤ k ∧ k < ps.length)) :
    Calls Try.prog 18 #[.pointer (some ⟨g, 0, none⟩), .int .i64 k] w fun e w' => e = .returned (.bool false) ∧ w' = w := by
  have hd : decide (0 ≤ k ∧ k < (ps.length : Int)) = false := by simpa using hk
  have hi := net_is h k
  rw [hd] at hi
  have HI := Lib.hid hi
  clear h hk hd hi
  go_enter Try.func18, Try.ntmps18
  go_wp2_with (go_at_call 46; refine (HI.out).mono ?_; rintro e w1 ⟨rfl, rfl⟩)
  go_ret
  exact ⟨rfl, rfl⟩

set_option maxRecDepth 100000 in
set_option maxHeartbeats 1000000 in
theorem net_double {w : World} {g B : Nat} {A : Option Addr} {cap : Nat} {ps : List Pk} (h : NetAt w g B A cap ps) (hB : B ≤ w.heap.size) (i : Nat) (p : Pk) (hi : ps[i]? = some p) :
    Calls Try.prog 18 #[.pointer (some ⟨g, 0, none⟩), .int .i64 i] w fun e w' => e = .returned (.bool (decide (ps.length < 64))) ∧ Kp (NetS g A) w w' ∧
      ∃ A' cap', NetAt w' g B A' cap' (ps ++ [p].take (64 - ps.length)) ∧ Near w (.slice A ps.length cap) (.slice A' (ps ++ [p].take (64 - ps.length)).length cap') := by
  have hil : i < ps.length := (List.getElem?_eq_some_iff.1 hi).1
  have hf := h.few
  have hX : Src (w.alloc (.cells #[.int .i64 p.1, .string p.2] 31)) 2 (.slice (some ⟨w.heap.size, 0, none⟩) 1 1) 1 (encs encPk [p]) := by
    refine ⟨rfl, encs_one (fun x _ => encPk_one x), .inr ⟨_, _, rfl, fun j u hj => ?_⟩⟩
    rw [Addr.add_lit, Nat.zero_add, (Whole.new w _ _).cell]
    match j, hj with
    | 0, hj => simpa [encs, encPk] using hj
    | 1, hj => simpa [encs, encPk] using hj
    | j + 2, hj => simp [encs, encPk] at hj
  have hP := net_put (qs := [p]) (h.alloc (.cells #[.int .i64 p.1, .string p.2] 31)) (by simp only [World.size_alloc]; omega) (some ⟨w.heap.size, 0, none⟩) 1 hX (fun a ha => by cases ha; rfl) (fun h => by cases h) (Nat.le_refl _) (by simp [maxLen])
  have c0 := h.cell.cell 0
  rw [show (#[Value.slice A ps.length cap] : Array Value)[0]? = some (.slice A ps.length cap) from rfl] at c0
  obtain ⟨b, rfl, hcells⟩ := own_some h.own (by omega)
  have e0 : w.cell? ⟨b, i * 2, none⟩ = some (.int .i64 p.1) := hcells (i * 2) _ (pk0 hi)
  have e1 : w.cell? ⟨b, i * 2 + 1, none⟩ = some (.string p.2) := hcells (i * 2 + 1) _ (pk1 hi)
  have hd : decide (0 ≤ (i : Int) ∧ (i : Int) < (ps.length : Int)) = true := by simpa using hil
  have hI := net_is h i
  rw [hd] at hI
  have hlen : (([p].take (64 - ps.length)).length : Int) = if ps.length < 64 then 1 else 0 := by
    split
    · rw [List.take_of_length_le (by simp; omega)]; rfl
    · rw [show 64 - ps.length = 0 by omega]; rfl
  rw [hlen] at hP
  have HI := Lib.hid hI
  have HP := Lib.hid hP
  have Hlen := Lib.hid hlen
  have Hc := Lib.hid hcells
  clear h hB hi hX hP hcells hd hI hlen
  obtain ⟨P1, P2⟩ := p
  dsimp only at *
  by_cases h64 : ps.length < 64
  · rw [if_pos h64] at HP
    rw [decide_eq_true h64]
    go_enter Try.func18, Try.ntmps18
    go_wp2_with first
      | (go_at_call 46; refine (HI.out).mono ?_; rintro e w1 ⟨rfl, rfl⟩)
      | (go_at_call 15; refine (HP.out).mono ?_; rintro e w1 ⟨rfl, hk1, A1, c1, hn1, hm1⟩; have Hk1 := Lib.hid hk1; have Hn1 := Lib.hid hn1; have Hm1 := Lib.hid hm1; clear hk1 hn1 hm1)
    go_ret
    exact ⟨by simp, ((Kp.refl _ _).alloc _).trans Hk1.out, _, _, Hn1.out, near_old Hm1.out⟩
  · rw [if_neg h64] at HP
    rw [decide_eq_false h64]
    go_enter Try.func18, Try.ntmps18
    go_wp2_with first
      | (go_at_call 46; refine (HI.out).mono ?_; rintro e w1 ⟨rfl, rfl⟩)
      | (go_at_call 15; refine (HP.out).mono ?_; rintro e w1 ⟨rfl, hk1, A1, c1, hn1, hm1⟩; have Hk1 := Lib.hid hk1; have Hn1 := Lib.hid hn1; have Hm1 := Lib.hid hm1; clear hk1 hn1 hm1)
    go_ret
    exact ⟨by simp, ((Kp.refl _ _).alloc _).trans Hk1.out, _, _, Hn1.out, near_old Hm1.out⟩

set_option maxRecDepth 100000 in
set_option maxHeartbeats 1000000 in
theorem net_swap_none {w : World} {g B : Nat} {A : Option Addr} {cap : Nat} {ps : List Pk} (h : NetAt w g B A cap ps) (k j : Int) (hk : ¬ ((0 ≤ k ∧ k < ps.length) ∧ (0 ≤ j ∧ j < ps.length))) :
    Calls Try.prog 20 #[.pointer (some ⟨g, 0, none⟩), .int .i64 k, .int .i64 j] w fun e w' => e = .returned (.bool false) ∧ w' = w := by
  by_cases h1 : 0 ≤ k ∧ k < (ps.length : Int)
  · have h2 : ¬ (0 ≤ j ∧ j < (ps.length : Int)) := fun h => hk ⟨h1, h⟩
    have hi := net_is h k
    have hj := net_is h j
    rw [decide_eq_true h1] at hi
    rw [decide_eq_false h2] at hj
    have HI := Lib.hid hi
    have HJ := Lib.hid hj
    clear h hk hi hj h1 h2
    go_enter Try.func20, Try.ntmps20
    go_wp2_with fail
    refine (HI.out).mono ?_
    rintro e w1 ⟨rfl, rfl⟩
    go_wp2_with fail
    refine (HJ.out).mono ?_
    rintro e w1 ⟨rfl, rfl⟩
    go_wp2_with fail
    go_ret
    exact ⟨rfl, rfl⟩
  · have hi := net_is h k
    rw [decide_eq_false h1] at hi
    have HI := Lib.hid hi
    clear h hk hi h1
    go_enter Try.func20, Try.ntmps20
    go_wp2_with (go_at_call 46; refine (HI.out).mono ?_; rintro e w1 ⟨rfl, rfl⟩)
    go_ret
    exact ⟨rfl, rfl⟩
end Go.Proofs.Ytelhnhnbfjamhaa
