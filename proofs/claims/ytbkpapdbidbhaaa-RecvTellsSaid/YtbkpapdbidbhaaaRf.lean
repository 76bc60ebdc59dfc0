/-
  argosyref7.Recv: its state; NewRecv, rise, over, Grant.Eat, Grant.Tell.
-/
import Derived.Test.YtbkpapdbidbhaaaRfSet2
import Derived.Test.YtbkpapdbidbhaaaRecvH
import Derived.Test.YtbkpapdbidbhaaaRecvF
import Derived.BigQuiet
namespace Go.Proofs.Ytbkpapdbidbhaaa
open Go.RowKit

/-- The end, or -1. -/
def endI (s : RS) : Int := if s.ended = true then (s.en : Int) else -1
theorem endI_on {s : RS} (h : s.ended = true) : endI s = (s.en : Int) := by unfold endI; rw [if_pos h]
theorem endI_off {s : RS} (h : s.ended = false) : endI s = -1 := by unfold endI; rw [if_neg (by rw [h]; simp)]
/-- What lies in the block of the reference's stream. -/
def rfC (v bv : Value) (s : RS) (ov : Nat) : Array Value := #[v, .int .i64 400, .int .i64 (s.rd : Int), .int .i64 (s.told : Int), bv, .int .i64 (s.top : Int), .int .i64 (endI s), .int .i64 (s.code : Int), .int .i64 (s.sure : Int), .bool s.broken, .int .i64 (s.taken : Int), .int .i64 (ov : Int)]
structure RfAt (w : World) (g : Nat) (v bv : Value) (s : RS) (ov : Nat) (B : List UInt8) : Prop where
  cell : Whole w g 58 (rfC v bv s ov)
  src : Src w 2 v s.L.length (encs encP s.L)
  row : RowAt w 0 1 bv B.length (encB B)
  far1 : s.L ≠ [] → ∀ k, v.ownBlock = some k → k < w.heap.size ∧ k ≠ g ∧ bv.ownBlock ≠ some k
  far2 : ∀ k, bv.ownBlock = some k → k < w.heap.size ∧ k ≠ g
section
variable {w w' : World} {g : Nat} {v bv : Value} {s : RS} {ov : Nat} {B : List UInt8}
theorem RfAt.c (h : RfAt w g v bv s ov B) (j : Nat) (u : Value) (hj : (rfC v bv s ov)[j]? = some u) : w.cell? ⟨g, j, none⟩ = some u := (h.cell.cell j).trans hj
theorem RfAt.all (h : RfAt w g v bv s ov B) : w.cell? ⟨g, 0, none⟩ = some v ∧ w.cell? ⟨g, 1, none⟩ = some (.int .i64 400) ∧ w.cell? ⟨g, 2, none⟩ = some (.int .i64 (s.rd : Int)) ∧ w.cell? ⟨g, 3, none⟩ = some (.int .i64 (s.told : Int)) ∧ w.cell? ⟨g, 4, none⟩ = some bv ∧ w.cell? ⟨g, 5, none⟩ = some (.int .i64 (s.top : Int)) ∧ w.cell? ⟨g, 6, none⟩ = some (.int .i64 (endI s)) ∧ w.cell? ⟨g, 7, none⟩ = some (.int .i64 (s.code : Int)) ∧ w.cell? ⟨g, 8, none⟩ = some (.int .i64 (s.sure : Int)) ∧ w.cell? ⟨g, 9, none⟩ = some (.bool s.broken) ∧ w.cell? ⟨g, 10, none⟩ = some (.int .i64 (s.taken : Int)) ∧ w.cell? ⟨g, 11, none⟩ = some (.int .i64 (ov : Int)) :=
  ⟨h.c 0 _ rfl, h.c 1 _ rfl, h.c 2 _ rfl, h.c 3 _ rfl, h.c 4 _ rfl, h.c 5 _ rfl, h.c 6 _ rfl, h.c 7 _ rfl, h.c 8 _ rfl, h.c 9 _ rfl, h.c 10 _ rfl, h.c 11 _ rfl⟩
theorem RfAt.kp {S : Nat → Prop} (h : RfAt w g v bv s ov B) (hk : Kp S w w') (h1 : ¬ S g) (h2 : s.L ≠ [] → ∀ k, v.ownBlock = some k → ¬ S k) (h3 : ∀ k, bv.ownBlock = some k → ¬ S k) : RfAt w' g v bv s ov B :=
  ⟨hk.whole h.cell h1, src_keep h.src hk h2, h.row.kp hk h3, fun hL k hk' => ⟨Nat.lt_of_lt_of_le (h.far1 hL k hk').1 hk.size, (h.far1 hL k hk').2⟩, fun k hk' => ⟨Nat.lt_of_lt_of_le (h.far2 k hk').1 hk.size, (h.far2 k hk').2⟩⟩
theorem RfAt.no (h : RfAt w g v bv s ov B) (hk : Kp (fun _ => False) w w') : RfAt w' g v bv s ov B := h.kp hk (fun h => h) (fun _ _ _ h => h) (fun _ _ h => h)
theorem RfAt.inn (h : RfAt w g v bv s ov B) : SetIn w g 0 58 (rfC v bv s ov) v s.L := ⟨h.cell, rfl, h.src⟩
/-- One of its cells is written. -/
theorem RfAt.put (h : RfAt w g v bv s ov B) (j : Nat) (u : Value) {s' : RS} {ov' : Nat} (hc : (rfC v bv s ov).setIfInBounds j u = rfC v bv s' ov') (hL : s'.L = s.L) : RfAt (w.setCell ⟨g, j, none⟩ u) g v bv s' ov' B ∧ Kp (fun k => k = g) w (w.setCell ⟨g, j, none⟩ u) := by
  have hk : Kp (fun k => k = g) w (w.setCell ⟨g, j, none⟩ u) := Kp.set (S := fun k => k = g) (Kp.refl _ w) (p := ⟨g, j, none⟩) (.inl rfl) _
  refine ⟨⟨?_, ?_, h.row.kp hk (fun k hk' => (h.far2 k hk').2), fun hL' k hk' => ?_, fun k hk' => ?_⟩, hk⟩
  · rw [← hc]; exact h.cell.set j u
  · rw [hL]; exact src_keep h.src hk (fun hL k hk' => (h.far1 hL k hk').2.1)
  · rw [hL] at hL'
    exact ⟨Nat.lt_of_lt_of_le (h.far1 hL' k hk').1 hk.size, (h.far1 hL' k hk').2⟩
  · exact ⟨Nat.lt_of_lt_of_le (h.far2 k hk').1 hk.size, (h.far2 k hk').2⟩

theorem q_grant (w : World) : Calls Try.prog 43 #[.int .i64 400] w fun e w' => e = .returned (.agg #[.int .i64 400, .int .i64 0, .int .i64 400]) ∧ Kp (fun _ => False) w w' := by
  have HW := Lib.hid (fun w' => within_any 400 1 1048576 w')
  rw [show max (1 : Int) (min 1048576 400) = 400 by decide] at HW
  go_enter Try.func43, Try.ntmps43
  go_wp2_with (go_at_call 45; with_reducible refine (HW.out _).mono ?_; rintro e w' ⟨rfl, rfl⟩)
  exact bodyPost_ret (v := .agg #[.int .i64 400, .int .i64 0, .int .i64 400]) (by simp [results, Try.results43, go_sem]) rfl ⟨rfl, by first | exact ((Kp.refl _ w).alloc _) | exact (((Kp.refl _ w).alloc _).set (.inr (Nat.le_refl _)) _)⟩
theorem zeroRf (w : World) : (zeroValue 58).run Try.prog w = .ok (.agg #[.slice none 0 0, .int .i64 0, .int .i64 0, .int .i64 0, .slice none 0 0, .int .i64 0, .int .i64 0, .int .i64 0, .int .i64 0, .bool false, .int .i64 0, .int .i64 0]) w := by
  have h : (Try.prog.info? 58).map (·.zero) = some (some (.agg #[.slice none 0 0, .int .i64 0, .int .i64 0, .int .i64 0, .slice none 0 0, .int .i64 0, .int .i64 0, .int .i64 0, .int .i64 0, .bool false, .int .i64 0, .int .i64 0])) := by kernel_rfl
  cases hi : Try.prog.info? 58 with
  | none => rw [hi] at h; cases h
  | some i =>
    rw [hi] at h
    have hz : i.zero = some (.agg #[.slice none 0 0, .int .i64 0, .int .i64 0, .int .i64 0, .slice none 0 0, .int .i64 0, .int .i64 0, .int .i64 0, .int .i64 0, .bool false, .int .i64 0, .int .i64 0]) := Option.some.inj h
    simp [zeroValue, typeInfo, hi, hz]
set_option maxRecDepth 100000 in
theorem q_new (w : World) : Calls Try.prog 23 #[] w fun e w' => ∃ g, e = .returned (.pointer (some ⟨g, 0, none⟩)) ∧ RfAt w' g (.slice none 0 0) (.slice none 0 0) rs0 0 [] ∧ w.heap.size ≤ g ∧ g < w'.heap.size ∧ Kp (fun _ => False) w w' := by
  have HG := Lib.hid (q_grant w)
  have hzw := zeroRf
  go_enter Try.func23, Try.ntmps23
  go_wp2_with fail
  with_reducible refine (HG.out).mono ?_
  rintro e w1 ⟨rfl, hk1⟩
  clear HG
  have Hk1 := Lib.hid hk1
  clear hk1
  go_wp2_with fail
  go_ret
  refine ⟨_, rfl, ⟨Whole.new _ _ _, ⟨rfl, fun u hu => (by cases hu), .inl ⟨rfl, rfl⟩⟩, RowAt.nil _ _ _, fun _ k hk => (by cases hk), fun k hk => (by cases hk)⟩, Hk1.out.size, by simp, Hk1.out.alloc _⟩

set_option maxRecDepth 100000 in
theorem q_rise (h : RfAt w g v bv s ov B) (tt : Nat) (ht : tt ≤ 225000000000000) (a1 : s.top ≤ 225000000000000) : Calls Try.prog 50 #[.pointer (some ⟨g, 0, none⟩), .int .i64 (tt : Int)] w fun e w' => e = .returned (.int .i64 ((max s.top tt : Nat) - (s.top : Int))) ∧ RfAt w' g v bv (riseS s tt) ov B ∧ Kp (fun k => k = g) w w' := by
  obtain ⟨_, _, _, _, _, c5, _⟩ := h.all
  have hl := h.cell.lt
  have f5 := h.cell.frozen 5
  obtain ⟨nt, hnt⟩ : ∃ nt : Nat, nt = max s.top tt := ⟨_, rfl⟩
  have hst := h.put 5 (.int .i64 (nt : Int)) (s' := riseS s tt) (ov' := ov) (by unfold riseS; rw [← hnt]; rfl) rfl
  rw [← hnt]
  by_cases hlt : s.top < tt
  · obtain rfl : nt = tt := by omega
    clear hnt
    have t0 : (0 : Int) < (nt : Int) - (s.top : Int) := by omega
    have t1 : (s.top : Int) + ((nt : Int) - (s.top : Int)) = (nt : Int) := by omega
    go_enter Try.func50, Try.ntmps50
    go_wp2_with fail
    go_ret
    first | exact ⟨rfl, hst.1, hst.2⟩ | (rw [t1]; exact ⟨rfl, hst.1, hst.2⟩)
  · have hnt' : nt = s.top := by omega
    subst hnt'
    clear hnt
    have t0 : ¬ (0 : Int) < (tt : Int) - (s.top : Int) := by omega
    go_enter Try.func50, Try.ntmps50
    go_wp2_with fail
    go_ret
    refine ⟨by simp, ?_⟩
    first | exact hst | (rw [Int.add_zero]; exact hst) | (simp only [Int.add_zero]; exact hst)

set_option maxHeartbeats 400000 in
theorem q_eat {b o : Nat} {R : Int} (c1 : w.cell? ⟨b, o + 1, none⟩ = some (.int .i64 R)) (f1 : w.frozen? ⟨b, o + 1, none⟩ = false) (r0 : 0 ≤ R) (r1 : R ≤ 9223372036853727231) (n : Int) (n0 : 0 ≤ n) (n1 : n ≤ 1048576) :
    Calls Try.prog 46 #[.pointer (some ⟨b, o, none⟩), .int .i64 n] w
      (LeftX (.tuple #[]) w b (o + 1) (.int .i64 (R + n))) := by
  have HW := Lib.hid (fun w' => within_any n 0 1048576 w')
  rw [show max (0 : Int) (min 1048576 n) = n by omega] at HW
  have hw1 : IntKind.i64.wrap (R + n) = R + n := IntWalk.i64_in _ (by omega)
  go_enter Try.func46, Try.ntmps46
  go_region_with (go_at_call 45; with_reducible refine (HW.out _).mono ?_; rintro e w' ⟨rfl, rfl⟩)
  all_goals go_wp2_with fail
  all_goals go_end0
  all_goals exact ⟨rfl, 1, rfl⟩
set_option maxHeartbeats 400000 in
theorem q_tell {b o : Nat} {M R T : Int} (c0 : w.cell? ⟨b, o, none⟩ = some (.int .i64 M)) (c1 : w.cell? ⟨b, o + 1, none⟩ = some (.int .i64 R)) (c2 : w.cell? ⟨b, o + 2, none⟩ = some (.int .i64 T)) (f2 : w.frozen? ⟨b, o + 2, none⟩ = false)
    (m0 : 0 ≤ M) (m1 : M ≤ 1048576) (r0 : 0 ≤ R) (r1 : R ≤ 9223372036853727231) (_t0 : 0 ≤ T) (_t1 : T ≤ 9223372036854775807) :
    Calls Try.prog 25 #[.pointer (some ⟨b, o, none⟩)] w
      (LeftX (.int .i64 (tellF M R T)) w b (o + 2) (.int .i64 (tellF M R T))) := by
  by_cases hm : T < R + M
  · have hd : tellF M R T = R + M := by unfold tellF; omega
    rw [hd]
    clear hd
    go_enter Try.func25, Try.ntmps25
    go_wp2_with fail
    go_region
    all_goals go_wp2_with fail
    go_ret
    exact ⟨rfl, 1, rfl⟩
  · have hd : tellF M R T = T := by unfold tellF; omega
    rw [hd]
    clear hd
    go_enter Try.func25, Try.ntmps25
    go_wp2_with fail
    go_region
    all_goals go_wp2_with fail
    go_ret
    exact ⟨rfl, 1, rfl⟩
theorem q_over (h : RfAt w g v bv s ov B) : Calls Try.prog 47 #[.pointer (some ⟨g, 0, none⟩)] w fun e w' => e = .returned (.int .i64 (overN s : Int)) ∧ Kp (fun _ => False) w w' := by
  obtain ⟨_, _, _, _, _, _, c6, _, c8, c9, c10, _⟩ := h.all
  have hl := h.cell.lt
  obtain ⟨r, hr⟩ : ∃ r, r = overN s := ⟨_, rfl⟩
  rw [← hr]
  unfold overN at hr
  cases hb : s.broken with
  | true =>
    rw [hb] at c9
    by_cases hs : s.sure ≤ s.taken
    · rw [if_pos ⟨hb, hs⟩] at hr
      have t0 : decide ((s.taken : Int) ≥ (s.sure : Int)) = true := by simp; omega
      have t1 : (s.sure : Int) ≤ (s.taken : Int) := by omega
      go_enter Try.func47, Try.ntmps47
      go_wp2_with fail
      go_quiet (fail)
      go_wp2_with fail
      go_ret
      exact ⟨by rw [hr]; rfl, (Kp.refl _ w).drewN _⟩
    · rw [if_neg (fun h => hs h.2), if_neg (fun h => by rw [hb] at h; exact absurd h.1 (by simp))] at hr
      have t0 : decide ((s.taken : Int) ≥ (s.sure : Int)) = false := by simp; omega
      have t1 : ¬ (s.sure : Int) ≤ (s.taken : Int) := by omega
      go_enter Try.func47, Try.ntmps47
      go_wp2_with fail
      go_quiet (fail)
      go_wp2_with fail
      go_quiet (fail)
      go_wp2_with fail
      go_ret
      exact ⟨by rw [hr]; rfl, by first | exact ((Kp.refl _ w).drewN _).drewN _ | exact (Kp.refl _ w).drewN _⟩
  | false =>
    rw [hb] at c9
    rw [if_neg (fun h => by rw [hb] at h; exact absurd h.1 (by simp))] at hr
    cases he : s.ended with
    | false =>
      rw [endI_off he] at c6
      rw [if_neg (fun h => by rw [he] at h; exact absurd h.2.1 (by simp))] at hr
      go_enter Try.func47, Try.ntmps47
      go_wp2_with fail
      go_quiet (fail)
      go_wp2_with fail
      go_quiet (fail)
      go_wp2_with fail
      go_ret
      exact ⟨by rw [hr]; rfl, by first | exact ((Kp.refl _ w).drewN _).drewN _ | exact (Kp.refl _ w).drewN _⟩
    | true =>
      rw [endI_on he] at c6
      by_cases hs : s.taken = s.en
      · rw [if_pos ⟨hb, he, hs⟩] at hr
        have t1 : ((s.taken : Int) == (s.en : Int)) = true := by simp; omega
        go_enter Try.func47, Try.ntmps47
        go_wp2_with fail
        go_quiet (fail)
        go_wp2_with fail
        go_quiet (fail)
        go_wp2_with fail
        go_ret
        exact ⟨by rw [hr]; rfl, by first | exact ((Kp.refl _ w).drewN _).drewN _ | exact (Kp.refl _ w).drewN _⟩
      · rw [if_neg (fun h => hs h.2.2)] at hr
        have t1 : ((s.taken : Int) == (s.en : Int)) = false := by simp; omega
        go_enter Try.func47, Try.ntmps47
        go_wp2_with fail
        go_quiet (fail)
        go_wp2_with fail
        go_quiet (fail)
        go_wp2_with fail
        go_ret
        exact ⟨by rw [hr]; rfl, by first | exact ((Kp.refl _ w).drewN _).drewN _ | exact (Kp.refl _ w).drewN _⟩
end
end Go.Proofs.Ytbkpapdbidbhaaa
