/-
  recv.Stream: New, may.
-/
import Derived.Test.YtbkpapdbidbhaaaRecv
namespace Go.Proofs.Ytbkpapdbidbhaaa
open Go.RowKit

def rs0 : RS := ⟨[], 0, 400, 0, 0, [], false, false, 0, 0, 0⟩
theorem zeroS (w : World) : (zeroValue 45).run Try.prog w = .ok (.agg #[.slice none 0 0, .int .i64 0, .int .i64 0, .int .i64 0, .int .i64 0, .int .i64 0, .int .i64 0, .slice none 0 0, .bool false, .bool false, .int .i64 0, .int .i64 0, .int .i64 0]) w := by
  have h : (Try.prog.info? 45).map (·.zero) = some (some (.agg #[.slice none 0 0, .int .i64 0, .int .i64 0, .int .i64 0, .int .i64 0, .int .i64 0, .int .i64 0, .slice none 0 0, .bool false, .bool false, .int .i64 0, .int .i64 0, .int .i64 0])) := by kernel_rfl
  cases hi : Try.prog.info? 45 with
  | none => rw [hi] at h; cases h
  | some i =>
    rw [hi] at h
    have hz : i.zero = some (.agg #[.slice none 0 0, .int .i64 0, .int .i64 0, .int .i64 0, .int .i64 0, .int .i64 0, .int .i64 0, .slice none 0 0, .bool false, .bool false, .int .i64 0, .int .i64 0, .int .i64 0]) := Option.some.inj h
    simp [zeroValue, typeInfo, hi, hz]

set_option maxRecDepth 100000 in
theorem new_any (id : Int) (w : World) : Calls Try.prog 10 #[.int .i64 id] w fun e w' => ∃ g, e = .returned (.pointer (some ⟨g, 0, none⟩)) ∧ StAt w' g id (.slice none 0 0) (.slice none 0 0) rs0 ∧ w.heap.size ≤ g ∧ Kp (fun _ => False) w w' := by
  have HG := Lib.hid (newGrant_any 400)
  have hr : roomF 400 = 400 := by decide
  rw [hr] at HG
  have hzw := zeroS
  go_enter Try.func10, Try.ntmps10
  go_wp2_with fail
  with_reducible refine (HG.out w).mono ?_
  rintro e w1 ⟨rfl, hw1⟩
  have hk1 : Kp (fun _ => False) w w1 := by rw [hw1]; exact (Kp.refl _ w).alloc _
  clear hw1 HG
  have Hk1 := Lib.hid hk1
  clear hk1
  go_wp2_with fail
  go_ret
  refine ⟨_, rfl, ⟨Whole.new _ _ _, ⟨rfl, fun u hu => (by cases hu), .inl ⟨rfl, rfl⟩⟩, World.ownsRow_nil _ _ _ _, fun _ k hk => (by cases hk), fun k hk => (by cases hk), ⟨NormL.nil _, by decide, rfl, by decide, by decide, by decide, by decide, by decide, by decide, fun n hn => absurd hn (inl_nil n), Nat.zero_le _⟩⟩, Hk1.out.size, Hk1.out.alloc _⟩

def mayN (n : Int) : Bool := decide (0 ≤ n ∧ n ≤ 4611686018427387903)
theorem may_any (n : Int) (w : World) : Calls Try.prog 41 #[.int .i64 n] w fun e w' => e = .returned (.bool (mayN n)) ∧ w = w' := by
  obtain ⟨r, hr⟩ : ∃ r, r = mayN n := ⟨_, rfl⟩
  rw [← hr]
  have Hr := Lib.hid hr
  clear hr
  by_cases h1 : 0 ≤ n
  · by_cases h2 : n ≤ 4611686018427387903
    · have e : r = true := by rw [Hr.out]; exact decide_eq_true ⟨h1, h2⟩
      subst e
      go_enter Try.func41, Try.ntmps41
      go_wp2
      go_ret
      exact ⟨rfl, rfl⟩
    · have e : r = false := by rw [Hr.out]; exact decide_eq_false (fun h => h2 h.2)
      subst e
      go_enter Try.func41, Try.ntmps41
      go_wp2
      go_ret
      exact ⟨rfl, rfl⟩
  · have e : r = false := by rw [Hr.out]; exact decide_eq_false (fun h => h1 h.1)
    subst e
    go_enter Try.func41, Try.ntmps41
    go_wp2
    go_ret
    exact ⟨rfl, rfl⟩
end Go.Proofs.Ytbkpapdbidbhaaa
