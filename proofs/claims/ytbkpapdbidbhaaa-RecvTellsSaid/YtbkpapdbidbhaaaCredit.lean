/-
  The calls of package credit: what each answers, and what it does to the struct in memory, wherever that lies in its block.
-/
import Derived.Test.YtbkpapdbidbhaaaBase
namespace Go.Proofs.Ytbkpapdbidbhaaa
open Go.RowKit

def leftF (L U : Int) : Int := max 0 (L - U)
def useB (L U n : Int) : Bool := decide (0 ≤ n ∧ n ≤ leftF L U)
def raiseB (L n : Int) : Bool := decide (L < n ∧ n ≤ 4611686018427387903)




def roomF (n : Int) : Int := max 1 (min n 1048576)

set_option maxHeartbeats 400000 in
theorem newGrant_any (n : Int) (w : World) :
    Calls Try.prog 33 #[.int .i64 n] w fun e w' => e = .returned (.agg #[.int .i64 (roomF n), .int .i64 0, .int .i64 (roomF n)]) ∧ w' = w.alloc (.cells #[.int .i64 (roomF n), .int .i64 0, .int .i64 (roomF n)] 43) := by
  have hr : roomF n = 1 ∧ n ≤ 1 ∨ roomF n = n ∧ 1 < n ∧ n ≤ 1048576 ∨ roomF n = 1048576 ∧ 1048576 < n := by unfold roomF; omega
  rcases hr with ⟨hr, h1⟩ | ⟨hr, h1, h2⟩ | ⟨hr, h1⟩
  all_goals
    rw [hr]
    clear hr
    go_enter Try.func33, Try.ntmps33
    go_wp2
  · exact bodyPost_ret (v := .agg #[.int .i64 1, .int .i64 0, .int .i64 1]) (by simp [results, Try.results33, go_sem]) rfl ⟨rfl, rfl⟩
  · exact bodyPost_ret (v := .agg #[.int .i64 n, .int .i64 0, .int .i64 n]) (by simp [results, Try.results33, go_sem]) rfl ⟨rfl, rfl⟩
  · exact bodyPost_ret (v := .agg #[.int .i64 1048576, .int .i64 0, .int .i64 1048576]) (by simp [results, Try.results33, go_sem]) rfl ⟨rfl, rfl⟩

def eatF (n : Int) : Int := max 0 (min n 1048576)

set_option maxHeartbeats 400000 in
theorem eat_any {w : World} {b o : Nat} {R : Int} (c1 : w.cell? ⟨b, o + 1, none⟩ = some (.int .i64 R)) (f1 : w.frozen? ⟨b, o + 1, none⟩ = false) (r0 : 0 ≤ R) (r1 : R ≤ 9223372036853727231) (n : Int) :
    Calls Try.prog 40 #[.pointer (some ⟨b, o, none⟩), .int .i64 n] w
      (LeftX (.tuple #[]) w b (o + 1) (.int .i64 (R + eatF n))) := by
  have hr : eatF n = 0 ∧ n ≤ 0 ∨ eatF n = n ∧ 0 < n ∧ n ≤ 1048576 ∨ eatF n = 1048576 ∧ 1048576 < n := by unfold eatF; omega
  rcases hr with ⟨hr, h1⟩ | ⟨hr, h1, h2⟩ | ⟨hr, h1⟩
  all_goals
    rw [hr]
    clear hr
    go_enter Try.func40, Try.ntmps40
    go_wp2_with fail
    go_end0
    first | exact ⟨rfl, 0, rfl⟩ | exact ⟨rfl, 0, by rw [Int.add_zero]; rfl⟩

def dueB (M R T : Int) : Bool := decide (T + max 1 (M / 2) ≤ R + M)

set_option maxHeartbeats 400000 in
theorem due_any {w : World} {b o : Nat} {M R T : Int} (c0 : w.cell? ⟨b, o, none⟩ = some (.int .i64 M)) (c1 : w.cell? ⟨b, o + 1, none⟩ = some (.int .i64 R)) (c2 : w.cell? ⟨b, o + 2, none⟩ = some (.int .i64 T))
    (m0 : 0 ≤ M) (m1 : M ≤ 1048576) (r0 : 0 ≤ R) (r1 : R ≤ 9223372036853727231) (t0 : 0 ≤ T) (t1 : T ≤ 9223372036853727231) :
    Calls Try.prog 16 #[.pointer (some ⟨b, o, none⟩)] w fun e w' => e = .returned (.tuple #[.int .i64 (R + M), .bool (dueB M R T)]) ∧ Dr w' w := by
  by_cases hm : 1 < M / 2
  · have hd : dueB M R T = decide (T + M / 2 ≤ R + M) := by unfold dueB; rw [show max 1 (M / 2) = M / 2 by omega]
    rw [hd]
    clear hd
    go_enter Try.func16, Try.ntmps16
    go_wp2_with fail
    go_quiet (fail)
    go_wp2_with fail
    go_quiet (fail)
    go_wp2_with fail
    go_ret2
    exact ⟨rfl, by rw [World.drewN_drewN]; exact ⟨_, rfl⟩⟩
  · have hd : dueB M R T = decide (T + 1 ≤ R + M) := by unfold dueB; rw [show max 1 (M / 2) = 1 by omega]
    rw [hd]
    clear hd
    go_enter Try.func16, Try.ntmps16
    go_wp2_with fail
    go_quiet (fail)
    go_wp2_with fail
    go_quiet (fail)
    go_wp2_with fail
    go_ret2
    exact ⟨rfl, by rw [World.drewN_drewN]; exact ⟨_, rfl⟩⟩

def tellF (M R T : Int) : Int := max T (R + M)

set_option maxHeartbeats 400000 in
set_option maxRecDepth 100000 in
theorem tell_any {w : World} {b o : Nat} {M R T : Int} (c0 : w.cell? ⟨b, o, none⟩ = some (.int .i64 M)) (c1 : w.cell? ⟨b, o + 1, none⟩ = some (.int .i64 R)) (c2 : w.cell? ⟨b, o + 2, none⟩ = some (.int .i64 T)) (f2 : w.frozen? ⟨b, o + 2, none⟩ = false)
    (m0 : 0 ≤ M) (m1 : M ≤ 1048576) (r0 : 0 ≤ R) (r1 : R ≤ 9223372036853727231) (_t0 : 0 ≤ T) (_t1 : T ≤ 9223372036854775807) :
    Calls Try.prog 17 #[.pointer (some ⟨b, o, none⟩)] w
      (LeftX (.int .i64 (tellF M R T)) w b (o + 2) (.int .i64 (tellF M R T))) := by
  by_cases hm : T < R + M
  · have hd : tellF M R T = R + M := by unfold tellF; omega
    rw [hd]
    clear hd
    go_enter Try.func17, Try.ntmps17
    go_wp2_with fail
    go_region
    all_goals go_wp2_with fail
    go_ret
    exact ⟨rfl, 1, rfl⟩
  · have hd : tellF M R T = T := by unfold tellF; omega
    rw [hd]
    clear hd
    go_enter Try.func17, Try.ntmps17
    go_wp2_with fail
    go_region
    all_goals go_wp2_with fail
    go_ret
    exact ⟨rfl, 1, rfl⟩
end Go.Proofs.Ytbkpapdbidbhaaa
