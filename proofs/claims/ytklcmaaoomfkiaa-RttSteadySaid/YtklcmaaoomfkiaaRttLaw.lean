/-
  Chapter 8's closed sentence 'known'; the calls of rtt on a struct that is a block of its own; how a list of numbers reads.
-/
import Derived.Test.YtklcmaaoomfkiaaRtt
import Derived.Test.YtklcmaaoomfkiaaPick
import Derived.Test.YtklcmaaoomfkiaaArgs
namespace Go.Proofs.Ytklcmaaoomfkiaa
open Go.RowKit

/-- A struct that is known whole, with r in it. -/
def WR (w : World) (b : Nat) (r : R4) : Prop := Whole w b 51 #[.int .i64 r.S, .int .i64 r.V, .int .i64 r.B, .bool r.m]
theorem WR.isR {w : World} {b : Nat} {r : R4} (h : WR w b r) : IsR w b 0 r := isR_mk (S := r.S) (V := r.V) (B := r.B) (m := r.m) h
theorem WR.drewN {w : World} {b : Nat} {r : R4} (h : WR w b r) (n : Nat) : WR (w.drewN n) b r := Whole.drewN h n
theorem WR.drew {w : World} {b : Nat} {r : R4} (h : WR w b r) : WR w.drew b r := Whole.drew h
theorem WR.alloc {w : World} {b : Nat} {r : R4} (h : WR w b r) (o : Obj) : WR (w.alloc o) b r := Whole.alloc h o
theorem WR.far {w : World} {b : Nat} {r : R4} (h : WR w b r) {p : Addr} (hp : b ≠ p.block) (u : Value) : WR (w.setCell p u) b r := Whole.far h hp u
theorem WR.grown {w w' : World} {b : Nat} {r : R4} {row : Option Nat} (h : WR w b r) (hb : w.grownBy w' row) (hg : some b ≠ row) : WR w' b r := Whole.grown h hb hg
theorem WR.lt {w : World} {b : Nat} {r : R4} (h : WR w b r) : b < w.heap.size := Whole.lt h
theorem WR.back {w : World} {b : Nat} {r : R4} (h : WR w b r) (B : Int) : WR (w.setCell ⟨b, 2, none⟩ (.int .i64 B)) b { r with B := B } := by
  have := Whole.set h 2 (.int .i64 B)
  exact this

/-- What a Sample has left. -/
def LeftR (w : World) (b : Nat) (r : R4) (e : Ending) (w' : World) : Prop := e = .returned (.tuple #[]) ∧ WR w' b r ∧ w.grownBy w' (some b)

theorem sample_let {w : World} {b : Nat} {r : R4} (h : WR w b r) (hi : r.Inv) (x : Int) :
    Calls Try.prog 34 #[.pointer (some ⟨b, 0, none⟩), .int .i64 x] w (LeftR w b (r.sample x)) :=
  (sample_any h.isR hi x).mono fun _ _ ⟨he, d, hw⟩ => ⟨he, by subst hw; exact Whole.drewN (setR_whole h _) _, by subst hw; exact kept_drewN (setR_kept _ _ _ _) _⟩

theorem wait_let {w : World} {b : Nat} {r : R4} (h : WR w b r) (hi : r.Inv) {v : Int} (hv : r.wait = v) :
    Calls Try.prog 33 #[.pointer (some ⟨b, 0, none⟩)] w fun e w' => e = .returned (.int .i64 v) ∧ Dr w' w := by
  subst hv; exact wait_any h.isR hi
theorem round_let {w : World} {b : Nat} {r : R4} (h : WR w b r) (hi : r.Inv) {v : Int} (hv : r.round = v) :
    Calls Try.prog 36 #[.pointer (some ⟨b, 0, none⟩)] w fun e w' => e = .returned (.int .i64 v) ∧ w = w' := by
  subst hv; exact round_any h.isR hi
theorem late_let {w : World} {b : Nat} {r : R4} (h : WR w b r) (hi : r.Inv) {v : Int} (hv : r.late = v) :
    Calls Try.prog 37 #[.pointer (some ⟨b, 0, none⟩)] w fun e w' => e = .returned (.int .i64 v) ∧ w = w' := by
  subst hv; exact late_any h.isR hi

theorem ints_rd {W : World} {v : Value} (h : SlArg 52 W v) : RdSl W 8 [RdI] v := by
  have hB : Try.prog.bytesOf 3 = 8 := by kernel_rfl
  rw [← hB]
  exact h.rd Try.underlying52 fun H enc => fieldSl1 Try.underlying52 (by kernel_rfl) (fieldI Try.underlying3)

def knownR (w : World) : World := w.alloc (.cells #[.int .i64 0, .int .i64 0, .int .i64 0, .bool false] 51)
theorem knownR_below (w : World) (d : Nat) : Below w.heap.size w ((knownR w).drewN d) := Below.drewN' ((Below.refl _ _).alloc (Nat.le_refl _) _) _
theorem zero_inv : R4.Inv ⟨0, 0, 0, false⟩ := by refine ⟨?_, ?_, ?_, ?_, fun h => by cases h⟩ <;> decide

set_option maxHeartbeats 1000000 in
set_option maxRecDepth 100000 in
theorem rknown_any (w : World) : Calls Try.prog 35 #[] w fun e w' => e = .returned (.bool true) ∧ ∃ d, w' = (knownR w).drewN d := by
  have h0 : WR (knownR w) w.heap.size ⟨0, 0, 0, false⟩ := Whole.new _ _ _
  have H0 := Lib.hid h0
  clear h0
  go_enter Try.func35, Try.ntmps35
  go_wp2_with (first
    | (go_at_call 33; refine (wait_let H0.out zero_inv (v := 8) rfl).mono ?_; rintro e w' ⟨rfl, d, rfl⟩; unfold knownR)
    | (go_at_call 36; refine (round_let (H0.out.drewN _) zero_inv (v := 4) rfl).mono ?_; rintro e w' ⟨rfl, rfl⟩)
    | (go_at_call 37; refine (late_let (H0.out.drewN _) zero_inv (v := 5) rfl).mono ?_; rintro e w' ⟨rfl, rfl⟩))
  go_ret
  exact ⟨rfl, _, rfl⟩
end Go.Proofs.Ytklcmaaoomfkiaa
