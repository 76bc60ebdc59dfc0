/-
  How the raw calls of chapter 10's laws read; how a new block reads.
-/
import Derived.Test.YtklcmaaoomfkiaaCongKnown
import Derived.Test.YtklcmaaoomfkiaaArgs
namespace Go.Proofs.Ytklcmaaoomfkiaa
open Go.RowKit

theorem rawC_rd {W : World} {v : Value} (h : SlArg 28 W v) : RdSl W 24 [RdI, RdI, RdI] v := by
  have hB : Try.prog.bytesOf 33 = 24 := by kernel_rfl
  rw [← hB]
  refine h.rd Try.underlying28 fun H enc => fieldSlS Try.underlying28 Try.underlying33 (by kernel_rfl) (by kernel_rfl) (by decide) rfl ?_
  intro j f q hf hq
  match j with
  | 0 => simp at hf hq; subst hf hq; exact fieldI Try.underlying3
  | 1 => simp at hf hq; subst hf hq; exact fieldI Try.underlying3
  | 2 => simp at hf hq; subst hf hq; exact fieldI Try.underlying3
  | j + 3 => simp at hf

/-- Only block b has turned, and draws. -/
theorem setW_kept (w : World) (b : Nat) (s : W4) : w.grownBy (setW w b 0 s) (some b) := by
  refine ⟨rfl, rfl, rfl, by simp [setW], fun k hk hne => ?_⟩
  have hn : k ≠ b := fun e => hne (by rw [e])
  unfold setW
  rw [Below.heap_setCell _ _ _ _ hn, Below.heap_setCell _ _ _ _ hn, Below.heap_setCell _ _ _ _ hn, Below.heap_setCell _ _ _ _ hn]

/-- What a call has left: the window's block b holds s, nothing else has turned. -/
def LeftW (w : World) (b : Nat) (t : TypeId) (s : W4) (e : Ending) (w' : World) : Prop :=
  e = .returned (.tuple #[]) ∧ Whole w' b t #[.int .i64 s.S, .int .i64 s.L, .int .i64 s.P, .int .i64 s.T] ∧ w.grownBy w' (some b)

theorem bad_let {w : World} {b : Nat} {s : W4} (hw : Whole w b 23 #[.int .i64 s.S, .int .i64 s.L, .int .i64 s.P, .int .i64 s.T]) (hi : s.Inv) (num next : Int) :
    Calls Try.prog 17 #[.pointer (some ⟨b, 0, none⟩), .int .i64 num, .int .i64 next] w (LeftW w b 23 (s.bad num next)) :=
  (bad_any b 0 s num next w (isW_mk hw) hi).mono fun _ _ ⟨he, hw'⟩ => ⟨he, by subst hw'; exact setW_whole hw _, by subst hw'; exact setW_kept _ _ _⟩
theorem good_let {w : World} {b : Nat} {s : W4} (hw : Whole w b 23 #[.int .i64 s.S, .int .i64 s.L, .int .i64 s.P, .int .i64 s.T]) (hi : s.Inv) (n : Int) (h1 : n ≤ 9223372036854775807) (h0 : -9223372036854775808 ≤ n) :
    Calls Try.prog 16 #[.pointer (some ⟨b, 0, none⟩), .int .i64 n] w (LeftW w b 23 (s.good n.toNat)) :=
  (good_any b 0 s n w (isW_mk hw) hi h1 h0).mono fun _ _ ⟨he, d, hw'⟩ => ⟨he, by subst hw'; exact (setW_whole hw _).drewN _, by subst hw'; exact kept_drewN (setW_kept _ _ _) _⟩
theorem rbad_let {w : World} {b : Nat} {s : W4} (hw : Whole w b 29 #[.int .i64 s.S, .int .i64 s.L, .int .i64 s.P, .int .i64 s.T]) (hi : s.Inv) (num next : Int) :
    Calls Try.prog 21 #[.pointer (some ⟨b, 0, none⟩), .int .i64 num, .int .i64 next] w (LeftW w b 29 (s.bad num next)) :=
  (rbad_any b 0 s num next w (isW_mk hw) hi).mono fun _ _ ⟨he, hw'⟩ => ⟨he, by subst hw'; exact setW_whole hw _, by subst hw'; exact setW_kept _ _ _⟩
theorem rgood_let {w : World} {b : Nat} {s : W4} (hw : Whole w b 29 #[.int .i64 s.S, .int .i64 s.L, .int .i64 s.P, .int .i64 s.T]) (hi : s.Inv) (n : Int) (h1 : n ≤ 9223372036854775807) (h0 : -9223372036854775808 ≤ n) :
    Calls Try.prog 22 #[.pointer (some ⟨b, 0, none⟩), .int .i64 n] w (LeftW w b 29 (s.good n.toNat)) :=
  (rgood_any b 0 s n w (isW_mk hw) hi h1 h0).mono fun _ _ ⟨he, d, hw'⟩ => ⟨he, by subst hw'; exact (setW_whole hw _).drewN _, by subst hw'; exact kept_drewN (setW_kept _ _ _) _⟩

theorem whole_new' {w : World} {g : Nat} (t : TypeId) (cs : Array Value) (w' : World) (he : w' = w.alloc (.cells cs t)) (h : g = w.heap.size) : Whole w' g t cs := by
  subst h he
  exact Whole.new _ _ _
end Go.Proofs.Ytklcmaaoomfkiaa
