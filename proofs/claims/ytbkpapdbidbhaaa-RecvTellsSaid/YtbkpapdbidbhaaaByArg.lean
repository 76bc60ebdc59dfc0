/-
  A slice of bytes among the arguments, as a law's frame hands it.
-/
import Derived.Test.YtbkpapdbidbhaaaFew
namespace Go.Proofs.Ytbkpapdbidbhaaa
open Go.RowKit Go.ChangeShapes Go.WideShapes Go.ChangeAt

theorem SlArg.gen {T E : TypeId} {W : World} {v : Value} {p : Value → Prop} (ht : Try.prog.underlying T = some (.slice E)) (h : SlArg T W v)
    (hp : ∀ (H : Type) (enc : TypeId × Value → H), FieldOk enc Try.prog W 0 (fun _ => true) true T p) : p v := by
  obtain ⟨H, enc, base, d, q, hok, ⟨fuel, hf⟩, hwt⟩ := h
  obtain ⟨A, len, cap, rfl⟩ := okWide_slice ht hok
  exact hp H enc fuel _ (d, q) (by simpa [Value.cells] using hf) hwt
theorem bytes_rd {W : World} {v : Value} (h : SlArg 22 W v) : RdBy W v := h.gen Try.underlying22 fun H enc => fieldBy Try.underlying22 (by kernel_rfl) (by kernel_rfl) Try.underlying5
end Go.Proofs.Ytbkpapdbidbhaaa
