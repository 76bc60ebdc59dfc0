/-
  Bytes: the model's xor of two bytes.
-/
import Derived.Test.YtelhnhnbfjamhaaBase
namespace Go.Proofs.Ytelhnhnbfjamhaa

theorem xor_u8_nat (a b : Nat) (ha : a < 256) (hb : b < 256) : bits .xor .u8 (a : Int) (b : Int) = ((a ^^^ b : Nat) : Int) := by
  have hx : a ^^^ b < 2 ^ 8 := Nat.xor_lt_two_pow (by omega) (by omega)
  have h1 : (BitVec.ofInt 8 (a : Int)).toNat = a := by
    rw [BitVec.ofInt_natCast, BitVec.toNat_ofNat]; exact Nat.mod_eq_of_lt (by omega)
  have h2 : (BitVec.ofInt 8 (b : Int)).toNat = b := by
    rw [BitVec.ofInt_natCast, BitVec.toNat_ofNat]; exact Nat.mod_eq_of_lt (by omega)
  show IntKind.u8.wrap ((BitVec.ofInt 8 (a : Int) ^^^ BitVec.ofInt 8 (b : Int)).toNat : Int) = _
  rw [BitVec.toNat_xor, h1, h2, IntKind.wrap_u8]
  omega

/-- The model's xor of a byte with a byte that is told as a number. -/
theorem xor_u8 (b y : UInt8) : bits .xor .u8 (b.toNat : Int) (y.toNat : Int) = ((b ^^^ y).toNat : Int) := by
  rw [xor_u8_nat _ _ b.toNat_lt y.toNat_lt, UInt8.toNat_xor]

theorem byte_of (y : Int) (h0 : 0 ≤ y) (h1 : y ≤ 255) : ∃ z : UInt8, y = (z.toNat : Int) := by
  refine ⟨UInt8.ofNat y.toNat, ?_⟩
  rw [UInt8.toNat_ofNat', Nat.mod_eq_of_lt (by omega)]
  omega

/-- A string with byte a turned by y. -/
def turnS (s : ByteArray) (a : Nat) (y : UInt8) : ByteArray := ⟨s.data.modify a (· ^^^ y)⟩
theorem turnS_size (s : ByteArray) (a : Nat) (y : UInt8) : (turnS s a y).size = s.size := by
  show (s.data.modify a (· ^^^ y)).size = s.data.size
  exact Array.size_modify
theorem turnS_twice (s : ByteArray) (a : Nat) (y : UInt8) : turnS (turnS s a y) a y = s := by
  obtain ⟨d⟩ := s
  simp only [turnS]
  congr 1
  apply Array.ext
  · simp
  · intro i h1 h2
    simp only [Array.getElem_modify]
    split
    · rw [UInt8.xor_assoc, UInt8.xor_self, UInt8.xor_zero]
    · rfl
end Go.Proofs.Ytelhnhnbfjamhaa
