/-
  Slices of ints: slices.Index, slices.Contains.
-/
import Derived.Test.YtelhnhnbfjamhaaQueuePut
namespace Go.Proofs.Ytelhnhnbfjamhaa
open Go.RowKit

/-- Ints as cells. -/
def encN (l : List Int) : List Value := l.map (Value.int .i64)
theorem encN_get (l : List Int) (i : Nat) (x : Int) (h : l[i]? = some x) : (encN l)[i]? = some (.int .i64 x) := by simp [encN, h]

set_option maxRecDepth 100000 in
set_option maxHeartbeats 1000000 in
theorem index_i {w : World} {A : Option Addr} {cap : Nat} {l : List Int} (h : Src w 1 (.slice A l.length cap) l.length (encN l)) (x : Int) (hl : l.length ≤ 4611686018427387904) :
    Calls Try.prog 67 #[.slice A l.length cap, .int .i64 x] w fun e w' => ∃ r : Int, e = .returned (.int .i64 r) ∧ Hid ((x ∈ l → 0 ≤ r) ∧ (¬ x ∈ l → r = -1)) ∧ w = w' := by
  have H := Lib.hid h
  clear h
  generalize hn : l.length = n at *
  have Hn := Lib.hid hn
  clear hn
  go_enter Try.func67, Try.ntmps67
  go_wp2
  go_loop [8] (fun vi => ∃ i : Nat, i ≤ n ∧ vi = .int .i64 i ∧ Hid (∀ j y, j < i → l[j]? = some y → y ≠ x)) (fun vi => n - (intOf vi).toNat)
  case atStart => exact ⟨0, by omega, rfl, Lib.hid (fun j y hj => by omega)⟩
  case round =>
    obtain ⟨i, hi, rfl, hno⟩ := hrel
    by_cases hlt : i < n
    · obtain ⟨b, off, c, hv, hb, hc⟩ := H.out.full (by omega) (by omega)
      cases hv
      obtain ⟨y, hy⟩ : ∃ y, l[i]? = some y := ⟨_, List.getElem?_eq_getElem (by rw [Hn.out]; exact hlt)⟩
      have e0 := hc i _ (encN_get l i y hy)
      have Hy := Lib.hid hy
      clear hy hc
      by_cases hxy : x = y
      · subst hxy
        go_wp2
        go_ret
        exact ⟨_, rfl, Lib.hid ⟨fun _ => by omega, fun h => absurd (List.mem_of_getElem? Hy.out) h⟩, rfl⟩
      · have hb1 : (x == y) = false := by simpa using hxy
        have hxy' := Lib.hid hxy
        clear hxy
        go_wp2
        go_round
        case rel =>
          refine ⟨i + 1, by omega, by go_num, Lib.hid (fun j z hj hz => ?_)⟩
          rcases Nat.lt_or_ge j i with h | h
          · exact hno.out j z h hz
          · obtain rfl : j = i := by omega
            rw [Hy.out] at hz
            cases hz
            exact fun e => hxy'.out e.symm
        case measure => simp [intOf]; omega
    · go_wp2
      go_ret
      refine ⟨_, rfl, Lib.hid ⟨fun hx => ?_, fun _ => rfl⟩, rfl⟩
      obtain ⟨j, hj, rfl⟩ := List.getElem_of_mem hx
      exact absurd rfl (hno.out j _ (by rw [Hn.out] at hj; omega) (List.getElem?_eq_getElem hj))

set_option maxRecDepth 100000 in
set_option maxHeartbeats 1000000 in
theorem contains_i {w : World} {A : Option Addr} {cap : Nat} {l : List Int} (h : Src w 1 (.slice A l.length cap) l.length (encN l)) (x : Int) (hl : l.length ≤ 4611686018427387904) :
    Calls Try.prog 54 #[.slice A l.length cap, .int .i64 x] w fun e w' => e = .returned (.bool (decide (x ∈ l))) ∧ w = w' := by
  have hI := index_i h x hl
  have HI := Lib.hid hI
  clear hI h
  by_cases hx : x ∈ l
  · rw [decide_eq_true hx]
    have Hx := Lib.hid hx
    clear hx
    go_enter Try.func54, Try.ntmps54
    go_wp2_with fail
    refine (HI.out).mono ?_
    rintro e w1 ⟨r, rfl, hr, rfl⟩
    have h0 : 0 ≤ r := hr.out.1 Hx.out
    go_wp2_with fail
    go_ret
    exact ⟨by simp, rfl⟩
  · rw [decide_eq_false hx]
    have Hx := Lib.hid hx
    clear hx
    go_enter Try.func54, Try.ntmps54
    go_wp2_with fail
    refine (HI.out).mono ?_
    rintro e w1 ⟨r, rfl, hr, rfl⟩
    have h0 : ¬ 0 ≤ r := by have := hr.out.2 Hx.out; omega
    go_wp2_with fail
    go_ret
    exact ⟨by simp [h0], rfl⟩
end Go.Proofs.Ytelhnhnbfjamhaa
