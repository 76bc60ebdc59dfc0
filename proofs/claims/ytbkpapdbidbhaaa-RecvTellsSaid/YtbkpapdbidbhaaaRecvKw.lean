/-
  argosylaw14.known.
-/
import Derived.Test.YtbkpapdbidbhaaaRecvH
import Derived.BigQuiet
import Derived.Lib.SmallJoins
namespace Go.Proofs.Ytbkpapdbidbhaaa
open Go.RowKit

/-- A row of bytes read as a string. -/
theorem conv_any {w : World} {B m c : Nat} {A : Option Addr} {d : List UInt8} (hl : m = d.length) (h : RowAt w B 1 (.slice A m c) m (encB d)) :
    (convert 22 9 (.slice A m c)).run Try.prog w = .ok (.string ⟨d.toArray⟩) w := by
  rcases h.2 with ⟨hv, h0⟩ | ⟨g, off, cap, hv, _, _, _, _, _, _, h7⟩
  · have hd : d = [] := List.eq_nil_of_length_eq_zero (by omega)
    subst hd
    cases hv
    rw [run_convert_bytes_string (P := Try.prog) w 22 9 5 none 0 0 Try.underlying22 Try.underlying5 Try.underlying9]
    simp [Conv.bytesToString]
    rfl
  · subst hl
    cases hv
    exact run_convert_bytes_back (P := Try.prog) w 22 9 5 ⟨g, off, none⟩ c d Try.underlying22 Try.underlying5 Try.underlying9 (fun j hj => by
      rw [Addr.add_lit]
      exact h7 j _ (by simp [encB, List.getElem?_eq_getElem hj]))
/-- A literal's bytes, marked. -/
theorem src_mark {w : World} {n : Nat} {fr : Nat × Nat} (d : List UInt8) (hn : d.length = n) : Src (w.alloc (.cells (encB d).toArray 5 fr)) 1 (.slice (some ⟨w.heap.size, 0, none⟩) n n) n (encB d) := by
  subst hn
  exact ⟨by rw [encB_len]; omega, encB_one _, .inr ⟨_, _, rfl, fun j u hj => by rw [Addr.add_lit, Nat.zero_add, World.cell?_alloc_mark]; simpa using hj⟩⟩
theorem src_lit {w : World} {b n : Nat} (d : List UInt8) (h : Whole w b 5 (encB d).toArray) (hn : d.length = n) : Src w 1 (.slice (some ⟨b, 0, none⟩) n n) n (encB d) := by
  subst hn
  exact ⟨by rw [encB_len]; omega, encB_one _, .inr ⟨_, _, rfl, fun j u hj => by rw [Addr.add_lit, Nat.zero_add, h.cell]; simpa using hj⟩⟩

def ka : RS := putS rs0 3 true [100, 101]
def kb : RS := putS ka 0 false [97, 98, 99]
theorem ka_err : putErr rs0 ((3 : Nat) : Int) true 2 = 0 := by decide
theorem kb_err : putErr ka ((0 : Nat) : Int) false 3 = 0 := by decide +kernel
theorem k_facts : ((ka.top : Int) - (rs0.top : Int) = 5) ∧ ((kb.top : Int) - (ka.top : Int) = 0) ∧ toN kb 9 = 5 ∧ kb.taken = 0 ∧ ((kb.d.drop 0).take 5) = [97, 98, 99, 100, 101] ∧ overN (takeS kb 5) = 1 ∧ codeN (takeS kb 5) = 0 ∧ countL (takeS kb 5).L = 5 ∧ (takeS kb 5).rd = 5 := by
  refine ⟨by decide +kernel, by decide +kernel, by decide +kernel, by decide +kernel, by decide +kernel, by decide +kernel, by decide +kernel, by decide +kernel, by decide +kernel⟩

set_option maxRecDepth 100000 in
set_option maxHeartbeats 2000000 in
theorem known14 (w : World) : Calls Try.prog 11 #[] w fun e w' => e = .returned (.bool true) ∧ Kp (fun _ => False) w w' := by
  obtain ⟨f1, f2, f3, f4, f5, f6, f7, f8, f9⟩ := k_facts
  have HN := Lib.hid (h_new 3 w (fun k => k < w.heap.size) (fun k h => h))
  have F1 := Lib.hid f1
  have F2 := Lib.hid f2
  have F3 := Lib.hid f3
  have F4 := Lib.hid f4
  have F5 := Lib.hid f5
  have F6 := Lib.hid f6
  have F7 := Lib.hid f7
  have F8 := Lib.hid f8
  have F9 := Lib.hid f9
  clear f1 f2 f3 f4 f5 f6 f7 f8 f9
  go_enter Try.func11, Try.ntmps11
  go_wp2_with fail
  with_reducible refine (HN.out).mono ?_
  rintro e w1 ⟨g, rfl, hs1, hg1, hk1⟩
  have hka := (Kp.refl (fun k => k < w.heap.size) w1).alloc (.cells #[.int .u8 100, .int .u8 101] 5 (2, 3))
  have hs2 := hs1.turn hka
  have hp2 := src_mark (w := w1) (fr := (2, 3)) [100, 101] (n := 2) rfl
  have hcv := Lib.run_convert_bytes_const (P := Try.prog) w1 22 5 #[.int .u8 100, .int .u8 101] 2 2 Try.underlying22 Try.underlying5
  have hP := h_put hs2 (by decide) 3 true hp2 (Nat.le_refl _) (by unfold maxLen; omega) (fun k hk => .inr (by have : w1.heap.size = k := Option.some.inj hk; simp only [World.size_alloc]; omega)) ka_err
  have HP := Lib.hid hP
  have Hk1 := Lib.hid hk1
  have Hka := Lib.hid hka
  have hl1 := hk1.size
  clear hP hk1 hka hs2 hp2 hs1
  go_wp2_with fail
  refine (HP.out).mono ?_
  rintro e w2 ⟨rfl, hs3, hk2⟩
  have HS3 := Lib.hid hs3
  have Hk2 := Lib.hid (Kp.trans (Hk1.out.no (S := fun k => w.heap.size ≤ k)) (Kp.trans ((Kp.refl (fun k => w.heap.size ≤ k) w1).alloc (.cells #[.int .u8 100, .int .u8 101] 5 (2, 3))) (hk2.mono (S' := fun k => w.heap.size ≤ k) (fun k _ e => by
    by_cases h : k < w.heap.size
    · exact absurd (.inl h) e
    · omega))))
  clear hs3 hk2 Hk1 Hka HN HP
  have hl2 := Hk2.out.size
  have hka := (Kp.refl (fun k => k < w.heap.size ∨ (w1.heap.size ≤ k ∧ k < (w1.alloc (.cells #[.int .u8 100, .int .u8 101] 5 (2, 3))).heap.size)) w2).alloc (.cells #[.int .u8 97, .int .u8 98, .int .u8 99] 5 (3, 4))
  have hs4 := HS3.out.turn hka
  have hp3 := src_mark (w := w2) (fr := (3, 4)) [97, 98, 99] (n := 3) rfl
  have hcv3 := Lib.run_convert_bytes_const (P := Try.prog) w2 22 5 #[.int .u8 97, .int .u8 98, .int .u8 99] 3 3 Try.underlying22 Try.underlying5
  have HP := Lib.hid (h_put hs4 (by decide +kernel) 0 false hp3 (Nat.le_refl _) (by unfold maxLen; omega) (fun k hk => .inr (by have : w2.heap.size = k := Option.some.inj hk; simp only [World.size_alloc]; omega)) kb_err)
  clear hka hs4 hp3
  go_wp2_with fail
  refine (HP.out).mono ?_
  rintro e w3 ⟨rfl, hs5, hk3⟩
  have HT := Lib.hid (h_take (show HasSt w3 _ g kb from hs5) 9 (by omega) (by omega) 5 F3.out.symm)
  rw [F6.out, F7.out, F4.out, F5.out] at HT
  have Hk3 := Lib.hid (Kp.trans (Hk2.out.alloc (.cells #[.int .u8 97, .int .u8 98, .int .u8 99] 5 (3, 4))) (hk3.mono (S' := fun k => w.heap.size ≤ k) (fun k _ e => by
    by_cases h : k < w.heap.size
    · exact absurd (.inl (.inl h)) e
    · omega)))
  clear hs5 hk3 HP Hk2 HS3 F1 F2 F3 F4 F5 F6 F7
  go_wp2_with fail
  refine (HT.out).mono ?_
  rintro e w4 ⟨vr, rfl, hr, hs6, hk4⟩
  obtain ⟨Ar, cr, rfl⟩ := hr.form
  have hcv := conv_any (m := 5 - 0) (by rfl) hr
  have hc2 := (h_cells hs6).1
  rw [F9.out] at hc2
  have hgl := hs6.lt.1
  have HC := Lib.hid (h_count hs6 5 F8.out)
  have Hk4 := Lib.hid (Hk3.out.trans (hk4.mono (S' := fun k => w.heap.size ≤ k) (fun k _ e => by
    by_cases h : k < w.heap.size
    · exact absurd (.inl (.inl h)) e
    · omega)))
  clear hr hs6 hk4 Hk3 F8 F9 HT
  go_wp2_with fail
  with_reducible refine (HC.out).mono ?_
  rintro e w5 ⟨rfl, hk5⟩
  have Hk5 := Lib.hid ((Hk4.out.trans hk5.no).mono (S' := fun _ => False) (fun k hk e => by omega))
  clear hk5 Hk4
  go_wp2_with fail
  go_ret
  exact ⟨rfl, Hk5.out⟩
end Go.Proofs.Ytbkpapdbidbhaaa
