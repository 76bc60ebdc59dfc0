/-
  argosylaw14.RecvKnown: the walk. (printed by src/gen_XRecvKnown.py)
-/
import Derived.Test.YtbkpapdbidbhaaaRecvQ
import Derived.Lib.SmallJoins
namespace Go.Proofs.Ytbkpapdbidbhaaa
open Go.RowKit

section
variable {w : World} {F : Nat → Prop} {g : Nat} {s : RS}
/-- Put of a literal that was just laid. -/
theorem k_put (h : HasSt w F g s) (o : Nat) (fin : Bool) (fr : Nat × Nat) (d : List UInt8) (n : Nat) (hn : d.length = n) (hn2 : n ≤ 100) (s' : RS) (hs' : putS s o fin d = s') (he : putErr s (o : Int) fin n = 0) (f : Int) (hf : (s'.top : Int) - (s.top : Int) = f) :
    Calls Try.prog 13 #[.pointer (some ⟨g, 0, none⟩), .int .i64 (o : Int), .bool fin, .slice (some ⟨w.heap.size, 0, none⟩) n n] (w.alloc (.cells (encB d).toArray 5 fr)) fun e w' =>
      e = .returned (.tuple #[.int .i64 f, .int .i64 0]) ∧ HasSt w' F g s' ∧ Kp (fun k => ¬ F k) w w' := by
  subst hs' hf
  have hka : Kp F w (w.alloc (.cells (encB d).toArray 5 fr)) := (Kp.refl _ w).alloc _
  refine (h_put (h.turn hka) o fin (src_mark d hn) (Nat.le_refl _) (by unfold maxLen; omega) (fun k hk => .inr (by have : w.heap.size = k := Option.some.inj hk; simp only [World.size_alloc]; omega)) he).mono ?_
  rintro e w' ⟨rfl, hs, hk⟩
  exact ⟨rfl, hs.sub (fun k h => .inl h), Kp.trans ((Kp.refl _ w).alloc _) (hk.mono (fun k _ e h => e (.inl h)))⟩
theorem k_put_err (h : HasSt w F g s) (o : Int) (l0 : -9223372036854775808 ≤ o) (h0 : o ≤ 9223372036854775807) (fin : Bool) (fr : Nat × Nat) (d : List UInt8) (n : Nat) (hn2 : n ≤ 100) (er : Nat) (he : putErr s o fin n = er) (hne : er ≠ 0) :
    Calls Try.prog 13 #[.pointer (some ⟨g, 0, none⟩), .int .i64 o, .bool fin, .slice (some ⟨w.heap.size, 0, none⟩) n n] (w.alloc (.cells (encB d).toArray 5 fr)) fun e w' =>
      e = .returned (.tuple #[.int .i64 0, .int .i64 (er : Int)]) ∧ HasSt w' F g s ∧ Kp (fun k => ¬ F k) w w' := by
  have hka : Kp (fun _ => False) w (w.alloc (.cells (encB d).toArray 5 fr)) := (Kp.refl _ w).alloc _
  refine (h_put_err (h.no hka) o l0 h0 fin _ n n (by omega) er he hne).mono ?_
  rintro e w' ⟨rfl, rfl⟩
  exact ⟨rfl, h.no hka, hka.no⟩
theorem k_take (h : HasSt w F g s) (most : Int) (l0 : -9223372036854775808 ≤ most) (h0 : most ≤ 9223372036854775807) (t : Nat) (ht : t = toN s most) (s' : RS) (hs' : takeS s t = s') (n : Nat) (hn : t - s.taken = n) (x : List UInt8) (hx : (s.d.drop s.taken).take n = x) (ov cd : Nat) (hov : overN s' = ov) (hcd : codeN s' = cd) :
    Calls Try.prog 14 #[.pointer (some ⟨g, 0, none⟩), .int .i64 most] w fun e w' => ∃ A c, e = .returned (.tuple #[.slice A n c, .int .i64 (ov : Int), .int .i64 (cd : Int)]) ∧
      RowAt w' w.heap.size 1 (.slice A n c) n (encB x) ∧ (∃ F' : Nat → Prop, (∀ k, F k → F' k) ∧ (∀ k, (Value.slice A n c).ownBlock = some k → F' k) ∧ HasSt w' F' g s') ∧ Kp (fun k => ¬ F k) w w' := by
  subst hs' hn hx hov hcd
  refine (h_take h most l0 h0 t ht).mono ?_
  rintro e w' ⟨vr, rfl, hr, hs, hk⟩
  obtain ⟨A, c, rfl⟩ := hr.form
  exact ⟨A, c, rfl, hr, ⟨_, fun k e => .inl e, fun k hk => .inr (hr.lt k hk), hs⟩, hk⟩
theorem k_brk (h : HasSt w F g s) (code en sure : Nat) (he : brkErr s code en sure = 0) (s' : RS) (hs' : brkS s code en sure = s') (f : Int) (hf : (s'.top : Int) - (s.top : Int) = f) :
    Calls Try.prog 19 #[.pointer (some ⟨g, 0, none⟩), .int .i64 (code : Int), .int .i64 (en : Int), .int .i64 (sure : Int)] w fun e w' => e = .returned (.tuple #[.int .i64 f, .int .i64 0]) ∧ HasSt w' F g s' ∧ Kp (fun k => ¬ F k) w w' := by
  subst hs' hf
  exact h_brk h code en sure he
/-- A row is kept where it is foreign. -/
theorem row_f {w' : World} {B n : Nat} {v : Value} {xs : List Value} (h : RowAt w B 1 v n xs) (hF : ∀ k, v.ownBlock = some k → F k) (hk : Kp (fun k => ¬ F k) w w') : RowAt w' B 1 v n xs := h.kp hk (fun k hk' e => e (hF k hk'))
end
theorem kf1 : putErr rs0 400 false 1 = 7 := by decide +kernel
theorem kf2 : putErr rs0 (-1) false 0 = 1 := by decide +kernel
def kn1 : RS := putS rs0 0 false [97, 98, 99, 100, 101, 102]
theorem kf3 : putErr rs0 ((0 : Nat) : Int) false 6 = 0 := by decide +kernel
theorem kf4 : (kn1.top : Int) - (rs0.top : Int) = 6 := by decide +kernel
theorem kf5 : putErr kn1 2 true 1 = 8 := by decide +kernel
def kn2 : RS := putS kn1 0 false [65, 66, 67, 68, 69, 70, 71, 72]
theorem kf6 : putErr kn1 ((0 : Nat) : Int) false 8 = 0 := by decide +kernel
theorem kf7 : (kn2.top : Int) - (kn1.top : Int) = 2 := by decide +kernel
def kn3 : RS := takeS kn2 3
theorem kf8 : 3 = toN kn2 3 := by decide +kernel
theorem kf9 : 3 - kn2.taken = 3 := by decide +kernel
theorem kf10 : (kn2.d.drop kn2.taken).take 3 = [97, 98, 99] := by decide +kernel
theorem kf11 : overN kn3 = 0 := by decide +kernel
theorem kf12 : codeN kn3 = 0 := by decide +kernel
def kn4 : RS := brkS kn3 9 30 5
theorem kf13 : brkErr kn3 ((9 : Nat) : Int) ((30 : Nat) : Int) ((5 : Nat) : Int) = 0 := by decide +kernel
theorem kf14 : (kn4.top : Int) - (kn3.top : Int) = 22 := by decide +kernel
theorem kf15 : brkErr kn4 9 31 5 = 8 := by decide +kernel
theorem kf16 : putErr kn4 29 false 2 = 8 := by decide +kernel
def kn5 : RS := putS kn4 28 true [122, 122]
theorem kf17 : putErr kn4 ((28 : Nat) : Int) true 2 = 0 := by decide +kernel
theorem kf18 : (kn5.top : Int) - (kn4.top : Int) = 0 := by decide +kernel
def kn6 : RS := takeS kn5 4
theorem kf19 : 4 = toN kn5 1 := by decide +kernel
theorem kf20 : 4 - kn5.taken = 1 := by decide +kernel
theorem kf21 : (kn5.d.drop kn5.taken).take 1 = [100] := by decide +kernel
theorem kf22 : overN kn6 = 0 := by decide +kernel
theorem kf23 : codeN kn6 = 0 := by decide +kernel
def kn7 : RS := takeS kn6 5
theorem kf24 : 5 = toN kn6 99 := by decide +kernel
theorem kf25 : 5 - kn6.taken = 1 := by decide +kernel
theorem kf26 : (kn6.d.drop kn6.taken).take 1 = [101] := by decide +kernel
theorem kf27 : overN kn7 = 2 := by decide +kernel
theorem kf28 : codeN kn7 = 9 := by decide +kernel
def kn8 : RS := brkS kn7 4 30 2
theorem kf29 : brkErr kn7 ((4 : Nat) : Int) ((30 : Nat) : Int) ((2 : Nat) : Int) = 0 := by decide +kernel
theorem kf30 : (kn8.top : Int) - (kn7.top : Int) = 0 := by decide +kernel
theorem kf31 : brkErr kn8 9 30 31 = 1 := by decide +kernel
theorem kf32 : brkErr kn8 9 900 1 = 7 := by decide +kernel
def kn9 : RS := putS rs0 0 true []
theorem kf33 : putErr rs0 ((0 : Nat) : Int) true 0 = 0 := by decide +kernel
theorem kf34 : overN kn9 = 1 := by decide +kernel
def kn10 : RS := brkS kn9 5 0 0
theorem kf35 : brkErr kn9 ((5 : Nat) : Int) ((0 : Nat) : Int) ((0 : Nat) : Int) = 0 := by decide +kernel
theorem kf36 : (kn10.top : Int) - (kn9.top : Int) = 0 := by decide +kernel
def kn11 : RS := takeS kn10 0
theorem kf37 : 0 = toN kn10 0 := by decide +kernel
theorem kf38 : 0 - kn10.taken = 0 := by decide +kernel
theorem kf39 : (kn10.d.drop kn10.taken).take 0 = [] := by decide +kernel
theorem kf40 : overN kn11 = 1 := by decide +kernel
theorem kf41 : codeN kn11 = 0 := by decide +kernel
def kn12 : RS := putS rs0 0 false [97, 98, 99, 100, 101, 102]
theorem kf42 : putErr rs0 ((0 : Nat) : Int) false 6 = 0 := by decide +kernel
theorem kf43 : (kn12.top : Int) - (rs0.top : Int) = 6 := by decide +kernel
def kn13 : RS := takeS kn12 6
theorem kf44 : 6 = toN kn12 6 := by decide +kernel
theorem kf45 : 6 - kn12.taken = 6 := by decide +kernel
theorem kf46 : (kn12.d.drop kn12.taken).take 6 = [97, 98, 99, 100, 101, 102] := by decide +kernel
theorem kf47 : overN kn13 = 0 := by decide +kernel
theorem kf48 : codeN kn13 = 0 := by decide +kernel
def kn14 : RS := brkS kn13 3 9 2
theorem kf49 : brkErr kn13 ((3 : Nat) : Int) ((9 : Nat) : Int) ((2 : Nat) : Int) = 0 := by decide +kernel
theorem kf50 : (kn14.top : Int) - (kn13.top : Int) = 3 := by decide +kernel
def kn15 : RS := takeS kn14 6
theorem kf51 : 6 = toN kn14 9 := by decide +kernel
theorem kf52 : 6 - kn14.taken = 0 := by decide +kernel
theorem kf53 : (kn14.d.drop kn14.taken).take 0 = [] := by decide +kernel
theorem kf54 : overN kn15 = 2 := by decide +kernel
theorem kf55 : codeN kn15 = 3 := by decide +kernel
theorem kf56 : kn8.ended = true := by decide +kernel
theorem kf57 : ((kn8.top : Int)) = 30 := by decide +kernel
theorem kf58 : ((kn8.top : Int) - (kn8.taken : Int)) = 25 := by decide +kernel
theorem kf59 : overN kn8 = 2 := by decide +kernel
theorem kf60 : ((kn15.top : Int) - (kn15.taken : Int)) = 3 := by decide +kernel

set_option maxRecDepth 100000 in
set_option maxHeartbeats 4000000 in
theorem RecvKnown_any (W : World) : Calls Try.prog 7 #[] W fun e w' => e = .returned (.bool true) ∧ Below W.heap.size W w' := by
  have HN := Lib.hid (h_new 3 W (fun k => k < W.heap.size) (fun k h => h))
  go_enter Try.func7, Try.ntmps7
  go_wp2_with fail
  refine (HN.out).mono ?_
  rintro e w1 ⟨g, rfl, hs, hg, hk⟩
  have HS1 := Lib.hid hs
  have HK1 := Lib.hid (hk.no (S := fun k => ¬ k < W.heap.size))
  have HF1 : Hid (∀ k, k < W.heap.size → k < W.heap.size) := Lib.hid (fun k h => h)
  have HKn := Lib.hid (known14 w1)
  clear hs hk HN hg
  go_wp2_with fail
  refine (HKn.out).mono ?_
  rintro e w2 ⟨rfl, hk⟩
  have HS2 := Lib.hid (HS1.out.no hk)
  have HK2 := Lib.hid (HK1.out.trans hk.no)
  clear hk HKn HS1 HK1
  have HP := Lib.hid (k_put_err HS2.out 400 (by omega) (by omega) false (0, 0) [1] 1 (by omega) 7 kf1 (by decide))
  go_wp2_with fail
  refine (HP.out).mono ?_
  rintro e w3 ⟨rfl, hs, hk⟩
  have HS3 := Lib.hid hs
  have HK3 := Lib.hid (Kp.trans HK2.out (hk.mono (S' := fun k => ¬ k < W.heap.size) (fun k _ e h => e (HF1.out k h))))
  clear hs hk HS2 HK2 HP
  have HP := Lib.hid (h_put_err HS3.out (-1) (by omega) (by omega) false none 0 0 (by omega) 1 kf2 (by decide))
  go_wp2_with fail
  refine (HP.out).mono ?_
  rintro e w' ⟨rfl, rfl⟩
  clear HP
  have HP := Lib.hid (k_put HS3.out 0 false (6, 7) [97, 98, 99, 100, 101, 102] 6 rfl (by omega) kn1 rfl kf3 6 kf4)
  have hcv := Lib.run_convert_bytes_const (P := Try.prog) w3 22 5 #[.int .u8 97, .int .u8 98, .int .u8 99, .int .u8 100, .int .u8 101, .int .u8 102] 6 6 Try.underlying22 Try.underlying5
  go_wp2_with fail
  refine (HP.out).mono ?_
  rintro e w4 ⟨rfl, hs, hk⟩
  have HS4 := Lib.hid hs
  have HK4 := Lib.hid (Kp.trans HK3.out (hk.mono (S' := fun k => ¬ k < W.heap.size) (fun k _ e h => e (HF1.out k h))))
  clear hs hk HS3 HK3 HP hcv
  have HP := Lib.hid (k_put_err HS4.out 2 (by omega) (by omega) true (1, 2) [120] 1 (by omega) 8 kf5 (by decide))
  have hcv := Lib.run_convert_bytes_const (P := Try.prog) w4 22 5 #[.int .u8 120] 1 1 Try.underlying22 Try.underlying5
  go_wp2_with fail
  refine (HP.out).mono ?_
  rintro e w5 ⟨rfl, hs, hk⟩
  have HS5 := Lib.hid hs
  have HK5 := Lib.hid (Kp.trans HK4.out (hk.mono (S' := fun k => ¬ k < W.heap.size) (fun k _ e h => e (HF1.out k h))))
  clear hs hk HS4 HK4 HP hcv
  have HP := Lib.hid (k_put HS5.out 0 false (8, 9) [65, 66, 67, 68, 69, 70, 71, 72] 8 rfl (by omega) kn2 rfl kf6 2 kf7)
  have hcv := Lib.run_convert_bytes_const (P := Try.prog) w5 22 5 #[.int .u8 65, .int .u8 66, .int .u8 67, .int .u8 68, .int .u8 69, .int .u8 70, .int .u8 71, .int .u8 72] 8 8 Try.underlying22 Try.underlying5
  go_wp2_with fail
  refine (HP.out).mono ?_
  rintro e w6 ⟨rfl, hs, hk⟩
  have HS6 := Lib.hid hs
  have HK6 := Lib.hid (Kp.trans HK5.out (hk.mono (S' := fun k => ¬ k < W.heap.size) (fun k _ e h => e (HF1.out k h))))
  clear hs hk HS5 HK5 HP hcv
  have HP := Lib.hid (k_take HS6.out 3 (by omega) (by omega) 3 kf8 kn3 rfl 3 kf9 [97, 98, 99] kf10 0 0 kf11 kf12)
  go_wp2_with fail
  refine (HP.out).mono ?_
  rintro e w7 ⟨A7, c7, rfl, hr, ⟨F7, hF0, hF1, hs⟩, hk⟩
  have HS7 := Lib.hid hs
  have HK7 := Lib.hid (Kp.trans HK6.out (hk.mono (S' := fun k => ¬ k < W.heap.size) (fun k _ e h => e (HF1.out k h))))
  have HF7 := Lib.hid (fun k h => hF0 k (HF1.out k h))
  have X_7 := Lib.hid hr
  have XF := Lib.hid hF1
  clear hs hk HS6 HK6 HP hr hF0 hF1
  have HP := Lib.hid (k_brk HS7.out 9 30 5 kf13 kn4 rfl 22 kf14)
  go_wp2_with fail
  refine (HP.out).mono ?_
  rintro e w8 ⟨rfl, hs, hk⟩
  have HS8 := Lib.hid hs
  have HK8 := Lib.hid (Kp.trans HK7.out (hk.mono (S' := fun k => ¬ k < W.heap.size) (fun k _ e h => e (HF7.out k h))))
  have X_8 := Lib.hid (row_f X_7.out XF.out hk)
  clear hs hk HS7 HK7 X_7 HP
  have HP := Lib.hid (h_brk_err HS8.out 9 31 5 8 kf15 (by decide))
  go_wp2_with fail
  refine (HP.out).mono ?_
  rintro e w' ⟨rfl, rfl⟩
  clear HP
  have HP := Lib.hid (k_put_err HS8.out 29 (by omega) (by omega) false (2, 3) [122, 122] 2 (by omega) 8 kf16 (by decide))
  have hcv := Lib.run_convert_bytes_const (P := Try.prog) w8 22 5 #[.int .u8 122, .int .u8 122] 2 2 Try.underlying22 Try.underlying5
  go_wp2_with fail
  refine (HP.out).mono ?_
  rintro e w9 ⟨rfl, hs, hk⟩
  have HS9 := Lib.hid hs
  have HK9 := Lib.hid (Kp.trans HK8.out (hk.mono (S' := fun k => ¬ k < W.heap.size) (fun k _ e h => e (HF7.out k h))))
  have X_9 := Lib.hid (row_f X_8.out XF.out hk)
  clear hs hk HS8 HK8 X_8 HP hcv
  have HP := Lib.hid (k_put HS9.out 28 true (2, 3) [122, 122] 2 rfl (by omega) kn5 rfl kf17 0 kf18)
  have hcv := Lib.run_convert_bytes_const (P := Try.prog) w9 22 5 #[.int .u8 122, .int .u8 122] 2 2 Try.underlying22 Try.underlying5
  go_wp2_with fail
  refine (HP.out).mono ?_
  rintro e w10 ⟨rfl, hs, hk⟩
  have HS10 := Lib.hid hs
  have HK10 := Lib.hid (Kp.trans HK9.out (hk.mono (S' := fun k => ¬ k < W.heap.size) (fun k _ e h => e (HF7.out k h))))
  have X_10 := Lib.hid (row_f X_9.out XF.out hk)
  clear hs hk HS9 HK9 X_9 HP hcv
  have HP := Lib.hid (k_take HS10.out 1 (by omega) (by omega) 4 kf19 kn6 rfl 1 kf20 [100] kf21 0 0 kf22 kf23)
  go_wp2_with fail
  refine (HP.out).mono ?_
  rintro e w11 ⟨A11, c11, rfl, hr, ⟨F11, hF0, hF1, hs⟩, hk⟩
  have HS11 := Lib.hid hs
  have HK11 := Lib.hid (Kp.trans HK10.out (hk.mono (S' := fun k => ¬ k < W.heap.size) (fun k _ e h => e (HF7.out k h))))
  have X_11 := Lib.hid (row_f X_10.out XF.out hk)
  have HF11 := Lib.hid (fun k h => hF0 k (HF7.out k h))
  have XF := Lib.hid (fun k h => hF0 k (XF.out k h))
  have Y_11 := Lib.hid hr
  have YF := Lib.hid hF1
  clear hs hk HS10 HK10 X_10 HP hr hF0 hF1
  have HP := Lib.hid (k_take HS11.out 99 (by omega) (by omega) 5 kf24 kn7 rfl 1 kf25 [101] kf26 2 9 kf27 kf28)
  go_wp2_with fail
  refine (HP.out).mono ?_
  rintro e w12 ⟨A12, c12, rfl, hr, ⟨F12, hF0, hF1, hs⟩, hk⟩
  have HS12 := Lib.hid hs
  have HK12 := Lib.hid (Kp.trans HK11.out (hk.mono (S' := fun k => ¬ k < W.heap.size) (fun k _ e h => e (HF11.out k h))))
  have X_12 := Lib.hid (row_f X_11.out XF.out hk)
  have Y_12 := Lib.hid (row_f Y_11.out YF.out hk)
  have HF12 := Lib.hid (fun k h => hF0 k (HF11.out k h))
  have XF := Lib.hid (fun k h => hF0 k (XF.out k h))
  have YF := Lib.hid (fun k h => hF0 k (YF.out k h))
  have Z_12 := Lib.hid hr
  have ZF := Lib.hid hF1
  clear hs hk HS11 HK11 X_11 Y_11 HP hr hF0 hF1
  have HP := Lib.hid (k_brk HS12.out 4 30 2 kf29 kn8 rfl 0 kf30)
  go_wp2_with fail
  refine (HP.out).mono ?_
  rintro e w13 ⟨rfl, hs, hk⟩
  have HS13 := Lib.hid hs
  have HK13 := Lib.hid (Kp.trans HK12.out (hk.mono (S' := fun k => ¬ k < W.heap.size) (fun k _ e h => e (HF12.out k h))))
  have X_13 := Lib.hid (row_f X_12.out XF.out hk)
  have Y_13 := Lib.hid (row_f Y_12.out YF.out hk)
  have Z_13 := Lib.hid (row_f Z_12.out ZF.out hk)
  clear hs hk HS12 HK12 X_12 Y_12 Z_12 HP
  have HP := Lib.hid (h_brk_err HS13.out 9 30 31 1 kf31 (by decide))
  go_wp2_with fail
  refine (HP.out).mono ?_
  rintro e w' ⟨rfl, rfl⟩
  clear HP
  have HP := Lib.hid (h_brk_err HS13.out 9 900 1 7 kf32 (by decide))
  go_wp2_with fail
  refine (HP.out).mono ?_
  rintro e w' ⟨rfl, rfl⟩
  clear HP
  have HN := Lib.hid (h_new 1 w13 (fun k => k < w13.heap.size) (fun k h => h))
  have XL := Lib.hid (fun k h => (X_13.out.lt k h).2)
  have YL := Lib.hid (fun k h => (Y_13.out.lt k h).2)
  have ZL := Lib.hid (fun k h => (Z_13.out.lt k h).2)
  go_wp2_with fail
  refine (HN.out).mono ?_
  rintro e w14 ⟨gt, rfl, hs, hgt, hk⟩
  have HS14 := Lib.hid hs
  have HQ14 := Lib.hid (hk.no (S := fun k => ¬ k < w13.heap.size))
  have HGt : Hid (∀ k, k < w13.heap.size → k < w13.heap.size) := Lib.hid (fun k h => h)
  have X_14 := Lib.hid (X_13.out.kp hk (fun _ _ h => h))
  have Y_14 := Lib.hid (Y_13.out.kp hk (fun _ _ h => h))
  have Z_14 := Lib.hid (Z_13.out.kp hk (fun _ _ h => h))
  clear hs hk HN hgt
  have HP := Lib.hid (h_put HS14.out 0 true (p := []) (A := none) (c := 0) ⟨rfl, encB_one _, .inl ⟨rfl, rfl⟩⟩ (Nat.le_refl _) (Nat.zero_le _) (fun k hk => by cases hk) kf33)
  go_wp2_with fail
  refine (HP.out).mono ?_
  rintro e w15 ⟨rfl, hs, hk⟩
  have hs : HasSt _ _ _ kn9 := hs
  have HS15 := Lib.hid hs
  have HK15 := Lib.hid (Kp.trans HQ14.out (hk.mono (S' := fun k => ¬ k < w13.heap.size) (fun k _ e h => e (HGt.out k h))))
  have X_15 := Lib.hid (X_14.out.kp hk (fun k hk' e => e (HGt.out k (XL.out k hk'))))
  have Y_15 := Lib.hid (Y_14.out.kp hk (fun k hk' e => e (HGt.out k (YL.out k hk'))))
  have Z_15 := Lib.hid (Z_14.out.kp hk (fun k hk' e => e (HGt.out k (ZL.out k hk'))))
  clear hk HS14 HQ14 X_14 Y_14 Z_14 HP
  have hO := h_over HS15.out
  rw [kf34] at hO
  have HO := Lib.hid hO
  clear hO
  go_wp2_with fail
  refine (HO.out).mono ?_
  rintro e w16 ⟨rfl, hk0⟩
  have hs := HS15.out.no hk0
  have hk : Kp (fun k => ¬ k < w13.heap.size) w15 w16 := hk0.no
  have HS16 := Lib.hid hs
  have HK16 := Lib.hid (Kp.trans HK15.out (hk.mono (S' := fun k => ¬ k < w13.heap.size) (fun k _ e h => e (HGt.out k h))))
  have X_16 := Lib.hid (X_15.out.kp hk (fun k hk' e => e (HGt.out k (XL.out k hk'))))
  have Y_16 := Lib.hid (Y_15.out.kp hk (fun k hk' e => e (HGt.out k (YL.out k hk'))))
  have Z_16 := Lib.hid (Z_15.out.kp hk (fun k hk' e => e (HGt.out k (ZL.out k hk'))))
  clear hk0 HO hs hk HS15 HK15 X_15 Y_15 Z_15
  have HP := Lib.hid (k_brk HS16.out 5 0 0 kf35 kn10 rfl 0 kf36)
  go_wp2_with fail
  refine (HP.out).mono ?_
  rintro e w17 ⟨rfl, hs, hk⟩
  have HS17 := Lib.hid hs
  have HK17 := Lib.hid (Kp.trans HK16.out (hk.mono (S' := fun k => ¬ k < w13.heap.size) (fun k _ e h => e (HGt.out k h))))
  have X_17 := Lib.hid (X_16.out.kp hk (fun k hk' e => e (HGt.out k (XL.out k hk'))))
  have Y_17 := Lib.hid (Y_16.out.kp hk (fun k hk' e => e (HGt.out k (YL.out k hk'))))
  have Z_17 := Lib.hid (Z_16.out.kp hk (fun k hk' e => e (HGt.out k (ZL.out k hk'))))
  clear hs hk HS16 HK16 X_16 Y_16 Z_16 HP
  have HP := Lib.hid (k_take HS17.out 0 (by omega) (by omega) 0 kf37 kn11 rfl 0 kf38 [] kf39 1 0 kf40 kf41)
  go_wp2_with fail
  refine (HP.out).mono ?_
  rintro e w18 ⟨A18, c18, rfl, hr, ⟨F18, hF0, hF1, hs⟩, hk⟩
  have HS18 := Lib.hid hs
  have HK18 := Lib.hid (Kp.trans HK17.out (hk.mono (S' := fun k => ¬ k < w13.heap.size) (fun k _ e h => e (HGt.out k h))))
  have X_18 := Lib.hid (X_17.out.kp hk (fun k hk' e => e (HGt.out k (XL.out k hk'))))
  have Y_18 := Lib.hid (Y_17.out.kp hk (fun k hk' e => e (HGt.out k (YL.out k hk'))))
  have Z_18 := Lib.hid (Z_17.out.kp hk (fun k hk' e => e (HGt.out k (ZL.out k hk'))))
  have HF18 := Lib.hid (fun k h => hF0 k (HGt.out k h))
  clear hs hk HS17 HK17 X_17 Y_17 Z_17 HP hr hF0 hF1
  have HN := Lib.hid (h_new 1 w18 (fun k => k < w18.heap.size) (fun k h => h))
  have XL := Lib.hid (fun k h => (X_18.out.lt k h).2)
  have YL := Lib.hid (fun k h => (Y_18.out.lt k h).2)
  have ZL := Lib.hid (fun k h => (Z_18.out.lt k h).2)
  go_wp2_with fail
  refine (HN.out).mono ?_
  rintro e w19 ⟨gu, rfl, hs, hgu, hk⟩
  have HS19 := Lib.hid hs
  have HQ19 := Lib.hid (hk.no (S := fun k => ¬ k < w18.heap.size))
  have HGu : Hid (∀ k, k < w18.heap.size → k < w18.heap.size) := Lib.hid (fun k h => h)
  have X_19 := Lib.hid (X_18.out.kp hk (fun _ _ h => h))
  have Y_19 := Lib.hid (Y_18.out.kp hk (fun _ _ h => h))
  have Z_19 := Lib.hid (Z_18.out.kp hk (fun _ _ h => h))
  clear hs hk HN hgu
  have HT19 := Lib.hid (Kp.trans (HK18.out.mono (S' := fun _ => False) (fun k hk e => e hk)) ((HQ19.out.mono (S' := fun _ => False) (fun k hk e => e hk))))
  have HP := Lib.hid (k_put HS19.out 0 false (6, 7) [97, 98, 99, 100, 101, 102] 6 rfl (by omega) kn12 rfl kf42 6 kf43)
  have hcv := Lib.run_convert_bytes_const (P := Try.prog) w19 22 5 #[.int .u8 97, .int .u8 98, .int .u8 99, .int .u8 100, .int .u8 101, .int .u8 102] 6 6 Try.underlying22 Try.underlying5
  go_wp2_with fail
  refine (HP.out).mono ?_
  rintro e w20 ⟨rfl, hs, hk⟩
  have HS20 := Lib.hid hs
  have HK20 := Lib.hid (Kp.trans HQ19.out (hk.mono (S' := fun k => ¬ k < w18.heap.size) (fun k _ e h => e (HGu.out k h))))
  have X_20 := Lib.hid (X_19.out.kp hk (fun k hk' e => e (HGu.out k (XL.out k hk'))))
  have Y_20 := Lib.hid (Y_19.out.kp hk (fun k hk' e => e (HGu.out k (YL.out k hk'))))
  have Z_20 := Lib.hid (Z_19.out.kp hk (fun k hk' e => e (HGu.out k (ZL.out k hk'))))
  clear hs hk HS19 HQ19 X_19 Y_19 Z_19 HP hcv
  have HP := Lib.hid (k_take HS20.out 6 (by omega) (by omega) 6 kf44 kn13 rfl 6 kf45 [97, 98, 99, 100, 101, 102] kf46 0 0 kf47 kf48)
  go_wp2_with fail
  refine (HP.out).mono ?_
  rintro e w21 ⟨A21, c21, rfl, hr, ⟨F21, hF0, hF1, hs⟩, hk⟩
  have HS21 := Lib.hid hs
  have HK21 := Lib.hid (Kp.trans HK20.out (hk.mono (S' := fun k => ¬ k < w18.heap.size) (fun k _ e h => e (HGu.out k h))))
  have X_21 := Lib.hid (X_20.out.kp hk (fun k hk' e => e (HGu.out k (XL.out k hk'))))
  have Y_21 := Lib.hid (Y_20.out.kp hk (fun k hk' e => e (HGu.out k (YL.out k hk'))))
  have Z_21 := Lib.hid (Z_20.out.kp hk (fun k hk' e => e (HGu.out k (ZL.out k hk'))))
  have HF21 := Lib.hid (fun k h => hF0 k (HGu.out k h))
  clear hs hk HS20 HK20 X_20 Y_20 Z_20 HP hr hF0 hF1
  have HP := Lib.hid (k_brk HS21.out 3 9 2 kf49 kn14 rfl 3 kf50)
  go_wp2_with fail
  refine (HP.out).mono ?_
  rintro e w22 ⟨rfl, hs, hk⟩
  have HS22 := Lib.hid hs
  have HK22 := Lib.hid (Kp.trans HK21.out (hk.mono (S' := fun k => ¬ k < w18.heap.size) (fun k _ e h => e (HF21.out k h))))
  have X_22 := Lib.hid (X_21.out.kp hk (fun k hk' e => e (HF21.out k (XL.out k hk'))))
  have Y_22 := Lib.hid (Y_21.out.kp hk (fun k hk' e => e (HF21.out k (YL.out k hk'))))
  have Z_22 := Lib.hid (Z_21.out.kp hk (fun k hk' e => e (HF21.out k (ZL.out k hk'))))
  clear hs hk HS21 HK21 X_21 Y_21 Z_21 HP
  have HP := Lib.hid (k_take HS22.out 9 (by omega) (by omega) 6 kf51 kn15 rfl 0 kf52 [] kf53 2 3 kf54 kf55)
  go_wp2_with fail
  refine (HP.out).mono ?_
  rintro e w23 ⟨A23, c23, rfl, hr, ⟨F23, hF0, hF1, hs⟩, hk⟩
  have HS23 := Lib.hid hs
  have HK23 := Lib.hid (Kp.trans HK22.out (hk.mono (S' := fun k => ¬ k < w18.heap.size) (fun k _ e h => e (HF21.out k h))))
  have X_23 := Lib.hid (X_22.out.kp hk (fun k hk' e => e (HF21.out k (XL.out k hk'))))
  have Y_23 := Lib.hid (Y_22.out.kp hk (fun k hk' e => e (HF21.out k (YL.out k hk'))))
  have Z_23 := Lib.hid (Z_22.out.kp hk (fun k hk' e => e (HF21.out k (ZL.out k hk'))))
  have HF23 := Lib.hid (fun k h => hF0 k (HF21.out k h))
  clear hs hk HS22 HK22 X_22 Y_22 Z_22 HP hr hF0 hF1
  have HSe := Lib.hid (HS13.out.no (Kp.trans (HK18.out.mono (S' := fun _ => False) (fun k hk e => e hk)) (HK23.out.mono (S' := fun _ => False) (fun k hk e => e hk))))
  have h := h_ended HSe.out
  rw [kf56] at h
  have HE := Lib.hid h
  clear h
  have h := h_top HSe.out
  rw [kf57] at h
  have HTp := Lib.hid h
  clear h
  have h := h_rest HSe.out
  rw [kf58] at h
  have HRs := Lib.hid h
  clear h
  have h := h_over HSe.out
  rw [kf59] at h
  have HOv := Lib.hid h
  clear h
  have cvX := conv_any (by rfl) X_23.out
  have cvY := conv_any (by rfl) Y_23.out
  have cvZ := conv_any (by rfl) Z_23.out
  go_wp2_with fail
  refine (HE.out).mono ?_
  rintro e w' ⟨rfl, rfl⟩
  go_wp2_with fail
  refine (HTp.out).mono ?_
  rintro e w' ⟨rfl, rfl⟩
  go_wp2_with fail
  refine (HRs.out).mono ?_
  rintro e wa ⟨rfl, hka⟩
  have HSa := Lib.hid (HSe.out.no hka)
  have h := h_over HSa.out
  rw [kf59] at h
  have HOv := Lib.hid h
  clear h
  go_wp2_with fail
  refine (HOv.out).mono ?_
  rintro e wb ⟨rfl, hkb⟩
  have h := h_rest ((HS23.out.no hka).no hkb)
  rw [kf60] at h
  have HRu := Lib.hid h
  clear h
  go_wp2_with fail
  refine (HRu.out).mono ?_
  rintro e wc ⟨rfl, hkc⟩
  have hkall := Kp.trans HK13.out (Kp.trans (HK18.out.mono (S' := fun k => ¬ k < W.heap.size) (fun k hk e => absurd hk e)) (Kp.trans (HK23.out.mono (S' := fun k => ¬ k < W.heap.size) (fun k hk e => absurd hk e)) (((hka.trans hkb).trans hkc).no)))
  have Hkall := Lib.hid hkall
  clear hka hkb hkc hkall
  go_wp2_with fail
  go_ret
  exact ⟨rfl, (Hkall.out.mono (S' := fun k => W.heap.size ≤ k) (fun k _ e => by omega)).below (Nat.le_refl _) (fun k h => h)⟩
end Go.Proofs.Ytbkpapdbidbhaaa
