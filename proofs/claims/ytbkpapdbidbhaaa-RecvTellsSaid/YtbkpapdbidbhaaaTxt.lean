/-
  argosyhand.Text.
-/
import Derived.Test.YtbkpapdbidbhaaaBytes
import Derived.Test.YtbkpapdbidbhaaaPick
namespace Go.Proofs.Ytbkpapdbidbhaaa
open Go.RowKit

set_option maxRecDepth 100000 in
set_option maxHeartbeats 1000000 in
/-- Text tells so many bytes, made anew. -/
theorem text_any {w : World} {A : Option Addr} {cap : Nat} {d : List UInt8} (h : Bs w (.slice A d.length cap) d) (hm : d.length ≤ 4611686018427387904) (n : Nat) (hn : n ≤ 1000) :
    Calls Try.prog 29 #[.slice A d.length cap, .int .i64 n] w fun e w' => ∃ v' t, e = .returned v' ∧ t.length = n ∧ RowAt w' w.heap.size 1 v' n (encB t) ∧ Kp (fun _ => False) w w' := by
  obtain ⟨j0, hjj, hy0, hy1, hy2⟩ := info_parts infoB
  have Hj := Lib.hid hjj
  have Hy0 := Lib.hid hy0
  have Hy1 := Lib.hid hy1
  have Hy2 := Lib.hid hy2
  clear hjj hy0 hy1 hy2
  have H := Lib.hid h
  clear h
  generalize hdl : d.length = dl at *
  have Hdl := Lib.hid hdl
  clear hdl
  go_enter Try.func29, Try.ntmps29
  go_wp2_with fail
  go_loopw [5, 6] (fun vo vi wr => ∃ (j : Nat) (t : List UInt8), j ≤ n ∧ vi = .int .i64 j ∧ Hid (t.length = j) ∧ RowAt wr w.heap.size 1 vo j (encB t) ∧ Kp (fun _ => False) w wr)
    (fun _ vi _ => n - (intOf vi).toNat)
  case atStart => exact ⟨0, [], by omega, rfl, Lib.hid rfl, RowAt.nil _ _ _, Kp.refl _ _⟩
  case round =>
    obtain ⟨j, t, hjn, rfl, Ht, hr, hk⟩ := hrel
    have Hr := Lib.hid hr
    have Hk := Lib.hid hk
    clear hr hk
    by_cases hlt : j < n
    · go_upto_if 18 with (fail)
      go_cut [7] (fun s7 wx => ∃ x : UInt8, s7 = .int .u8 (x.toNat : Int) ∧ wx = wr)
      case first =>
        by_cases hd0 : 0 < dl
        · obtain ⟨b, off, c, hv, hb, hc⟩ := H.out.cell (by rw [Hdl.out]; exact hd0)
          rw [Hdl.out] at hv
          cases hv
          have hjm : j % dl < dl := Nat.mod_lt _ hd0
          have e0 := hc (j % dl) (by rw [Hdl.out]; exact hjm)
          rw [← Hk.out.cell (p := ⟨b, _, none⟩) hb (fun h => h)] at e0
          have hjd : (j : Int) % (dl : Int) = ((j % dl : Nat) : Int) := by omega
          have hz : ((dl : Int) == 0) = false := by simp; omega
          have htm : (j : Int).tmod (dl : Int) = ((j % dl : Nat) : Int) := by rw [Int.tmod_eq_emod_of_nonneg (by omega), hjd]
          have hz2 : ¬ dl = 0 := by omega
          have hz3 : (dl == 0) = false := by simp; omega
          have hjm2 : ((j % dl : Nat) : Int) < dl := by omega
          have hjm3 : j % dl ≤ 4611686018427387904 := by omega
          generalize hjq : j % dl = jm at *
          go_wp2_with fail
          go_meet
          refine ⟨UInt8.ofNat (j * 7) + d[jm]'(by rw [Hdl.out]; exact hjm), ?_, rfl⟩
          rw [UInt8.toNat_add, UInt8.toNat_ofNat']
          congr 1
        · go_wp2_with fail
          go_meet
          refine ⟨UInt8.ofNat (j * 7), ?_, rfl⟩
          rw [UInt8.toNat_ofNat']
          congr 1
      case rest =>
        obtain ⟨x, rfl, rfl⟩ := hcut
        have HO1 := Lib.hid (Hr.out.kp ((Kp.refl (fun _ => False) wc).alloc (.cells #[.int .u8 (x.toNat : Int)] 5)) (fun _ _ h => h))
        have hX1 : Src (wc.alloc (.cells #[.int .u8 (x.toNat : Int)] 5)) 1 (.slice (some ⟨wc.heap.size, 0, none⟩) 1 1) 1 (encB [x]) := ⟨rfl, encB_one _, .inr ⟨_, _, rfl, fun j u hj => by rw [Addr.add_lit, Nat.zero_add, (Whole.new _ _ _).cell]; simpa [encB] using hj⟩⟩
        have HX1 : Hid (Src (wc.alloc (.cells #[.int .u8 (x.toNat : Int)] 5)) 1 (.slice (some ⟨wc.heap.size, 0, none⟩) 1 1) 1 (encB [x])) := Lib.hid hX1
        clear hX1
        go_wp2_with (at_builtin; refine wpList_row rfl (.tmp 28) (.tmp 30) 22 rfl w.heap.size 5 j0 _ 1 1 Try.underlying22 Hj.out Hy0.out Hy1.out Hy2.out rfl (by decide) _ j _ rfl HO1.out _ 1 _ rfl HX1.out (by unfold maxLen; omega) (by omega) (by have := Hk.out.size; simp only [World.size_alloc]; omega) ?_; intro v2 w2 hr2 hg2 hn2; have hk2 : Kp (fun _ => False) w w2 := (Hk.out.alloc _).grown hg2 (fun i hi hlt => absurd (Hr.out.lt i hi).1 (by omega)); have Hr2 := Lib.hid hr2; have Hk2 := Lib.hid hk2; clear hr2 hg2 hn2 hk2)
        go_roundw
        case rel => exact ⟨j + 1, t ++ [x], by omega, by go_num, Lib.hid (by rw [List.length_append, Ht.out]; rfl), by rw [show encB (t ++ [x]) = encB t ++ encB [x] from List.map_append]; exact Hr2.out, Hk2.out⟩
        case measure => simp [intOf]; omega
    · obtain rfl : j = n := by omega
      go_wp2_with fail
      go_ret
      exact ⟨_, t, rfl, Ht.out, Hr.out, Hk.out⟩
end Go.Proofs.Ytbkpapdbidbhaaa
