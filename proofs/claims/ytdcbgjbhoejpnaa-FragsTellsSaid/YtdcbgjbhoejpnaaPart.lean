/-
  head.Part.
-/
import Derived.Test.YtdcbgjbhoejpnaaHead2
import Derived.Test.YtdcbgjbhoejpnaaPair
namespace Go.Proofs.Ytdcbgjbhoejpnaa
open Go.RowKit

/-- The piece k of a message. -/
def pieceD (d : List UInt8) (k m : Nat) : List UInt8 := (d.drop (k * 80)).take m
theorem pieceD_len {d : List UInt8} {k m : Nat} (h : k * 80 + m ≤ d.length) : (pieceD d k m).length = m := by simp [pieceD]; omega
theorem pieceD_get {d : List UInt8} {k m j : Nat} (hj : j < m) : (encB (pieceD d k m))[j]? = (encB d)[k * 80 + j]? := by
  simp only [encB, pieceD, List.getElem?_map, List.getElem?_take, List.getElem?_drop]
  rw [if_pos hj]

set_option maxRecDepth 100000 in
set_option maxHeartbeats 1000000 in
theorem part_yes {id dl ct : Int} {k n m : Nat} {w : World} (hr : rightB id dl ct (k : Int) (n : Int) = true) {A : Option Addr} {c : Nat} {d : List UInt8} (hb : Src w 1 (.slice A n c) n (encB d)) (hnc : n ≤ c) (_hcm : c ≤ maxLen) (hm : m = min 80 (n - k * 80)) :
    Calls Try.prog 40 #[.agg #[.int .i64 id, .int .i64 dl, .int .i64 ct, .int .i64 (k : Int), .int .i64 (n : Int)], .slice A n c] w fun e w' => ∃ A', e = .returned (.slice A' m m) ∧ RowAt w' w.heap.size 1 (.slice A' m m) m (encB (pieceD d k m)) ∧ Kp (fun _ => False) w w' := by
  have hr0 := rightB_iff0.1 hr
  have hct := hr0.2.2.2.2.2.2.1
  unfold cntH at hct
  have hn : n ≤ 600 := by omega
  have hk : k < 8 := by omega
  have hkn : k * 80 < n := by omega
  have hm1 : 1 ≤ m := by omega
  have hmn : k * 80 + m ≤ n := by omega
  have hto : min (k * 80 + 80) n = k * 80 + m := by omega
  have hdl : d.length = n := by have := hb.1; simpa [encB] using this
  have hw : Whole (w.alloc (.cells #[.int .i64 id, .int .i64 dl, .int .i64 ct, .int .i64 (k : Int), .int .i64 (n : Int)] 49)) w.heap.size 49 #[.int .i64 id, .int .i64 dl, .int .i64 ct, .int .i64 (k : Int), .int .i64 (n : Int)] := Whole.new _ _ _
  have hka : Kp (fun _ => False) w (w.alloc (.cells #[.int .i64 id, .int .i64 dl, .int .i64 ct, .int .i64 (k : Int), .int .i64 (n : Int)] 49)) := (Kp.refl _ w).alloc _
  have hb2 := hka.src hb (fun _ _ h => h)
  have HR := Lib.hid (right_any id dl ct (k : Int) (n : Int))
  rw [hr] at HR
  have HB := Lib.hid (fun w => bounds_any id dl ct k n w (by omega) hn)
  rw [hto] at HB
  have Hdl := Lib.hid hdl
  clear hr hr0 hct hm hto hdl hb
  go_enter Try.func40, Try.ntmps40
  go_upto_region 1 with (fail)
  generalize w.alloc (.cells #[.int .i64 id, .int .i64 dl, .int .i64 ct, .int .i64 (k : Int), .int .i64 (n : Int)] 49) = w1 at *
  have hl := hw.lt
  have c0 := hw.cell 0
  have c1 := hw.cell 1
  have c2 := hw.cell 2
  have c3 := hw.cell 3
  have c4 := hw.cell 4
  simp at c0 c1 c2 c3 c4
  have Hw := Lib.hid hw
  have Hk := Lib.hid hka
  have Hb := Lib.hid hb2
  clear hw hka hb2
  generalize w.heap.size = b at *
  go_wp2_with fail
  with_reducible refine (HR.out _).mono ?_
  rintro e w2 ⟨rfl, hk2⟩
  have hw2 := hk2.whole Hw.out (fun h => h)
  have d0 := hw2.cell 0
  have d1 := hw2.cell 1
  have d2 := hw2.cell 2
  have d3 := hw2.cell 3
  have d4 := hw2.cell 4
  have hl2 := hw2.lt
  simp at d0 d1 d2 d3 d4
  have Hk2 := Lib.hid (Hk.out.trans hk2)
  have Hb2 := Lib.hid (hk2.src Hb.out (fun _ _ h => h))
  clear hk2 hw2 c0 c1 c2 c3 c4 Hk Hb
  go_wp2_with fail
  with_reducible refine (HB.out _).mono ?_
  rintro e w3 ⟨rfl, hk3⟩
  have hb3 := hk3.src Hb2.out (fun _ _ h => h)
  obtain ⟨pb, poff, pc, hpv, hpb, hpc⟩ := Src.wide hb3 (by omega) (by omega)
  cases hpv
  have hck : ¬ c = k * 80 := by omega
  have hb5 : Bs w3 (.slice (some ⟨pb, poff + k * 80, none⟩) (pieceD d k m).length (c - k * 80)) (pieceD d k m) := by
    refine ⟨by simp [encB], encB_one _, .inr ⟨_, _, rfl, fun j u hj => ?_⟩⟩
    have hjm : j < m := by
      have := (List.getElem?_eq_some_iff.1 hj).1
      rw [encB_len, pieceD_len (by rw [Hdl.out]; omega)] at this
      exact this
    rw [pieceD_get hjm] at hj
    rw [Addr.add_lit, Nat.add_assoc]
    exact hpc _ u hj
  have hcl := clone_b hb5 (by rw [pieceD_len (by rw [Hdl.out]; omega)]; omega)
  rw [pieceD_len (by rw [Hdl.out]; omega)] at hcl
  have Hcl := Lib.hid hcl
  have Hk3 := Lib.hid (Hk2.out.trans hk3)
  have q1 : (k * 80 + m) - k * 80 = m := by omega
  clear hb3 hpc hb5 hcl hk3 Hk2 Hb2 d0 d1 d2 d3 d4
  go_upto_region 4 with (fail)
  go_wp2_with fail
  with_reducible refine (Hcl.out).mono ?_
  rintro e w4 ⟨A', cap', rfl, hrw, hk4⟩
  have hcl := own_le hrw
  have hr2 := RowAt.of_own hrw
  have Hcp := Lib.hid (clip_b (w := w4) hcl (own_addr hrw))
  have Hr2 := Lib.hid ((RowAt.clip hr2).base Hk3.out.size)
  have Hk4 := Lib.hid (Hk3.out.trans hk4)
  clear hrw hr2 hk4 hcl Hk3 Hcl q1 hck
  go_wp2_with fail
  with_reducible refine (Hcp.out).mono ?_
  rintro e w5 ⟨rfl, rfl⟩
  go_wp2_with fail
  go_ret
  exact ⟨A', rfl, Hr2.out, Hk4.out⟩
end Go.Proofs.Ytdcbgjbhoejpnaa
