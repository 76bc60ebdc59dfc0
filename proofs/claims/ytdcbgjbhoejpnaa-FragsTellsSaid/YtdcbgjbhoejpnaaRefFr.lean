/-
  argosyref18's Whole: what it holds; NewWhole, Full.
-/
import Derived.Test.YtdcbgjbhoejpnaaHand
import Derived.Test.YtdcbgjbhoejpnaaFragP
namespace Go.Proofs.Ytdcbgjbhoejpnaa
open Go.RowKit

/-- What lies in the reference's block. -/
def rwL (id dl ct : Int) (n : Nat) (bs : List Bool) (d : List UInt8) : List Value := [.int .i64 id, .int .i64 dl, .int .i64 ct, .int .i64 0, .int .i64 (n : Int)] ++ (bs.map Value.bool ++ encB d)
def rwC (id dl ct : Int) (n : Nat) (bs : List Bool) (d : List UInt8) : Array Value := (rwL id dl ct n bs d).toArray
theorem zeroW (w : World) : (zeroValue 67).run Try.prog w = .ok (.agg (rwC 0 0 0 0 (List.replicate 8 false) (zeros 600))) w := by
  have h : (Try.prog.info? 67).map (·.zero) = some (some (.agg (rwC 0 0 0 0 (List.replicate 8 false) (zeros 600)))) := by kernel_rfl
  cases hi : Try.prog.info? 67 with
  | none => rw [hi] at h; cases h
  | some i =>
    rw [hi] at h
    have hz : i.zero = some (.agg (rwC 0 0 0 0 (List.replicate 8 false) (zeros 600))) := Option.some.inj h
    simp [zeroValue, typeInfo, hi, hz]

structure RwAt (w : World) (r : Nat) (id dl ct : Int) (n : Nat) (bs : List Bool) (d : List UInt8) : Prop where
  cell : Whole w r 67 (rwC id dl ct n bs d)
  bl : bs.length = 8
  dl6 : d.length = 600
section
variable {w : World} {r n : Nat} {id dl ct : Int} {bs : List Bool} {d : List UInt8}
theorem rw_h (bs : List Bool) (d : List UInt8) : (rwC id dl ct n bs d)[0]? = some (.int .i64 id) ∧ (rwC id dl ct n bs d)[1]? = some (.int .i64 dl) ∧ (rwC id dl ct n bs d)[2]? = some (.int .i64 ct) ∧ (rwC id dl ct n bs d)[3]? = some (.int .i64 0) ∧ (rwC id dl ct n bs d)[4]? = some (.int .i64 (n : Int)) := by
  simp [rwC, rwL]
theorem rw_c (hb : bs.length = 8) (k : Nat) (hk : k < 8) : (rwC id dl ct n bs d)[5 + k]? = (bs[k]?).map Value.bool := by
  unfold rwC rwL
  rw [List.getElem?_toArray, List.getElem?_append_right (by simp), List.getElem?_append_left (by simp; omega)]
  simp
theorem rw_b (hb : bs.length = 8) (j : Nat) : (rwC id dl ct n bs d)[13 + j]? = (encB d)[j]? := by
  unfold rwC rwL
  rw [List.getElem?_toArray, List.getElem?_append_right (by simp; omega), List.getElem?_append_right (by simp; omega)]
  congr 1
  simp [hb]
  omega
theorem rw_setc (hb : bs.length = 8) (k : Nat) (hk : k < 8) (x : Bool) : (rwC id dl ct n bs d).setIfInBounds (5 + k) (.bool x) = rwC id dl ct n (bs.set k x) d := by
  unfold rwC rwL
  rw [List.setIfInBounds_toArray, List.set_append_right _ _ (by simp), List.set_append_left _ _ (by simp; omega), List.map_set]
  simp
theorem rw_setb (hb : bs.length = 8) (j : Nat) (x : UInt8) : (rwC id dl ct n bs d).setIfInBounds (13 + j) (.int .u8 (x.toNat : Int)) = rwC id dl ct n bs (d.set j x) := by
  unfold rwC rwL
  rw [List.setIfInBounds_toArray, List.set_append_right _ _ (by simp; omega), List.set_append_right _ _ (by simp; omega)]
  simp only [encB, List.map_set, List.length_map, hb, List.length_cons, List.length_nil]
  rw [show 13 + j - (0 + 1 + 1 + 1 + 1 + 1) - 8 = j by omega]
end

set_option maxRecDepth 100000 in
set_option maxHeartbeats 2000000 in
theorem rnew_any (id dl ct ix : Int) (n : Nat) (w : World) (hr : rightB id dl ct ix (n : Int) = true) :
    Calls Try.prog 32 #[.agg #[.int .i64 id, .int .i64 dl, .int .i64 ct, .int .i64 ix, .int .i64 (n : Int)]] w fun e w' => ∃ r, e = .returned (.pointer (some ⟨r, 0, none⟩)) ∧ RwAt w' r id dl ct n (List.replicate 8 false) (zeros 600) ∧ w.heap.size ≤ r ∧ Kp (fun _ => False) w w' := by
  have hw : Whole (w.alloc (.cells #[.int .i64 id, .int .i64 dl, .int .i64 ct, .int .i64 ix, .int .i64 (n : Int)] 49)) w.heap.size 49 #[.int .i64 id, .int .i64 dl, .int .i64 ct, .int .i64 ix, .int .i64 (n : Int)] := Whole.new _ _ _
  have hk : Kp (fun _ => False) w (w.alloc (.cells #[.int .i64 id, .int .i64 dl, .int .i64 ct, .int .i64 ix, .int .i64 (n : Int)] 49)) := (Kp.refl _ w).alloc _
  have HR := Lib.hid (rright_any id dl ct ix (n : Int))
  rw [hr] at HR
  have hzw := fun w => zeroW w
  clear hr
  go_enter Try.func32, Try.ntmps32
  go_upto_region 1 with (fail)
  generalize w.alloc (.cells #[.int .i64 id, .int .i64 dl, .int .i64 ct, .int .i64 ix, .int .i64 (n : Int)] 49) = w1 at *
  have hl := hw.lt
  have c0 := hw.cell 0
  have c1 := hw.cell 1
  have c2 := hw.cell 2
  have c3 := hw.cell 3
  have c4 := hw.cell 4
  simp at c0 c1 c2 c3 c4
  have Hw := Lib.hid hw
  have Hk := Lib.hid hk
  clear hw hk
  obtain ⟨b, hb⟩ : ∃ b, b = w.heap.size := ⟨_, rfl⟩
  rw [← hb] at hl c0 c1 c2 c3 c4 Hw
  rw [← hb]
  have hbw : w.heap.size ≤ b := by omega
  clear hb
  go_wp2_with fail
  with_reducible refine (HR.out _).mono ?_
  rintro e w2 ⟨rfl, hk2⟩
  have hw2 := hk2.whole Hw.out (fun h => h)
  have hw3 := hw2.set 3 (.int .i64 0)
  have hk3 := (Hk.out.trans hk2).set (p := ⟨b, 3, none⟩) (.inr hbw) (.int .i64 0)
  have c3' := hw2.cell 3
  have f3' := hw2.frozen 3
  have hl2 := hw2.lt
  simp at c3'
  clear c0 c1 c2 c3 c4 hk2
  go_upto_region 4 with (fail)
  generalize w2.setCell ⟨b, 3, none⟩ (.int .i64 0) = w3 at *
  have c0 := hw3.cell 0
  have c1 := hw3.cell 1
  have c2 := hw3.cell 2
  have c3 := hw3.cell 3
  have c4 := hw3.cell 4
  simp at c0 c1 c2 c3 c4
  have hb3 := hw3.lt
  have hs3 := hk3.size
  have Hk3 := Lib.hid hk3
  clear hk3 hw3 c3' f3' hw2
  have hch : ∀ bs, (((((rwC 0 0 0 0 bs (zeros 600)).setIfInBounds 0 (.int .i64 id)).setIfInBounds 1 (.int .i64 dl)).setIfInBounds 2 (.int .i64 ct)).setIfInBounds 3 (.int .i64 0)).setIfInBounds 4 (.int .i64 (n : Int)) = rwC id dl ct n bs (zeros 600) := fun bs => by
    simp only [rwC, rwL, List.setIfInBounds_toArray, List.cons_append, List.nil_append, List.set_cons_zero, List.set_cons_succ]
  go_wp2_with fail
  go_ret
  refine ⟨w3.heap.size, rfl, ⟨?_, List.length_replicate .., List.length_replicate ..⟩, hs3, Hk3.out.alloc _⟩
  clear HR hzw
  have hch2 := (hch (List.replicate 8 false)).symm
  clear hch
  rw [hch2]
  exact Whole.new _ _ _
end Go.Proofs.Ytdcbgjbhoejpnaa
