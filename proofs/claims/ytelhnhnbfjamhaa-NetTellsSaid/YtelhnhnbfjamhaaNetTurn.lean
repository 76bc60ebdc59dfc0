/-
  Turn of a net.
-/
import Derived.Test.YtelhnhnbfjamhaaNetSwap
import Derived.Lib.ConvBytes
import Derived.Laws.IdiomStrings
import Derived.Test.YtelhnhnbfjamhaaByte
namespace Go.Proofs.Ytelhnhnbfjamhaa
open Go.RowKit

set_option maxRecDepth 100000 in
set_option maxHeartbeats 1000000 in
theorem net_turn_none {w : World} {g B : Nat} {A : Option Addr} {cap : Nat} {ps : List Pk} (h : NetAt w g B A cap ps) (k a y : Int) (hk : ¬ (0 ≤ k ∧ k < ps.length)) :
    Calls Try.prog 19 #[.pointer (some ⟨g, 0, none⟩), .int .i64 k, .int .i64 a, .int .u8 y] w fun e w' => e = .returned (.bool false) ∧ w' = w := by
  have hi := net_is h k
  rw [decide_eq_false hk] at hi
  have HI := Lib.hid hi
  clear h hk hi
  go_enter Try.func19, Try.ntmps19
  go_wp2_with fail
  refine (HI.out).mono ?_
  rintro e w1 ⟨rfl, rfl⟩
  go_wp2_with fail
  go_ret
  exact ⟨rfl, rfl⟩

set_option maxRecDepth 100000 in
set_option maxHeartbeats 1000000 in
theorem net_turn_out {w : World} {g B : Nat} {A : Option Addr} {cap : Nat} {ps : List Pk} (h : NetAt w g B A cap ps) (k : Nat) (p : Pk) (hk : ps[k]? = some p) (hs : p.2.size ≤ maxLen) (a y : Int) (ha : ¬ (0 ≤ a ∧ a < p.2.size)) :
    Calls Try.prog 19 #[.pointer (some ⟨g, 0, none⟩), .int .i64 k, .int .i64 a, .int .u8 y] w fun e w' => e = .returned (.bool false) ∧ w' = w := by
  have hkl : k < ps.length := (List.getElem?_eq_some_iff.1 hk).1
  have hf := h.few
  have c0 := h.cell.cell 0
  rw [show (#[Value.slice A ps.length cap] : Array Value)[0]? = some (.slice A ps.length cap) from rfl] at c0
  obtain ⟨b, rfl, hcells⟩ := own_some h.own (by omega)
  have e1 := hcells (k * 2 + 1) _ (pk1 hk)
  have hd : decide (0 ≤ (k : Int) ∧ (k : Int) < (ps.length : Int)) = true := by simpa using hkl
  have hi := net_is h k
  rw [hd] at hi
  have HI := Lib.hid hi
  obtain ⟨P1, P2⟩ := p
  dsimp only at *
  have hs' : P2.size ≤ 9223372036854775807 := hs
  have HC := Lib.hid hcells
  clear h hk hi hd hcells hs
  by_cases h0 : a < 0
  · clear ha
    go_enter Try.func19, Try.ntmps19
    go_wp2_with fail
    refine (HI.out).mono ?_
    rintro e w1 ⟨rfl, rfl⟩
    go_wp2_with fail
    go_ret
    exact ⟨rfl, rfl⟩
  · have h1 : ¬ a < P2.size := fun h => ha ⟨by omega, h⟩
    clear ha
    go_enter Try.func19, Try.ntmps19
    go_wp2_with fail
    refine (HI.out).mono ?_
    rintro e w1 ⟨rfl, rfl⟩
    go_wp2_with fail
    go_ret
    exact ⟨rfl, rfl⟩

theorem bytesWorld_frozen (w : World) (e : TypeId) (s : ByteArray) (j : Nat) (hj : j < s.size) : (Lib.bytesWorld w e s).frozen? ⟨w.heap.size, j, none⟩ = false := by
  have hz : s.size ≤ (Lib.bytesCells w e s).size := by simp [Lib.bytesCells]
  simp [World.frozen?, Lib.bytesWorld_at_new]
  try omega

/-- The bytes behind a store into one of them. -/
theorem turned_cells (w : World) (e : TypeId) (s : ByteArray) (a : Nat) (z : UInt8) (ha : a < s.size) (j : Nat) (hj : j < (turnS s a z).data.toList.length) :
    ((Lib.bytesWorld w e s).setCell ⟨w.heap.size, a, none⟩ (.int .u8 ((s.data.toList.getD a 0 ^^^ z).toNat : Int))).cell? ⟨w.heap.size, j, none⟩ = some (.int .u8 (((turnS s a z).data.toList[j]).toNat : Int)) := by
  have hjs : j < s.size := by
    have h := turnS_size s a z
    rw [Array.length_toList] at hj
    change (turnS s a z).size = s.size at h
    have : (turnS s a z).data.size = s.size := h
    omega
  have hjd : j < s.data.size := hjs
  have had : a < s.data.size := ha
  have hold := Lib.bytesWorld_cell w e s j hjs
  have holda := Lib.bytesWorld_cell w e s a ha
  have hl : (turnS s a z).data.toList[j] = if a = j then s.data.toList.getD j 0 ^^^ z else s.data.toList.getD j 0 := by
    simp only [turnS, Array.getElem_toList, Array.getElem_modify]
    have hg : s.data.toList.getD j 0 = s.data[j] := by simp [List.getD, Array.getElem?_eq_getElem hjd]
    rw [hg]
  rw [hl]
  by_cases haj : a = j
  · subst haj
    rw [if_pos rfl, World.cell?_setCell_same' _ _ _ (by rw [holda]; rfl)]
  · rw [if_neg haj, ← hold]
    apply World.cell?_setCell_other
    intro e
    exact haj (by cases e; rfl)
end Go.Proofs.Ytelhnhnbfjamhaa
