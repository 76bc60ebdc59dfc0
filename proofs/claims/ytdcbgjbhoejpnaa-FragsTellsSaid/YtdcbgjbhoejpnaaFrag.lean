/-
  frags: a whole of pieces: what it holds, New.
-/
import Derived.Test.YtdcbgjbhoejpnaaHead
import Derived.Test.YtdcbgjbhoejpnaaBytes
import Derived.Test.YtdcbgjbhoejpnaaSpanB
import Derived.Deep.OwnRows
import Derived.Laws.MakeOwn
namespace Go.Proofs.Ytdcbgjbhoejpnaa
open Go.RowKit

def zeros (n : Nat) : List UInt8 := List.replicate n 0
theorem made_by (n : Nat) : madeCells (Value.int .u8 0).cells n = (encB (zeros n)).toArray := by
  apply Array.ext_getElem?
  intro i
  simp only [madeCells, encB, zeros, List.getElem?_toArray, List.getElem?_map, Array.getElem?_map]
  by_cases hi : i < n
  · simp [hi, Value.cells, Nat.mod_one]
  · simp [hi]
theorem make_by (n : Nat) (hn : n ≤ 100000) (w : World) : (Instr.makeSlice 54 (.int .i64 (n : Int)) (.int .i64 (n : Int))).run Try.prog w = .ok (.slice (some ⟨w.heap.size, 0, none⟩) n n) (w.alloc (.cells (encB (zeros n)).toArray 5)) := by
  obtain ⟨i0, hi, hz0, hz1, hz2⟩ := info_parts infoB
  have hr := run_make (P := Try.prog) w 54 5 i0 _ Try.underlying54 hi hz0 .i64 .i64 n n (by omega) (by omega) (by rw [hz2]; omega) (by omega)
  rw [hz1] at hr
  simp only [Int.toNat_natCast, Nat.mul_one, made_by] at hr
  exact hr

/-- What lies in a whole's block. -/
def frC (v : Value) (id dl ct : Int) (n gb : Nat) : Array Value := #[v, .int .i64 id, .int .i64 dl, .int .i64 ct, .int .i64 0, .int .i64 (n : Int), .slice (some ⟨gb, 0, none⟩) n n]
/-- A whole: its head, the pieces that came, its bytes. -/
structure FrAt (w : World) (g gb : Nat) (id dl ct : Int) (n : Nat) (v : Value) (L : List Pr) (d : List UInt8) : Prop where
  cell : Whole w g 63 (frC v id dl ct n gb)
  src : Src w 2 v L.length (encs encP L)
  norm : NormL 8 L
  body : Whole w gb 5 (encB d).toArray
  len : d.length = n
  right : rightB id dl ct 0 (n : Int) = true
  ne : g ≠ gb
  far : ∀ k, v.ownBlock = some k → k ≠ g ∧ k ≠ gb
theorem FrAt.set {w : World} {g gb : Nat} {id dl ct : Int} {n : Nat} {v : Value} {L : List Pr} {d : List UInt8} (h : FrAt w g gb id dl ct n v L d) : SetIn w g 0 63 (frC v id dl ct n gb) v L := ⟨h.cell, rfl, h.src⟩
theorem FrAt.kp {S : Nat → Prop} {w w' : World} {g gb : Nat} {id dl ct : Int} {n : Nat} {v : Value} {L : List Pr} {d : List UInt8} (h : FrAt w g gb id dl ct n v L d) (hk : Kp S w w') (h1 : ¬ S g) (h2 : ¬ S gb) (h3 : ∀ k, v.ownBlock = some k → ¬ S k) : FrAt w' g gb id dl ct n v L d :=
  ⟨hk.whole h.cell h1, hk.src h.src h3, h.norm, hk.whole h.body h2, h.len, h.right, h.ne, h.far⟩
theorem FrAt.no {w w' : World} {g gb : Nat} {id dl ct : Int} {n : Nat} {v : Value} {L : List Pr} {d : List UInt8} (h : FrAt w g gb id dl ct n v L d) (hk : Kp (fun _ => False) w w') : FrAt w' g gb id dl ct n v L d := h.kp hk (fun h => h) (fun h => h) (fun _ _ h => h)
theorem rightB_iff {id dl ct ix sz : Int} : rightB id dl ct ix sz = true ↔ 0 ≤ id ∧ id < 40 ∧ 0 ≤ dl ∧ dl ≤ MostH ∧ 1 ≤ sz ∧ sz ≤ 600 ∧ ct = cntH sz ∧ 0 ≤ ix ∧ ix < ct := by unfold rightB; rw [decide_eq_true_iff]

theorem fr_made {w' : World} {g gb : Nat} {id dl ct : Int} {n : Nat} (hr : rightB id dl ct 0 (n : Int) = true) (h1 : Whole w' g 63 #[.slice none 0 0, .int .i64 id, .int .i64 dl, .int .i64 ct, .int .i64 0, .int .i64 (n : Int), .slice (some ⟨gb, 0, none⟩) n n]) (h2 : Whole w' gb 5 (encB (zeros n)).toArray) (hne : g ≠ gb) :
    FrAt w' g gb id dl ct n (.slice none 0 0) [] (zeros n) :=
  ⟨h1, (RowAt.nil w' 0 2).src (fun u hu => by cases hu), NormL.nil _, h2, by simp [zeros], hr, hne, fun k hk => by cases hk⟩

set_option maxRecDepth 100000 in
set_option maxHeartbeats 2000000 in
theorem new_any (id dl ct ix : Int) (n : Nat) (w : World) (hr : rightB id dl ct ix (n : Int) = true) :
    Calls Try.prog 26 #[.agg #[.int .i64 id, .int .i64 dl, .int .i64 ct, .int .i64 ix, .int .i64 (n : Int)]] w fun e w' => ∃ g gb, e = .returned (.pointer (some ⟨g, 0, none⟩)) ∧ FrAt w' g gb id dl ct n (.slice none 0 0) [] (zeros n) ∧ w.heap.size ≤ g ∧ w.heap.size ≤ gb ∧ Kp (fun _ => False) w w' := by
  have hw : Whole (w.alloc (.cells #[.int .i64 id, .int .i64 dl, .int .i64 ct, .int .i64 ix, .int .i64 (n : Int)] 49)) w.heap.size 49 #[.int .i64 id, .int .i64 dl, .int .i64 ct, .int .i64 ix, .int .i64 (n : Int)] := Whole.new _ _ _
  have hk : Kp (fun _ => False) w (w.alloc (.cells #[.int .i64 id, .int .i64 dl, .int .i64 ct, .int .i64 ix, .int .i64 (n : Int)] 49)) := (Kp.refl _ w).alloc _
  have HR := Lib.hid (right_any id dl ct ix (n : Int))
  rw [hr] at HR
  have hr0 := rightB_iff.1 hr
  have Hr0 := Lib.hid (show rightB id dl ct 0 (n : Int) = true from rightB_iff.2 (by omega))
  have hn : n ≤ 600 := by omega
  have hmk := fun w => make_by n (by omega) w
  clear hr hr0
  go_enter Try.func26, Try.ntmps26
  go_upto_region 1 with (fail)
  generalize w.alloc (.cells #[.int .i64 id, .int .i64 dl, .int .i64 ct, .int .i64 ix, .int .i64 (n : Int)] 49) = w1 at *
  have hl := hw.lt
  have c0 := hw.cell 0
  have c1 := hw.cell 1
  have c2 := hw.cell 2
  have c3 := hw.cell 3
  have c4 := hw.cell 4
  simp at c0 c1 c2 c3 c4
  have Hw := Lib.hid hw
  have Hk := Lib.hid hk
  have hwb : w.heap.size ≤ w.heap.size := Nat.le_refl _
  clear hw hk
  obtain ⟨b, hb⟩ : ∃ b, b = w.heap.size := ⟨_, rfl⟩
  rw [← hb] at hl c0 c1 c2 c3 c4 Hw
  rw [← hb]
  have hbw : w.heap.size ≤ b := by omega
  clear hb
  go_wp2_with fail
  with_reducible refine (HR.out _).mono ?_
  rintro e w2 ⟨rfl, hk2⟩
  have hw3 := (hk2.whole Hw.out (fun h => h)).set 3 (.int .i64 0)
  have hk3 := (Hk.out.trans hk2).set (p := ⟨b, 3, none⟩) (.inr hbw) (.int .i64 0)
  have hl2 := Nat.lt_of_lt_of_le hl hk2.size
  have c3' := (hk2.whole Hw.out (fun h => h)).cell 3
  have f3' := (hk2.whole Hw.out (fun h => h)).frozen 3
  simp at c3'
  clear c0 c1 c2 c3 c4 hk2
  go_upto_region 4 with (fail)
  generalize w2.setCell ⟨b, 3, none⟩ (.int .i64 0) = w3 at *
  have c0 := hw3.cell 0
  have c1 := hw3.cell 1
  have c2 := hw3.cell 2
  have c3 := hw3.cell 3
  have c4 := hw3.cell 4
  simp at c0 c1 c2 c3 c4
  have hb3 := hw3.lt
  have hs3 := hk3.size
  have Hk3 := Lib.hid hk3
  clear hk3 hw3 c3' f3'
  go_region_held3 (fun w' => w'.cell? ⟨b, 0, none⟩ = some (.int .i64 id) ∧ w'.cell? ⟨b, 1, none⟩ = some (.int .i64 dl) ∧ w'.cell? ⟨b, 2, none⟩ = some (.int .i64 ct) ∧ w'.cell? ⟨b, 3, none⟩ = some (.int .i64 0) ∧ w'.cell? ⟨b, 4, none⟩ = some (.int .i64 (n : Int))) (go_keep) (fail)
  all_goals
    go_wp2_with fail
    go_ret
    exact ⟨w3.heap.size + 1, w3.heap.size, rfl, fr_made Hr0.out (whole_at _ _ rfl (by simp)).drew ((Whole.new _ _ _).alloc _).drew (by omega), by omega, by omega, ((Hk3.out.alloc _).alloc _).drew⟩

set_option maxRecDepth 100000 in
theorem new_no (id dl ct ix sz : Int) (w : World) (hr : rightB id dl ct ix sz = false) :
    Calls Try.prog 26 #[.agg #[.int .i64 id, .int .i64 dl, .int .i64 ct, .int .i64 ix, .int .i64 sz]] w fun e w' => e = .returned (.pointer none) ∧ Kp (fun _ => False) w w' := by
  have hw : Whole (w.alloc (.cells #[.int .i64 id, .int .i64 dl, .int .i64 ct, .int .i64 ix, .int .i64 sz] 49)) w.heap.size 49 #[.int .i64 id, .int .i64 dl, .int .i64 ct, .int .i64 ix, .int .i64 sz] := Whole.new _ _ _
  have hk : Kp (fun _ => False) w (w.alloc (.cells #[.int .i64 id, .int .i64 dl, .int .i64 ct, .int .i64 ix, .int .i64 sz] 49)) := (Kp.refl _ w).alloc _
  have HR := Lib.hid (right_any id dl ct ix sz)
  rw [hr] at HR
  clear hr
  go_enter Try.func26, Try.ntmps26
  go_upto_region 1 with (fail)
  generalize w.alloc (.cells #[.int .i64 id, .int .i64 dl, .int .i64 ct, .int .i64 ix, .int .i64 sz] 49) = w1 at *
  have hl := hw.lt
  have c0 := hw.cell 0
  have c1 := hw.cell 1
  have c2 := hw.cell 2
  have c3 := hw.cell 3
  have c4 := hw.cell 4
  simp at c0 c1 c2 c3 c4
  have Hk := Lib.hid hk
  clear hw hk
  generalize w.heap.size = b at *
  go_wp2_with fail
  with_reducible refine (HR.out _).mono ?_
  rintro e w2 ⟨rfl, hk2⟩
  have Hk2 := Lib.hid (Hk.out.trans hk2)
  clear hk2
  go_wp2_with fail
  go_ret
  exact ⟨rfl, Hk2.out⟩
end Go.Proofs.Ytdcbgjbhoejpnaa
