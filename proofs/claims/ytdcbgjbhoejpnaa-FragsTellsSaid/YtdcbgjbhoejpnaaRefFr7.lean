/-
  argosyref18's Whole: Put of a piece that did not come yet. (printed by src/gen_XRefFr7.py)
-/
import Derived.Test.YtdcbgjbhoejpnaaRefFr6
namespace Go.Proofs.Ytdcbgjbhoejpnaa
open Go.RowKit

theorem putD_snoc {d p : List UInt8} {fr i : Nat} {x : UInt8} (hx : p[i]? = some x) (h : fr + p.length ≤ d.length) : (putD d fr (p.take i)).set (fr + i) x = putD d fr (p.take (i + 1)) := by
  have hi : i < p.length := (List.getElem?_eq_some_iff.1 hx).1
  have h1 : (p.take i).length = i := by rw [List.length_take]; omega
  have h2 : (p.take (i + 1)).length = i + 1 := by rw [List.length_take]; omega
  apply List.ext_getElem?
  intro j
  rw [List.getElem?_set, putD_len (by rw [h1]; omega), putD_get (by rw [h1]; omega), putD_get (by rw [h2]; omega), h1, h2, List.getElem?_take, List.getElem?_take]
  by_cases e : fr + i = j
  · subst e
    rw [if_pos rfl, if_pos (by omega), if_pos (by omega), if_pos (by omega), Nat.add_sub_cancel_left, hx]
  · rw [if_neg e]
    by_cases e1 : fr ≤ j ∧ j < fr + i
    · rw [if_pos e1, if_pos (by omega), if_pos (by omega), if_pos (by omega)]
    · rw [if_neg e1, if_neg (by omega)]
theorem putD_nil {d : List UInt8} {fr : Nat} (h : fr ≤ d.length) : putD d fr [] = d := by simp [putD]

set_option maxRecDepth 100000 in
set_option maxHeartbeats 4000000 in
theorem rput_new {w : World} {r n : Nat} {id dl ct : Int} {bs : List Bool} {d : List UInt8} (h : RwAt w r id dl ct n bs d) (k : Nat) (hr : rightB id dl ct (k : Int) (n : Int) = true) (A : Option Addr) (m c : Nat) (hm6 : m ≤ 1000000) (hmm : m = min 80 (n - k * 80)) (p : List UInt8) (hp : Src w 1 (.slice A m c) m (encB p)) (hpr : ∀ j, (Value.slice A m c).ownBlock = some j → j ≠ r) (hb : bs[k]? = some false) :
    Calls Try.prog 36 #[.pointer (some ⟨r, 0, none⟩), .agg #[.int .i64 id, .int .i64 dl, .int .i64 ct, .int .i64 (k : Int), .int .i64 (n : Int)], .slice A m c] w fun e w' => e = .returned (.bool true) ∧ RwAt w' r id dl ct n (bs.set k true) (putD d (k * 80) p) ∧ Kp (fun k => k = r) w w' := by
  have hm1 : 1 ≤ m := by
    have hr0 := rightB_iff0.1 hr
    have hct := hr0.2.2.2.2.2.2.1
    unfold cntH at hct
    omega
  have hpl : p.length = m := by have := hp.1; rw [encB_len] at this; omega
  obtain ⟨pb, poff, pc, hpv, hpb, hpc⟩ := Src.wide hp (by omega) (by omega)
  cases hpv
  have hpr2 : pb ≠ r := hpr pb rfl
  have Hpc := Lib.hid hpc
  have Hpl := Lib.hid hpl
  clear hpc hpr hp hpl
  have hrb := h.cell.lt
  have hr0 := rightB_iff0.1 hr
  have hct := hr0.2.2.2.2.2.2.1
  unfold cntH at hct
  have hn : n ≤ 600 := by omega
  have hk8 : k < 8 := by omega
  have hkn : k * 80 < n := by omega
  obtain ⟨fr, hfr⟩ : ∃ fr, fr = k * 80 := ⟨_, rfl⟩
  obtain ⟨tt, hto⟩ : ∃ tt, tt = min (k * 80 + 80) n := ⟨_, rfl⟩
  have htf : tt = fr + m := by omega
  have hto6 : tt ≤ 600 := by omega
  have HB := Lib.hid (fun w => rbounds_any id dl ct k n w (by omega) hn)
  rw [← hto, ← hfr] at HB
  have q1 : IntKind.i64.wrap ((tt : Int) - (fr : Int)) = (m : Int) := by rw [IntWalk.i64_in _ (by omega)]; omega
  have Hx := Lib.hid (show fr = k * 80 ∧ tt = fr + m ∧ tt ≤ 600 ∧ k < 8 ∧ fr < n ∧ n ≤ 600 ∧ tt ≤ n from by omega)
  have hw : Whole (w.alloc (.cells #[.int .i64 id, .int .i64 dl, .int .i64 ct, .int .i64 (k : Int), .int .i64 (n : Int)] 49)) w.heap.size 49 #[.int .i64 id, .int .i64 dl, .int .i64 ct, .int .i64 (k : Int), .int .i64 (n : Int)] := Whole.new _ _ _
  have hka : Kp (fun _ => False) w (w.alloc (.cells #[.int .i64 id, .int .i64 dl, .int .i64 ct, .int .i64 (k : Int), .int .i64 (n : Int)] 49)) := (Kp.refl _ w).alloc _
  have hR := rright_any id dl ct (k : Int) (n : Int)
  rw [hr] at hR
  have HR := Lib.hid hR
  have H := Lib.hid h
  clear hmm hR hr hr0 hct hn hk8 hkn hfr hto htf hto6
  have hr1 := hka.whole h.cell (fun h => h)
  go_enter Try.func36, Try.ntmps36
  go_upto_region 1 with (fail)
  generalize w.alloc (.cells #[.int .i64 id, .int .i64 dl, .int .i64 ct, .int .i64 (k : Int), .int .i64 (n : Int)] 49) = w1 at *
  have hlr := hr1.lt
  have hlb := hw.lt
  have HS : Hid (∀ w', Kp (fun _ => False) w1 w' → w'.cell? ⟨w.heap.size, 0, none⟩ = some (.int .i64 id) ∧ w'.cell? ⟨w.heap.size, 1, none⟩ = some (.int .i64 dl) ∧ w'.cell? ⟨w.heap.size, 2, none⟩ = some (.int .i64 ct) ∧ w'.cell? ⟨w.heap.size, 3, none⟩ = some (.int .i64 (k : Int)) ∧ w'.cell? ⟨w.heap.size, 4, none⟩ = some (.int .i64 (n : Int)) ∧ w'.cell? ⟨r, 0, none⟩ = some (.int .i64 id) ∧ w'.cell? ⟨r, 1, none⟩ = some (.int .i64 dl) ∧ w'.cell? ⟨r, 4, none⟩ = some (.int .i64 (n : Int)) ∧ Kp (fun _ => False) w1 w') := Lib.hid (put_cells (b := w.heap.size) hw hr1)
  have Hk := Lib.hid hka
  have hpb1 : pb < w1.heap.size := Nat.lt_of_lt_of_le hpb hka.size
  have Hpc1 : Hid (∀ j u, (encB p)[j]? = some u → w1.cell? ⟨pb, poff + j, none⟩ = some u) := Lib.hid (fun j u hj => (hka.cell (p := ⟨pb, poff + j, none⟩) hpb (fun h => h)).trans (Hpc.out j u hj))
  have Hrw := Lib.hid hr1
  have Hbx := Lib.hid hw
  clear hw hka hr1 h
  generalize w.heap.size = b at *
  refine wp_region_held_drew (S := (fun w' => w'.cell? ⟨b, 0, none⟩ = some (.int .i64 id) ∧ w'.cell? ⟨b, 1, none⟩ = some (.int .i64 dl) ∧ w'.cell? ⟨b, 2, none⟩ = some (.int .i64 ct) ∧ w'.cell? ⟨b, 3, none⟩ = some (.int .i64 (k : Int)) ∧ w'.cell? ⟨b, 4, none⟩ = some (.int .i64 (n : Int)) ∧ w'.cell? ⟨r, 0, none⟩ = some (.int .i64 id) ∧ w'.cell? ⟨r, 1, none⟩ = some (.int .i64 dl) ∧ w'.cell? ⟨r, 4, none⟩ = some (.int .i64 (n : Int)) ∧ Kp (fun _ => False) w1 w')) (by kernel_rfl) (HS.out _ ((Kp.refl (fun _ => False) w1).drew)) (fun hHeld => ?_)
  refine wpAnyH_take (i := 0) (oi := { dst := some 10, op := Op.load 49 (.tmp 4), type := _, pos := _, after := _, guard := _ }) (v := ?_) rfl (by kernel_rfl) (by kernel_rfl) (by kernel_rfl) (fun _ _ _ h => h) (Or.inl ⟨by rfl, ?_⟩) hHeld ?_
  rotate_left
  · intro w99 hSw
    first | (go_simp; done) | (go_simp; with_reducible rfl)
  try simp only [Act.put, List.setIfInBounds_toArray, List.set_cons_zero, List.set_cons_succ]
  refine wpAnyH_ready (rs := [1]) (by kernel_rfl) (by simp) (AllReadyH.cons (o := { dst := some 11, op := Op.call { callee := Callee.value (Operand.func 51), args := #[(.tmp 10)], argTypes := #[49] }, type := _, pos := _, after := _, guard := _ }) rfl (fun K hK => ?_) AllReadyH.nil)
  go_simp
  with_reducible refine (HR.out _).mono ?_
  rintro e w' ⟨rfl, hkh⟩
  go_wp2_with fail
  have hx9 := HS.out _ (hHeld.2.2.2.2.2.2.2.2.trans hkh)
  refine hK.out _ _ hx9 (fun _ => ?_)
  clear hK hHeld
  have hHeld := hx9
  clear hx9
  clear hkh
  generalize w' = wd1 at *
  try simp only [Act.put, List.setIfInBounds_toArray, List.set_cons_zero, List.set_cons_succ]
  refine wpAnyH_take (i := 2) (oi := { dst := some 12, op := Op.unOp UnOp.not 4 (.tmp 11), type := _, pos := _, after := _, guard := _ }) (v := ?_) rfl (by kernel_rfl) (by kernel_rfl) (by kernel_rfl) (fun _ _ _ h => h) (Or.inl ⟨by rfl, ?_⟩) hHeld ?_
  rotate_left
  · intro w99 hSw
    first | (go_simp; done) | (go_simp; with_reducible rfl)
  try simp only [Act.put, List.setIfInBounds_toArray, List.set_cons_zero, List.set_cons_succ]
  refine wpAnyH_take (i := 3) (oi := { dst := some 13, op := Op.move (.tmp 12), type := _, pos := _, after := _, guard := _ }) (v := ?_) rfl (by kernel_rfl) (by kernel_rfl) (by kernel_rfl) (fun _ _ _ h => h) (Or.inl ⟨by rfl, ?_⟩) hHeld ?_
  rotate_left
  · intro w99 hSw
    first | (go_simp; done) | (go_simp; with_reducible rfl)
  try simp only [Act.put, List.setIfInBounds_toArray, List.set_cons_zero, List.set_cons_succ]
  refine wpAnyH_take (i := 4) (oi := { dst := some 14, op := Op.fieldAddr 49 (.tmp 4) 0, type := _, pos := _, after := _, guard := _ }) (v := ?_) rfl (by kernel_rfl) (by kernel_rfl) (by kernel_rfl) (fun _ _ _ h => h) (Or.inl ⟨by rfl, ?_⟩) hHeld ?_
  rotate_left
  · intro w99 hSw
    first | (go_simp; done) | (go_simp; with_reducible rfl)
  try simp only [Act.put, List.setIfInBounds_toArray, List.set_cons_zero, List.set_cons_succ]
  refine wpAnyH_take (i := 5) (oi := { dst := some 15, op := Op.load 3 (.tmp 14), type := _, pos := _, after := _, guard := _ }) (v := ?_) rfl (by kernel_rfl) (by kernel_rfl) (by kernel_rfl) (fun _ _ _ h => h) (Or.inl ⟨by rfl, ?_⟩) hHeld ?_
  rotate_left
  · intro w99 hSw
    first | (go_simp; done) | (go_simp; with_reducible rfl)
  try simp only [Act.put, List.setIfInBounds_toArray, List.set_cons_zero, List.set_cons_succ]
  refine wpAnyH_take (i := 6) (oi := { dst := some 16, op := Op.move (.tmp 0), type := _, pos := _, after := _, guard := _ }) (v := ?_) rfl (by kernel_rfl) (by kernel_rfl) (by kernel_rfl) (fun _ _ _ h => h) (Or.inl ⟨by rfl, ?_⟩) hHeld ?_
  rotate_left
  · intro w99 hSw
    first | (go_simp; done) | (go_simp; with_reducible rfl)
  try simp only [Act.put, List.setIfInBounds_toArray, List.set_cons_zero, List.set_cons_succ]
  refine wpAnyH_take (i := 7) (oi := { dst := some 17, op := Op.nilCheck (.tmp 16), type := _, pos := _, after := _, guard := _ }) (v := ?_) rfl (by kernel_rfl) (by kernel_rfl) (by kernel_rfl) (fun _ _ _ h => h) (Or.inl ⟨by rfl, ?_⟩) hHeld ?_
  rotate_left
  · intro w99 hSw
    first | (go_simp; done) | (go_simp; with_reducible rfl)
  try simp only [Act.put, List.setIfInBounds_toArray, List.set_cons_zero, List.set_cons_succ]
  refine wpAnyH_take (i := 8) (oi := { dst := some 18, op := Op.fieldAddr 67 (.tmp 17) 0, type := _, pos := _, after := _, guard := _ }) (v := ?_) rfl (by kernel_rfl) (by kernel_rfl) (by kernel_rfl) (fun _ _ _ h => h) (Or.inl ⟨by rfl, ?_⟩) hHeld ?_
  rotate_left
  · intro w99 hSw
    first | (go_simp; done) | (go_simp; with_reducible rfl)
  try simp only [Act.put, List.setIfInBounds_toArray, List.set_cons_zero, List.set_cons_succ]
  refine wpAnyH_take (i := 9) (oi := { dst := some 19, op := Op.fieldAddr 49 (.tmp 18) 0, type := _, pos := _, after := _, guard := _ }) (v := ?_) rfl (by kernel_rfl) (by kernel_rfl) (by kernel_rfl) (fun _ _ _ h => h) (Or.inl ⟨by rfl, ?_⟩) hHeld ?_
  rotate_left
  · intro w99 hSw
    first | (go_simp; done) | (go_simp; with_reducible rfl)
  try simp only [Act.put, List.setIfInBounds_toArray, List.set_cons_zero, List.set_cons_succ]
  refine wpAnyH_take (i := 10) (oi := { dst := some 20, op := Op.load 3 (.tmp 19), type := _, pos := _, after := _, guard := _ }) (v := ?_) rfl (by kernel_rfl) (by kernel_rfl) (by kernel_rfl) (fun _ _ _ h => h) (Or.inl ⟨by rfl, ?_⟩) hHeld ?_
  rotate_left
  · intro w99 hSw
    first | (go_simp; done) | (go_simp; with_reducible rfl)
  try simp only [Act.put, List.setIfInBounds_toArray, List.set_cons_zero, List.set_cons_succ]
  refine wpAnyH_take (i := 11) (oi := { dst := some 21, op := Op.binOp BinOp.neq 3 (.tmp 15) (.tmp 20) 3, type := _, pos := _, after := _, guard := _ }) (v := ?_) rfl (by kernel_rfl) (by kernel_rfl) (by kernel_rfl) (fun _ _ _ h => h) (Or.inl ⟨by rfl, ?_⟩) hHeld ?_
  rotate_left
  · intro w99 hSw
    first | (go_simp; done) | (go_simp; with_reducible rfl)
  try simp only [Act.put, List.setIfInBounds_toArray, List.set_cons_zero, List.set_cons_succ]
  refine wpAnyH_take (i := 12) (oi := { dst := some 22, op := Op.pick (.tmp 13) (.const (Value.bool true)) (.tmp 21), type := _, pos := _, after := _, guard := _ }) (v := ?_) rfl (by kernel_rfl) (by kernel_rfl) (by kernel_rfl) (fun _ _ _ h => h) (Or.inl ⟨by rfl, ?_⟩) hHeld ?_
  rotate_left
  · intro w99 hSw
    first | (go_simp; done) | (go_simp; with_reducible rfl)
  try simp only [Act.put, List.setIfInBounds_toArray, List.set_cons_zero, List.set_cons_succ]
  refine wpAnyH_take (i := 13) (oi := { dst := some 23, op := Op.move (.tmp 22), type := _, pos := _, after := _, guard := _ }) (v := ?_) rfl (by kernel_rfl) (by kernel_rfl) (by kernel_rfl) (fun _ _ _ h => h) (Or.inl ⟨by rfl, ?_⟩) hHeld ?_
  rotate_left
  · intro w99 hSw
    first | (go_simp; done) | (go_simp; with_reducible rfl)
  try simp only [Act.put, List.setIfInBounds_toArray, List.set_cons_zero, List.set_cons_succ]
  refine wpAnyH_take (i := 14) (oi := { dst := some 24, op := Op.fieldAddr 49 (.tmp 4) 1, type := _, pos := _, after := _, guard := _ }) (v := ?_) rfl (by kernel_rfl) (by kernel_rfl) (by kernel_rfl) (fun _ _ _ h => h) (Or.inl ⟨by rfl, ?_⟩) hHeld ?_
  rotate_left
  · intro w99 hSw
    first | (go_simp; done) | (go_simp; with_reducible rfl)
  try simp only [Act.put, List.setIfInBounds_toArray, List.set_cons_zero, List.set_cons_succ]
  refine wpAnyH_take (i := 15) (oi := { dst := some 25, op := Op.load 3 (.tmp 24), type := _, pos := _, after := _, guard := _ }) (v := ?_) rfl (by kernel_rfl) (by kernel_rfl) (by kernel_rfl) (fun _ _ _ h => h) (Or.inl ⟨by rfl, ?_⟩) hHeld ?_
  rotate_left
  · intro w99 hSw
    first | (go_simp; done) | (go_simp; with_reducible rfl)
  try simp only [Act.put, List.setIfInBounds_toArray, List.set_cons_zero, List.set_cons_succ]
  refine wpAnyH_take (i := 16) (oi := { dst := some 26, op := Op.move (.tmp 0), type := _, pos := _, after := _, guard := _ }) (v := ?_) rfl (by kernel_rfl) (by kernel_rfl) (by kernel_rfl) (fun _ _ _ h => h) (Or.inl ⟨by rfl, ?_⟩) hHeld ?_
  rotate_left
  · intro w99 hSw
    first | (go_simp; done) | (go_simp; with_reducible rfl)
  try simp only [Act.put, List.setIfInBounds_toArray, List.set_cons_zero, List.set_cons_succ]
  refine wpAnyH_take (i := 17) (oi := { dst := some 27, op := Op.nilCheck (.tmp 26), type := _, pos := _, after := _, guard := _ }) (v := ?_) rfl (by kernel_rfl) (by kernel_rfl) (by kernel_rfl) (fun _ _ _ h => h) (Or.inl ⟨by rfl, ?_⟩) hHeld ?_
  rotate_left
  · intro w99 hSw
    first | (go_simp; done) | (go_simp; with_reducible rfl)
  try simp only [Act.put, List.setIfInBounds_toArray, List.set_cons_zero, List.set_cons_succ]
  refine wpAnyH_take (i := 18) (oi := { dst := some 28, op := Op.fieldAddr 67 (.tmp 27) 0, type := _, pos := _, after := _, guard := _ }) (v := ?_) rfl (by kernel_rfl) (by kernel_rfl) (by kernel_rfl) (fun _ _ _ h => h) (Or.inl ⟨by rfl, ?_⟩) hHeld ?_
  rotate_left
  · intro w99 hSw
    first | (go_simp; done) | (go_simp; with_reducible rfl)
  try simp only [Act.put, List.setIfInBounds_toArray, List.set_cons_zero, List.set_cons_succ]
  refine wpAnyH_take (i := 19) (oi := { dst := some 29, op := Op.fieldAddr 49 (.tmp 28) 1, type := _, pos := _, after := _, guard := _ }) (v := ?_) rfl (by kernel_rfl) (by kernel_rfl) (by kernel_rfl) (fun _ _ _ h => h) (Or.inl ⟨by rfl, ?_⟩) hHeld ?_
  rotate_left
  · intro w99 hSw
    first | (go_simp; done) | (go_simp; with_reducible rfl)
  try simp only [Act.put, List.setIfInBounds_toArray, List.set_cons_zero, List.set_cons_succ]
  refine wpAnyH_take (i := 20) (oi := { dst := some 30, op := Op.load 3 (.tmp 29), type := _, pos := _, after := _, guard := _ }) (v := ?_) rfl (by kernel_rfl) (by kernel_rfl) (by kernel_rfl) (fun _ _ _ h => h) (Or.inl ⟨by rfl, ?_⟩) hHeld ?_
  rotate_left
  · intro w99 hSw
    first | (go_simp; done) | (go_simp; with_reducible rfl)
  try simp only [Act.put, List.setIfInBounds_toArray, List.set_cons_zero, List.set_cons_succ]
  refine wpAnyH_take (i := 21) (oi := { dst := some 31, op := Op.binOp BinOp.neq 3 (.tmp 25) (.tmp 30) 3, type := _, pos := _, after := _, guard := _ }) (v := ?_) rfl (by kernel_rfl) (by kernel_rfl) (by kernel_rfl) (fun _ _ _ h => h) (Or.inl ⟨by rfl, ?_⟩) hHeld ?_
  rotate_left
  · intro w99 hSw
    first | (go_simp; done) | (go_simp; with_reducible rfl)
  try simp only [Act.put, List.setIfInBounds_toArray, List.set_cons_zero, List.set_cons_succ]
  refine wpAnyH_take (i := 22) (oi := { dst := some 32, op := Op.pick (.tmp 23) (.const (Value.bool true)) (.tmp 31), type := _, pos := _, after := _, guard := _ }) (v := ?_) rfl (by kernel_rfl) (by kernel_rfl) (by kernel_rfl) (fun _ _ _ h => h) (Or.inl ⟨by rfl, ?_⟩) hHeld ?_
  rotate_left
  · intro w99 hSw
    first | (go_simp; done) | (go_simp; with_reducible rfl)
  try simp only [Act.put, List.setIfInBounds_toArray, List.set_cons_zero, List.set_cons_succ]
  refine wpAnyH_take (i := 23) (oi := { dst := some 33, op := Op.move (.tmp 32), type := _, pos := _, after := _, guard := _ }) (v := ?_) rfl (by kernel_rfl) (by kernel_rfl) (by kernel_rfl) (fun _ _ _ h => h) (Or.inl ⟨by rfl, ?_⟩) hHeld ?_
  rotate_left
  · intro w99 hSw
    first | (go_simp; done) | (go_simp; with_reducible rfl)
  try simp only [Act.put, List.setIfInBounds_toArray, List.set_cons_zero, List.set_cons_succ]
  refine wpAnyH_take (i := 24) (oi := { dst := some 34, op := Op.fieldAddr 49 (.tmp 4) 4, type := _, pos := _, after := _, guard := _ }) (v := ?_) rfl (by kernel_rfl) (by kernel_rfl) (by kernel_rfl) (fun _ _ _ h => h) (Or.inl ⟨by rfl, ?_⟩) hHeld ?_
  rotate_left
  · intro w99 hSw
    first | (go_simp; done) | (go_simp; with_reducible rfl)
  try simp only [Act.put, List.setIfInBounds_toArray, List.set_cons_zero, List.set_cons_succ]
  refine wpAnyH_take (i := 25) (oi := { dst := some 35, op := Op.load 3 (.tmp 34), type := _, pos := _, after := _, guard := _ }) (v := ?_) rfl (by kernel_rfl) (by kernel_rfl) (by kernel_rfl) (fun _ _ _ h => h) (Or.inl ⟨by rfl, ?_⟩) hHeld ?_
  rotate_left
  · intro w99 hSw
    first | (go_simp; done) | (go_simp; with_reducible rfl)
  try simp only [Act.put, List.setIfInBounds_toArray, List.set_cons_zero, List.set_cons_succ]
  refine wpAnyH_take (i := 26) (oi := { dst := some 36, op := Op.move (.tmp 0), type := _, pos := _, after := _, guard := _ }) (v := ?_) rfl (by kernel_rfl) (by kernel_rfl) (by kernel_rfl) (fun _ _ _ h => h) (Or.inl ⟨by rfl, ?_⟩) hHeld ?_
  rotate_left
  · intro w99 hSw
    first | (go_simp; done) | (go_simp; with_reducible rfl)
  try simp only [Act.put, List.setIfInBounds_toArray, List.set_cons_zero, List.set_cons_succ]
  refine wpAnyH_take (i := 27) (oi := { dst := some 37, op := Op.nilCheck (.tmp 36), type := _, pos := _, after := _, guard := _ }) (v := ?_) rfl (by kernel_rfl) (by kernel_rfl) (by kernel_rfl) (fun _ _ _ h => h) (Or.inl ⟨by rfl, ?_⟩) hHeld ?_
  rotate_left
  · intro w99 hSw
    first | (go_simp; done) | (go_simp; with_reducible rfl)
  try simp only [Act.put, List.setIfInBounds_toArray, List.set_cons_zero, List.set_cons_succ]
  refine wpAnyH_take (i := 28) (oi := { dst := some 38, op := Op.fieldAddr 67 (.tmp 37) 0, type := _, pos := _, after := _, guard := _ }) (v := ?_) rfl (by kernel_rfl) (by kernel_rfl) (by kernel_rfl) (fun _ _ _ h => h) (Or.inl ⟨by rfl, ?_⟩) hHeld ?_
  rotate_left
  · intro w99 hSw
    first | (go_simp; done) | (go_simp; with_reducible rfl)
  try simp only [Act.put, List.setIfInBounds_toArray, List.set_cons_zero, List.set_cons_succ]
  refine wpAnyH_take (i := 29) (oi := { dst := some 39, op := Op.fieldAddr 49 (.tmp 38) 4, type := _, pos := _, after := _, guard := _ }) (v := ?_) rfl (by kernel_rfl) (by kernel_rfl) (by kernel_rfl) (fun _ _ _ h => h) (Or.inl ⟨by rfl, ?_⟩) hHeld ?_
  rotate_left
  · intro w99 hSw
    first | (go_simp; done) | (go_simp; with_reducible rfl)
  try simp only [Act.put, List.setIfInBounds_toArray, List.set_cons_zero, List.set_cons_succ]
  refine wpAnyH_take (i := 30) (oi := { dst := some 40, op := Op.load 3 (.tmp 39), type := _, pos := _, after := _, guard := _ }) (v := ?_) rfl (by kernel_rfl) (by kernel_rfl) (by kernel_rfl) (fun _ _ _ h => h) (Or.inl ⟨by rfl, ?_⟩) hHeld ?_
  rotate_left
  · intro w99 hSw
    first | (go_simp; done) | (go_simp; with_reducible rfl)
  try simp only [Act.put, List.setIfInBounds_toArray, List.set_cons_zero, List.set_cons_succ]
  refine wpAnyH_take (i := 31) (oi := { dst := some 41, op := Op.binOp BinOp.neq 3 (.tmp 35) (.tmp 40) 3, type := _, pos := _, after := _, guard := _ }) (v := ?_) rfl (by kernel_rfl) (by kernel_rfl) (by kernel_rfl) (fun _ _ _ h => h) (Or.inl ⟨by rfl, ?_⟩) hHeld ?_
  rotate_left
  · intro w99 hSw
    first | (go_simp; done) | (go_simp; with_reducible rfl)
  try simp only [Act.put, List.setIfInBounds_toArray, List.set_cons_zero, List.set_cons_succ]
  refine wpAnyH_take (i := 32) (oi := { dst := some 42, op := Op.pick (.tmp 33) (.const (Value.bool true)) (.tmp 41), type := _, pos := _, after := _, guard := _ }) (v := ?_) rfl (by kernel_rfl) (by kernel_rfl) (by kernel_rfl) (fun _ _ _ h => h) (Or.inl ⟨by rfl, ?_⟩) hHeld ?_
  rotate_left
  · intro w99 hSw
    first | (go_simp; done) | (go_simp; with_reducible rfl)
  try simp only [Act.put, List.setIfInBounds_toArray, List.set_cons_zero, List.set_cons_succ]
  refine wpAnyH_done (by kernel_rfl) ?_ _
  obtain ⟨b0, b1, b2, b3, b4, _, _, _, hkd⟩ := hHeld
  have Hkd := Lib.hid hkd
  clear hkd
  have hbd := Nat.lt_of_lt_of_le hlb Hkd.out.size
  go_wp2_with fail
  with_reducible refine (HB.out _).mono ?_
  rintro e w3 ⟨rfl, hk3⟩
  have Hk3 := Lib.hid (Hkd.out.trans hk3)
  clear hk3 b0 b1 b2 b3 b4 Hkd
  have hrw3 := Hk3.out.whole Hrw.out (fun h => h)
  have hbx3 := Hk3.out.whole Hbx.out (fun h => h)
  have hlr3 := hrw3.lt
  have hlb3 := hbx3.lt
  have Hrw3 := Lib.hid hrw3
  have Hbx3 := Lib.hid hbx3
  have hpb3 : pb < w3.heap.size := Nat.lt_of_lt_of_le hpb1 Hk3.out.size
  have Hpc3 : Hid (∀ j u, (encB p)[j]? = some u → w3.cell? ⟨pb, poff + j, none⟩ = some u) := Lib.hid (fun j u hj => (Hk3.out.cell (p := ⟨pb, poff + j, none⟩) hpb1 (fun h => h)).trans (Hpc1.out j u hj))
  clear hrw3 hbx3 Hpc Hpc1
  have hk8 := Hx.out.2.2.2.1
  have Hd6 : Hid (fr + p.length ≤ d.length) := Lib.hid (by rw [H.out.dl6, Hpl.out]; have := Hx.out; omega)
  go_upto_region 7 with (fail)
  go_loopw [9] (fun vi wr => ∃ i : Nat, i ≤ m ∧ vi = .int .i64 i ∧ Hid (RwAt wr r id dl ct n bs (putD d fr (p.take i))) ∧ Kp (fun k => k = r) w3 wr) (fun vi _ => m - (intOf vi).toNat)
  case atStart => exact ⟨0, by omega, rfl, Lib.hid (by rw [List.take_zero, putD_nil (by have := Hd6.out; omega)]; exact ⟨Hrw3.out, H.out.bl, H.out.dl6⟩), Kp.refl _ _⟩
  case round =>
    obtain ⟨i, him, rfl, HR4, hkr⟩ := hrel
    have hb4 := hkr.whole Hbx3.out (show ¬ b = r by omega)
    have c3 := hb4.cell 3
    simp at c3
    have c5 := (HR4.out.cell.cell (5 + k)).trans (rw_c HR4.out.bl k hk8)
    rw [hb] at c5
    simp at c5
    have f5 := HR4.out.cell.frozen (5 + k)
    have hl4 := HR4.out.cell.lt
    have hlb4 := hb4.lt
    have Hb4 := Lib.hid hb4
    have Hkr := Lib.hid hkr
    clear hkr hb4
    by_cases hlt : i < m
    · have e0 : decide ((i : Int) < (m : Int)) = true := decide_eq_true (by omega)
      have e1 : decide (i < m) = true := decide_eq_true hlt
      obtain ⟨x, hx⟩ : ∃ x, p[i]? = some x := ⟨_, List.getElem?_eq_getElem (by rw [Hpl.out]; exact hlt)⟩
      have px : wr.cell? ⟨pb, poff + i, none⟩ = some (.int .u8 (x.toNat : Int)) := (Hkr.out.cell (p := ⟨pb, poff + i, none⟩) hpb3 hpr2).trans (Hpc3.out i _ (by simp [encB, hx]))
      have Hxi := Lib.hid hx
      clear hx
      go_wp2_with fail
      go_quiet (fail)
      go_wp2_with fail
      have px5 : ((wr.drewN nq).drew).cell? ⟨pb, poff + i, none⟩ = some (.int .u8 (x.toNat : Int)) := px
      have Hr5 := Lib.hid ((((Kp.refl (fun _ => False) wr).drewN nq).drew).whole HR4.out.cell (fun h => h))
      have fr5 := Hr5.out.frozen (13 + (fr + i))
      have lr5 := Hr5.out.lt
      have h6i : (fr : Int) + (i : Int) < 600 := by have := Hx.out; omega
      have h60 : (0 : Int) ≤ (fr : Int) + (i : Int) := by omega
      have h6t : ((fr : Int) + (i : Int)).toNat = fr + i := by omega
      have h6n : fr + i < 600 := by have := Hx.out; omega
      have q9 : IntKind.i64.wrap ((fr : Int) + (i : Int)) = (fr : Int) + (i : Int) := IntWalk.i64_in _ (by omega)
      have fB := HR4.out.cell.frozen (13 + (fr + i))
      obtain ⟨y, hy⟩ : ∃ y : UInt8, (putD d fr (p.take i))[fr + i]? = some y := ⟨_, List.getElem?_eq_getElem (by rw [HR4.out.dl6]; omega)⟩
      have cB : wr.cell? ⟨r, 13 + (fr + i), none⟩ = some (.int .u8 (y.toNat : Int)) := (HR4.out.cell.cell (13 + (fr + i))).trans ((rw_b HR4.out.bl (fr + i)).trans (by simp [encB, hy]))
      clear hy
      have px6 : (((wr.drewN nq).drew).setCell ⟨r, 13 + (fr + i), none⟩ (.int .u8 (x.toNat : Int))).cell? ⟨pb, poff + i, none⟩ = some (.int .u8 (x.toNat : Int)) := by
        rw [World.cell?_setCell_far _ _ _ _ (show r ≠ pb from fun e => hpr2 e.symm)]
        exact px5
      refine wp_region_held_drew (S := (fun w' => w'.cell? ⟨pb, poff + i, none⟩ = some (.int .u8 (x.toNat : Int)))) (by kernel_rfl) px5 (fun hHeld => ?_)
      refine wpAnyH_take (i := 0) (oi := { dst := some 70, op := Op.move (.tmp 0), type := _, pos := _, after := _, guard := _ }) (v := ?_) rfl (by kernel_rfl) (by kernel_rfl) (by kernel_rfl) (fun _ _ _ h => h) (Or.inl ⟨by rfl, ?_⟩) hHeld ?_
      rotate_left
      · intro w99 hSw
        first | (go_simp; done) | (go_simp; with_reducible rfl)
      try simp only [Act.put, List.setIfInBounds_toArray, List.set_cons_zero, List.set_cons_succ]
      refine wpAnyH_take (i := 1) (oi := { dst := some 71, op := Op.move (.tmp 7), type := _, pos := _, after := _, guard := _ }) (v := ?_) rfl (by kernel_rfl) (by kernel_rfl) (by kernel_rfl) (fun _ _ _ h => h) (Or.inl ⟨by rfl, ?_⟩) hHeld ?_
      rotate_left
      · intro w99 hSw
        first | (go_simp; done) | (go_simp; with_reducible rfl)
      try simp only [Act.put, List.setIfInBounds_toArray, List.set_cons_zero, List.set_cons_succ]
      refine wpAnyH_take (i := 2) (oi := { dst := some 72, op := Op.move (.tmp 9), type := _, pos := _, after := _, guard := _ }) (v := ?_) rfl (by kernel_rfl) (by kernel_rfl) (by kernel_rfl) (fun _ _ _ h => h) (Or.inl ⟨by rfl, ?_⟩) hHeld ?_
      rotate_left
      · intro w99 hSw
        first | (go_simp; done) | (go_simp; with_reducible rfl)
      try simp only [Act.put, List.setIfInBounds_toArray, List.set_cons_zero, List.set_cons_succ]
      refine wpAnyH_take (i := 3) (oi := { dst := some 73, op := Op.binOp BinOp.add 3 (.tmp 71) (.tmp 72) 3, type := _, pos := _, after := _, guard := _ }) (v := ?_) rfl (by kernel_rfl) (by kernel_rfl) (by kernel_rfl) (fun _ _ _ h => h) (Or.inl ⟨by rfl, ?_⟩) hHeld ?_
      rotate_left
      · intro w99 hSw
        first | (go_simp; done) | (go_simp; with_reducible rfl)
      try simp only [Act.put, List.setIfInBounds_toArray, List.set_cons_zero, List.set_cons_succ]
      refine wpAnyH_take (i := 4) (oi := { dst := some 74, op := Op.move (.tmp 2), type := _, pos := _, after := _, guard := _ }) (v := ?_) rfl (by kernel_rfl) (by kernel_rfl) (by kernel_rfl) (fun _ _ _ h => h) (Or.inl ⟨by rfl, ?_⟩) hHeld ?_
      rotate_left
      · intro w99 hSw
        first | (go_simp; done) | (go_simp; with_reducible rfl)
      try simp only [Act.put, List.setIfInBounds_toArray, List.set_cons_zero, List.set_cons_succ]
      refine wpAnyH_take (i := 5) (oi := { dst := some 75, op := Op.move (.tmp 9), type := _, pos := _, after := _, guard := _ }) (v := ?_) rfl (by kernel_rfl) (by kernel_rfl) (by kernel_rfl) (fun _ _ _ h => h) (Or.inl ⟨by rfl, ?_⟩) hHeld ?_
      rotate_left
      · intro w99 hSw
        first | (go_simp; done) | (go_simp; with_reducible rfl)
      try simp only [Act.put, List.setIfInBounds_toArray, List.set_cons_zero, List.set_cons_succ]
      refine wpAnyH_take (i := 6) (oi := { dst := some 76, op := Op.indexAddr 54 (.tmp 74) (.tmp 75), type := _, pos := _, after := _, guard := _ }) (v := ?_) rfl (by kernel_rfl) (by kernel_rfl) (by kernel_rfl) (fun _ _ _ h => h) (Or.inl ⟨by rfl, ?_⟩) hHeld ?_
      rotate_left
      · intro w99 hSw
        first | (go_simp; done) | (go_simp; with_reducible rfl)
      try simp only [Act.put, List.setIfInBounds_toArray, List.set_cons_zero, List.set_cons_succ]
      refine wpAnyH_take (i := 7) (oi := { dst := some 77, op := Op.load 5 (.tmp 76), type := _, pos := _, after := _, guard := _ }) (v := ?_) rfl (by kernel_rfl) (by kernel_rfl) (by kernel_rfl) (fun _ _ _ h => h) (Or.inl ⟨by rfl, ?_⟩) hHeld ?_
      rotate_left
      · intro w99 hSw
        first | (go_simp; done) | (go_simp; with_reducible rfl)
      try simp only [Act.put, List.setIfInBounds_toArray, List.set_cons_zero, List.set_cons_succ]
      refine wpAnyH_take (i := 8) (oi := { dst := some 78, op := Op.nilCheck (.tmp 70), type := _, pos := _, after := _, guard := _ }) (v := ?_) rfl (by kernel_rfl) (by kernel_rfl) (by kernel_rfl) (fun _ _ _ h => h) (Or.inl ⟨by rfl, ?_⟩) hHeld ?_
      rotate_left
      · intro w99 hSw
        first | (go_simp; done) | (go_simp; with_reducible rfl)
      try simp only [Act.put, List.setIfInBounds_toArray, List.set_cons_zero, List.set_cons_succ]
      refine wpAnyH_take (i := 9) (oi := { dst := some 79, op := Op.fieldAddr 67 (.tmp 78) 2, type := _, pos := _, after := _, guard := _ }) (v := ?_) rfl (by kernel_rfl) (by kernel_rfl) (by kernel_rfl) (fun _ _ _ h => h) (Or.inl ⟨by rfl, ?_⟩) hHeld ?_
      rotate_left
      · intro w99 hSw
        first | (go_simp; done) | (go_simp; with_reducible rfl)
      try simp only [Act.put, List.setIfInBounds_toArray, List.set_cons_zero, List.set_cons_succ]
      refine wpAnyH_take (i := 10) (oi := { dst := some 80, op := Op.indexAddr 65 (.tmp 79) (.tmp 73), type := _, pos := _, after := _, guard := _ }) (v := ?_) rfl (by kernel_rfl) (by kernel_rfl) (by kernel_rfl) (fun _ _ _ h => h) (Or.inl ⟨by rfl, ?_⟩) hHeld ?_
      rotate_left
      · intro w99 hSw
        first | (go_simp; done) | (go_simp; with_reducible rfl)
      try simp only [Act.put, List.setIfInBounds_toArray, List.set_cons_zero, List.set_cons_succ]
      refine wpAnyH_ready (rs := [11]) (by kernel_rfl) (by simp) (AllReadyH.cons (o := { dst := none, op := Op.store 5 (.tmp 80) (.tmp 77), type := _, pos := _, after := _, guard := _ }) rfl (fun K hK => ?_) AllReadyH.nil)
      go_simp
      refine hK.out _ _ (px6) (fun _ => ?_)
      clear hK
      try simp only [Act.put, List.setIfInBounds_toArray, List.set_cons_zero, List.set_cons_succ]
      refine wpAnyH_done (by kernel_rfl) ?_ _
      have hset := rw_setb (id := id) (dl := dl) (ct := ct) (n := n) (d := putD d fr (p.take i)) H.out.bl (fr + i) x
      have hfin := Hr5.out.set (13 + (fr + i)) (.int .u8 (x.toNat : Int))
      rw [hset, putD_snoc Hxi.out Hd6.out] at hfin
      have Hfin := Lib.hid hfin
      have Hl6 : Hid ((putD d fr (p.take (i + 1))).length = 600) := Lib.hid (by rw [putD_len (by rw [List.length_take]; have := Hd6.out; omega)]; exact H.out.dl6)
      clear hset hfin
      have Hk6 := Lib.hid (Kp.set (S := fun k => k = r) ((Hkr.out.drewN nq).drew) (p := ⟨r, 13 + (fr + i), none⟩) (.inl rfl) (.int .u8 (x.toNat : Int)))
      go_wp2_with fail
      go_roundw
      case rel => exact ⟨i + 1, by omega, by go_num, Lib.hid ⟨Hfin.out, H.out.bl, Hl6.out⟩, Hk6.out⟩
      case measure => simp [intOf]; omega
    · obtain rfl : i = m := by omega
      have e0 : decide ((i : Int) < (i : Int)) = false := by simp
      go_wp2_with fail
      go_quiet (fail)
      go_wp2_with fail
      have Hr5 := Lib.hid ((((Kp.refl (fun _ => False) wr).drewN nq).drew).whole HR4.out.cell (fun h => h))
      have Hb5 := Lib.hid ((((Kp.refl (fun _ => False) wr).drewN nq).drew).whole Hb4.out (fun h => h))
      have fr5 := Hr5.out.frozen (5 + k)
      have lr5 := Hr5.out.lt
      have hk8i : (k : Int) < 8 := by omega
      refine wp_region_held_drew (S := (fun w' => w'.cell? ⟨b, 3, none⟩ = some (.int .i64 (k : Int)))) (by kernel_rfl) (Hb5.out.cell 3) (fun hHeld => ?_)
      refine wpAnyH_take (i := 0) (oi := { dst := some 81, op := Op.move (.tmp 0), type := _, pos := _, after := _, guard := _ }) (v := ?_) rfl (by kernel_rfl) (by kernel_rfl) (by kernel_rfl) (fun _ _ _ h => h) (Or.inl ⟨by rfl, ?_⟩) hHeld ?_
      rotate_left
      · intro w99 hSw
        first | (go_simp; done) | (go_simp; with_reducible rfl)
      try simp only [Act.put, List.setIfInBounds_toArray, List.set_cons_zero, List.set_cons_succ]
      refine wpAnyH_take (i := 1) (oi := { dst := some 82, op := Op.fieldAddr 49 (.tmp 4) 3, type := _, pos := _, after := _, guard := _ }) (v := ?_) rfl (by kernel_rfl) (by kernel_rfl) (by kernel_rfl) (fun _ _ _ h => h) (Or.inl ⟨by rfl, ?_⟩) hHeld ?_
      rotate_left
      · intro w99 hSw
        first | (go_simp; done) | (go_simp; with_reducible rfl)
      try simp only [Act.put, List.setIfInBounds_toArray, List.set_cons_zero, List.set_cons_succ]
      refine wpAnyH_take (i := 2) (oi := { dst := some 83, op := Op.load 3 (.tmp 82), type := _, pos := _, after := _, guard := _ }) (v := ?_) rfl (by kernel_rfl) (by kernel_rfl) (by kernel_rfl) (fun _ _ _ h => h) (Or.inl ⟨by rfl, ?_⟩) hHeld ?_
      rotate_left
      · intro w99 hSw
        first | (go_simp; done) | (go_simp; with_reducible rfl)
      try simp only [Act.put, List.setIfInBounds_toArray, List.set_cons_zero, List.set_cons_succ]
      refine wpAnyH_take (i := 3) (oi := { dst := some 84, op := Op.nilCheck (.tmp 81), type := _, pos := _, after := _, guard := _ }) (v := ?_) rfl (by kernel_rfl) (by kernel_rfl) (by kernel_rfl) (fun _ _ _ h => h) (Or.inl ⟨by rfl, ?_⟩) hHeld ?_
      rotate_left
      · intro w99 hSw
        first | (go_simp; done) | (go_simp; with_reducible rfl)
      try simp only [Act.put, List.setIfInBounds_toArray, List.set_cons_zero, List.set_cons_succ]
      refine wpAnyH_take (i := 4) (oi := { dst := some 85, op := Op.fieldAddr 67 (.tmp 84) 1, type := _, pos := _, after := _, guard := _ }) (v := ?_) rfl (by kernel_rfl) (by kernel_rfl) (by kernel_rfl) (fun _ _ _ h => h) (Or.inl ⟨by rfl, ?_⟩) hHeld ?_
      rotate_left
      · intro w99 hSw
        first | (go_simp; done) | (go_simp; with_reducible rfl)
      try simp only [Act.put, List.setIfInBounds_toArray, List.set_cons_zero, List.set_cons_succ]
      refine wpAnyH_take (i := 5) (oi := { dst := some 86, op := Op.indexAddr 64 (.tmp 85) (.tmp 83), type := _, pos := _, after := _, guard := _ }) (v := ?_) rfl (by kernel_rfl) (by kernel_rfl) (by kernel_rfl) (fun _ _ _ h => h) (Or.inl ⟨by rfl, ?_⟩) hHeld ?_
      rotate_left
      · intro w99 hSw
        first | (go_simp; done) | (go_simp; with_reducible rfl)
      try simp only [Act.put, List.setIfInBounds_toArray, List.set_cons_zero, List.set_cons_succ]
      refine wpAnyH_ready (rs := [6]) (by kernel_rfl) (by simp) (AllReadyH.cons (o := { dst := none, op := Op.store 4 (.tmp 86) (.const (Value.bool true)), type := _, pos := _, after := _, guard := _ }) rfl (fun K hK => ?_) AllReadyH.nil)
      go_simp
      refine hK.out _ _ ((Hb5.out.far (p := ⟨r, 5 + k, none⟩) (show b ≠ r by omega) (.bool true)).cell 3) (fun _ => ?_)
      clear hK
      try simp only [Act.put, List.setIfInBounds_toArray, List.set_cons_zero, List.set_cons_succ]
      refine wpAnyH_done (by kernel_rfl) ?_ _
      go_wp2_with fail
      go_ret
      have hset := rw_setc (id := id) (dl := dl) (ct := ct) (n := n) (d := putD d fr (p.take i)) H.out.bl k hk8 true
      have hfin := Hr5.out.set (5 + k) (.bool true)
      rw [hset, List.take_of_length_le (by rw [Hpl.out]; omega), Hx.out.1] at hfin
      refine ⟨rfl, ⟨hfin, by rw [List.length_set]; exact H.out.bl, ?_⟩, ?_⟩
      · rw [← Hx.out.1, putD_len Hd6.out]; exact H.out.dl6
      · exact Kp.set (S := fun k => k = r) ((((Hk.out.trans Hk3.out).no.trans Hkr.out).drewN nq).drew) (p := ⟨r, 5 + k, none⟩) (.inl rfl) _
end Go.Proofs.Ytdcbgjbhoejpnaa
