/-
  argosyref18's Whole: Bytes. (printed by src/gen_XRefFr4.py)
-/
import Derived.Test.YtdcbgjbhoejpnaaRefFr3
import Derived.Test.YtdcbgjbhoejpnaaBytes
import Derived.Test.YtdcbgjbhoejpnaaFragP
namespace Go.Proofs.Ytdcbgjbhoejpnaa
open Go.RowKit

theorem kp_cell1 {w w' : World} {b o : Nat} {x : Value} (hb : b < w.heap.size) (c1 : w.cell? ⟨b, o, none⟩ = some x) (h : Kp (fun _ => False) w w') : w'.cell? ⟨b, o, none⟩ = some x ∧ Kp (fun _ => False) w w' := ⟨(Kp.cell h (p := ⟨b, o, none⟩) hb (fun h => h)).trans c1, h⟩

set_option maxRecDepth 100000 in
set_option maxHeartbeats 1000000 in
theorem rbytes_no {w : World} {r n : Nat} {id dl : Int} {ct : Nat} {bs : List Bool} {d : List UInt8} (h : RwAt w r id dl (ct : Int) n bs d) (hct : ct ≤ 8) (hf : rfullB bs ct = false) :
    Calls Try.prog 39 #[.pointer (some ⟨r, 0, none⟩)] w fun e w' => e = .returned (.slice none 0 0) ∧ Kp (fun _ => False) w w' := by
  have HF := Lib.hid (rfull_any h hct)
  rw [hf] at HF
  clear hf h
  go_enter Try.func39, Try.ntmps39
  go_wp2_with fail
  with_reducible refine (HF.out).mono ?_
  rintro e w2 ⟨rfl, hk2⟩
  have Hk2 := Lib.hid hk2
  clear hk2
  go_wp2_with fail
  go_ret
  exact ⟨rfl, Hk2.out⟩

set_option maxRecDepth 100000 in
set_option maxHeartbeats 2000000 in
theorem rbytes_yes {w : World} {r n : Nat} {id dl : Int} {ct : Nat} {bs : List Bool} {d : List UInt8} (h : RwAt w r id dl (ct : Int) n bs d) (hct : ct ≤ 8) (hn : n ≤ 600) (hf : rfullB bs ct = true) :
    Calls Try.prog 39 #[.pointer (some ⟨r, 0, none⟩)] w fun e w' => ∃ A cap, e = .returned (.slice A n cap) ∧ RowAt w' w.heap.size 1 (.slice A n cap) n (encB (d.take n)) ∧ Kp (fun _ => False) w w' := by
  obtain ⟨i0, hi, hz0, hz1, hz2⟩ := info_parts infoB
  have HF := Lib.hid (rfull_any h hct)
  rw [hf] at HF
  have H := Lib.hid h
  have hl := h.cell.lt
  have Hi := Lib.hid hi
  have Hz0 := Lib.hid hz0
  have Hz1 := Lib.hid hz1
  have Hz2 := Lib.hid hz2
  clear hf h hi hz0 hz1 hz2
  go_enter Try.func39, Try.ntmps39
  go_wp2_with fail
  with_reducible refine (HF.out).mono ?_
  rintro e w2 ⟨rfl, hk2⟩
  have h2 := hk2.whole H.out.cell (fun h => h)
  have c4 := (h2.cell 4).trans (rw_h bs d).2.2.2.2
  have hl2 := h2.lt
  have hsrc : Src w2 1 (.slice (some ⟨r, 13, none⟩) n 600) n (encB (d.take n)) := by
    have hd6 := H.out.dl6
    refine ⟨by rw [encB_len, List.length_take]; omega, encB_one _, .inr ⟨_, _, rfl, fun j u hj => ?_⟩⟩
    have hj1 : (encB d)[j]? = some u := by
      have e : encB (d.take n) = (encB d).take n := by simp [encB, List.map_take]
      rw [e, List.getElem?_take] at hj
      split at hj
      · exact hj
      · cases hj
    rw [Addr.add_lit]
    exact (h2.cell (13 + j)).trans ((rw_b H.out.bl j).trans hj1)
  have Hsrc := Lib.hid hsrc
  have HS : Hid (∀ w', Kp (fun _ => False) w2 w' → w'.cell? ⟨r, 4, none⟩ = some (.int .i64 (n : Int)) ∧ Kp (fun _ => False) w2 w') := Lib.hid (fun _ h => kp_cell1 hl2 c4 h)
  have Hk2 := Lib.hid hk2
  have hal : Try.prog.arrayLen 65 = 600 := by simp [Program.arrayLen, Try.underlying65]
  have hsl : ∀ W, (Instr.sliceAt 65 (.pointer (some ⟨r, 13, none⟩)) none (some (.int .i64 (n : Int))) none).run Try.prog W = .ok (.slice (some ⟨r, 13, none⟩) n 600) W := fun W => by
    rw [run_sliceAt_array_h W 65 ⟨r, 13, none⟩ (by simp [Program.arrayLen, Program.elem, Try.underlying65]) .i64 (n : Int) (by omega) (by rw [hal]; omega)]
    go_simp
  clear hk2 h2 c4 hsrc HF hal
  go_upto_region 3 with (fail)
  refine wp_region_held_drew (S := (fun w' => w'.cell? ⟨r, 4, none⟩ = some (.int .i64 (n : Int)) ∧ Kp (fun _ => False) w2 w')) (by kernel_rfl) (HS.out _ ((Kp.refl (fun _ => False) w2).drew)) (fun hHeld => ?_)
  refine wpAnyH_take (i := 1) (oi := { dst := some 7, op := Op.move (.tmp 0), type := _, pos := _, after := _, guard := _ }) (v := ?_) rfl (by kernel_rfl) (by kernel_rfl) (by kernel_rfl) (fun _ _ _ h => h) (Or.inl ⟨by rfl, ?_⟩) hHeld ?_
  rotate_left
  · intro w99 hSw
    first | (go_simp; done) | (go_simp; with_reducible rfl)
  try simp only [Act.put, List.setIfInBounds_toArray, List.set_cons_zero, List.set_cons_succ]
  refine wpAnyH_take (i := 2) (oi := { dst := some 8, op := Op.nilCheck (.tmp 7), type := _, pos := _, after := _, guard := _ }) (v := ?_) rfl (by kernel_rfl) (by kernel_rfl) (by kernel_rfl) (fun _ _ _ h => h) (Or.inl ⟨by rfl, ?_⟩) hHeld ?_
  rotate_left
  · intro w99 hSw
    first | (go_simp; done) | (go_simp; with_reducible rfl)
  try simp only [Act.put, List.setIfInBounds_toArray, List.set_cons_zero, List.set_cons_succ]
  refine wpAnyH_take (i := 3) (oi := { dst := some 9, op := Op.fieldAddr 67 (.tmp 8) 2, type := _, pos := _, after := _, guard := _ }) (v := ?_) rfl (by kernel_rfl) (by kernel_rfl) (by kernel_rfl) (fun _ _ _ h => h) (Or.inl ⟨by rfl, ?_⟩) hHeld ?_
  rotate_left
  · intro w99 hSw
    first | (go_simp; done) | (go_simp; with_reducible rfl)
  try simp only [Act.put, List.setIfInBounds_toArray, List.set_cons_zero, List.set_cons_succ]
  refine wpAnyH_take (i := 4) (oi := { dst := some 10, op := Op.move (.tmp 0), type := _, pos := _, after := _, guard := _ }) (v := ?_) rfl (by kernel_rfl) (by kernel_rfl) (by kernel_rfl) (fun _ _ _ h => h) (Or.inl ⟨by rfl, ?_⟩) hHeld ?_
  rotate_left
  · intro w99 hSw
    first | (go_simp; done) | (go_simp; with_reducible rfl)
  try simp only [Act.put, List.setIfInBounds_toArray, List.set_cons_zero, List.set_cons_succ]
  refine wpAnyH_take (i := 5) (oi := { dst := some 11, op := Op.nilCheck (.tmp 10), type := _, pos := _, after := _, guard := _ }) (v := ?_) rfl (by kernel_rfl) (by kernel_rfl) (by kernel_rfl) (fun _ _ _ h => h) (Or.inl ⟨by rfl, ?_⟩) hHeld ?_
  rotate_left
  · intro w99 hSw
    first | (go_simp; done) | (go_simp; with_reducible rfl)
  try simp only [Act.put, List.setIfInBounds_toArray, List.set_cons_zero, List.set_cons_succ]
  refine wpAnyH_take (i := 6) (oi := { dst := some 12, op := Op.fieldAddr 67 (.tmp 11) 0, type := _, pos := _, after := _, guard := _ }) (v := ?_) rfl (by kernel_rfl) (by kernel_rfl) (by kernel_rfl) (fun _ _ _ h => h) (Or.inl ⟨by rfl, ?_⟩) hHeld ?_
  rotate_left
  · intro w99 hSw
    first | (go_simp; done) | (go_simp; with_reducible rfl)
  try simp only [Act.put, List.setIfInBounds_toArray, List.set_cons_zero, List.set_cons_succ]
  refine wpAnyH_take (i := 7) (oi := { dst := some 13, op := Op.fieldAddr 49 (.tmp 12) 4, type := _, pos := _, after := _, guard := _ }) (v := ?_) rfl (by kernel_rfl) (by kernel_rfl) (by kernel_rfl) (fun _ _ _ h => h) (Or.inl ⟨by rfl, ?_⟩) hHeld ?_
  rotate_left
  · intro w99 hSw
    first | (go_simp; done) | (go_simp; with_reducible rfl)
  try simp only [Act.put, List.setIfInBounds_toArray, List.set_cons_zero, List.set_cons_succ]
  refine wpAnyH_take (i := 8) (oi := { dst := some 14, op := Op.load 3 (.tmp 13), type := _, pos := _, after := _, guard := _ }) (v := ?_) rfl (by kernel_rfl) (by kernel_rfl) (by kernel_rfl) (fun _ _ _ h => h) (Or.inl ⟨by rfl, ?_⟩) hHeld ?_
  rotate_left
  · intro w99 hSw
    first | (go_simp; done) | (go_simp; with_reducible rfl)
  try simp only [Act.put, List.setIfInBounds_toArray, List.set_cons_zero, List.set_cons_succ]
  refine wpAnyH_take (i := 9) (oi := { dst := some 15, op := Op.slice 65 (.tmp 9) none (some (.tmp 14)) none, type := _, pos := _, after := _, guard := _ }) (v := ?_) rfl (by kernel_rfl) (by kernel_rfl) (by kernel_rfl) (fun _ _ _ h => h) (Or.inl ⟨by rfl, ?_⟩) hHeld ?_
  rotate_left
  · intro w99 hSw
    first | (go_simp; done) | (go_simp; with_reducible rfl)
  try simp only [Act.put, List.setIfInBounds_toArray, List.set_cons_zero, List.set_cons_succ]
  refine wpAnyH_ready (rs := [0]) (by kernel_rfl) (by simp) (AllReadyH.cons (o := { dst := some 6, op := Op.buildSlice 54 0 #[], type := _, pos := _, after := _, guard := _ }) rfl (fun K hK => ?_) AllReadyH.nil)
  go_simp
  have hx9 := HS.out _ (((Kp.refl (fun _ => False) w2).drew).alloc (.cells #[] 5))
  refine hK.out _ _ hx9 (fun _ => ?_)
  clear hK hHeld
  have hHeld := hx9
  clear hx9
  try simp only [Act.put, List.setIfInBounds_toArray, List.set_cons_zero, List.set_cons_succ]
  have hO := World.ownsRow_made (base := w2.heap.size) (e := 5) (size := 1) w2.drew #[] 0 (Nat.le_refl _) (Nat.zero_le _) rfl
  have HO := Lib.hid hO
  clear hO
  have HX := Lib.hid (hHeld.2.src Hsrc.out (fun _ _ h => h))
  refine wpAnyH_ready (rs := [10]) (by kernel_rfl) (by simp) (AllReadyH.cons (o := { dst := some 16, op := Op.call { callee := Callee.builtin Builtin.append, args := #[(.tmp 6), (.tmp 15)], argTypes := #[54, 54] }, type := _, pos := _, after := _, guard := _ }) rfl (fun K hK => ?_) AllReadyH.nil)
  refine step_app rfl (.tmp 6) (.tmp 15) 54 rfl w2.heap.size 5 i0 _ 1 1 Try.underlying54 Hi.out Hz0.out Hz1.out Hz2.out rfl (by decide) _ 0 [] rfl HO.out _ n _ rfl HX.out (by unfold maxLen; omega) (by omega) (by simp) ?_
  intro v' w4 hown1 hg1 hn1
  obtain ⟨A', cap', rfl⟩ := own_form hown1
  have hk4 : Kp (fun _ => False) w2 w4 := hHeld.2.grown hg1 (fun i hi hlt => by have hi' : w2.heap.size = i := Option.some.inj hi; exact absurd hlt (by omega))
  have hx9 := HS.out _ hk4
  refine hK.out _ _ hx9 (fun _ => ?_)
  clear hK hHeld
  have hHeld := hx9
  clear hx9
  have Hown := Lib.hid hown1
  clear hown1 hg1 hn1
  try simp only [Act.put, List.setIfInBounds_toArray, List.set_cons_zero, List.set_cons_succ]
  refine wpAnyH_take (i := 11) (oi := { dst := some 2, op := Op.assign (.tmp 16), type := _, pos := _, after := _, guard := _ }) (v := ?_) rfl (by kernel_rfl) (by kernel_rfl) (by kernel_rfl) (fun _ _ _ h => h) (Or.inl ⟨by rfl, ?_⟩) hHeld ?_
  rotate_left
  · intro w99 hSw
    first | (go_simp; done) | (go_simp; with_reducible rfl)
  try simp only [Act.put, List.setIfInBounds_toArray, List.set_cons_zero, List.set_cons_succ]
  refine wpAnyH_done (by kernel_rfl) ?_ _
  go_wp2_with fail
  go_ret
  have hr2 := RowAt.of_own Hown.out
  rw [Nat.zero_add, List.nil_append] at hr2
  refine ⟨A', cap', by rw [Nat.zero_add]; rfl, hr2.base Hk2.out.size, Hk2.out.trans hk4⟩
end Go.Proofs.Ytdcbgjbhoejpnaa
