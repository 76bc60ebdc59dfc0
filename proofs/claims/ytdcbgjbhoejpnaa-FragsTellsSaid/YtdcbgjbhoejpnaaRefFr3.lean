/-
  argosyref18's Whole: Full, Bytes.
-/
import Derived.Test.YtdcbgjbhoejpnaaRefFr2
namespace Go.Proofs.Ytdcbgjbhoejpnaa
open Go.RowKit

/-- all that are asked came. -/
def rfullB (bs : List Bool) (ct : Nat) : Bool := (bs.take ct).all id
theorem rfull_step {bs : List Bool} {i : Nat} (h : bs[i]? = some true) (hp : rfullB bs i = true) : rfullB bs (i + 1) = true := by
  unfold rfullB at *
  rw [List.take_add_one, h, List.all_append, hp]
  rfl
theorem rfull_no {bs : List Bool} {i ct : Nat} (h : bs[i]? = some false) (hi : i < ct) : rfullB bs ct = false := by
  unfold rfullB
  rw [List.all_eq_false]
  refine ⟨false, ?_, by simp⟩
  exact List.mem_of_getElem? (i := i) (by rw [List.getElem?_take, if_pos hi]; exact h)
theorem rfull_iff {bs : List Bool} {ct : Nat} (hl : ct ≤ bs.length) : rfullB bs ct = true ↔ ∀ k, k < ct → bs[k]? = some true := by
  constructor
  · intro h k hk
    have hkl : k < bs.length := by omega
    cases hb : bs[k]'hkl with
    | true => rw [List.getElem?_eq_getElem hkl, hb]
    | false => rw [rfull_no (i := k) (by rw [List.getElem?_eq_getElem hkl, hb]) hk] at h; cases h
  · intro h
    induction ct with
    | zero => rfl
    | succ i ih => exact rfull_step (h i (by omega)) (ih (by omega) fun k hk => h k (by omega))

set_option maxRecDepth 100000 in
set_option maxHeartbeats 1000000 in
theorem rfull_any {w : World} {r n : Nat} {id dl : Int} {ct : Nat} {bs : List Bool} {d : List UInt8} (h : RwAt w r id dl (ct : Int) n bs d) (hct : ct ≤ 8) :
    Calls Try.prog 38 #[.pointer (some ⟨r, 0, none⟩)] w fun e w' => e = .returned (.bool (rfullB bs ct)) ∧ Kp (fun _ => False) w w' := by
  have hl := h.cell.lt
  have c2 := (h.cell.cell 2).trans (rw_h bs d).2.2.1
  have H := Lib.hid h
  clear h
  go_enter Try.func38, Try.ntmps38
  go_upto_region 2 with (fail)
  go_loopw [3] (fun vi wr => ∃ (i : Nat), i ≤ ct ∧ vi = .int .i64 i ∧ Hid (rfullB bs i = true) ∧ Kp (fun _ => False) w wr)
    (fun vi _ => ct - (intOf vi).toNat)
  case atStart => exact ⟨0, by omega, rfl, Lib.hid rfl, Kp.refl _ _⟩
  case round =>
    obtain ⟨i, him, rfl, Hno, hk⟩ := hrel
    have e2 := (Kp.cell hk (p := ⟨r, 2, none⟩) hl (fun h => h)).trans c2
    have Hk := Lib.hid hk
    have hlr := Nat.lt_of_lt_of_le hl hk.size
    clear hk
    by_cases hlt : i < ct
    · have hib : i < bs.length := by have := H.out.bl; omega
      have c5 := (H.out.cell.cell (5 + i)).trans (rw_c H.out.bl i (by have := H.out.bl; omega))
      rw [List.getElem?_eq_getElem hib] at c5
      replace c5 := (Kp.cell Hk.out (p := ⟨r, 5 + i, none⟩) hl (fun h => h)).trans c5
      cases hx : bs[i]'hib with
      | true =>
        rw [hx] at c5
        have Hx := Lib.hid (show bs[i]? = some true by rw [List.getElem?_eq_getElem hib, hx])
        clear hx
        go_wp2_with fail
        go_roundw
        case rel => exact ⟨i + 1, by omega, by go_num, Lib.hid (rfull_step Hx.out Hno.out), Hk.out⟩
        case measure => simp [intOf]; omega
      | false =>
        rw [hx] at c5
        have Hx := Lib.hid (show bs[i]? = some false by rw [List.getElem?_eq_getElem hib, hx])
        clear hx
        go_wp2_with fail
        go_ret
        exact ⟨by rw [rfull_no Hx.out hlt]; rfl, Hk.out⟩
    · obtain rfl : i = ct := by omega
      go_wp2_with fail
      go_ret
      exact ⟨by rw [Hno.out]; rfl, Hk.out⟩
end Go.Proofs.Ytdcbgjbhoejpnaa
