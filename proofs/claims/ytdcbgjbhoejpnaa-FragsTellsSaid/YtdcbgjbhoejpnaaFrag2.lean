/-
  frags: Full, Bytes, Head.
-/
import Derived.Test.YtdcbgjbhoejpnaaFrag
namespace Go.Proofs.Ytdcbgjbhoejpnaa
open Go.RowKit

def fullB (L : List Pr) (ct : Int) : Bool := (gapL L (bringS 0) (bringS ct)).isEmpty
theorem frC_get (v : Value) (id dl ct : Int) (n gb : Nat) : (frC v id dl ct n gb)[0]? = some v ∧ (frC v id dl ct n gb)[1]? = some (.int .i64 id) ∧ (frC v id dl ct n gb)[2]? = some (.int .i64 dl) ∧ (frC v id dl ct n gb)[3]? = some (.int .i64 ct) ∧ (frC v id dl ct n gb)[4]? = some (.int .i64 0) ∧ (frC v id dl ct n gb)[5]? = some (.int .i64 (n : Int)) ∧ (frC v id dl ct n gb)[6]? = some (.slice (some ⟨gb, 0, none⟩) n n) := ⟨rfl, rfl, rfl, rfl, rfl, rfl, rfl⟩
theorem FrAt.c {w : World} {g gb : Nat} {id dl ct : Int} {n : Nat} {v : Value} {L : List Pr} {d : List UInt8} (h : FrAt w g gb id dl ct n v L d) (j : Nat) (u : Value) (hj : (frC v id dl ct n gb)[j]? = some u) : w.cell? ⟨g, j, none⟩ = some u := (h.cell.cell j).trans hj

set_option maxRecDepth 100000 in
set_option maxHeartbeats 1000000 in
theorem full_any {w : World} {g gb : Nat} {id dl ct : Int} {n : Nat} {v : Value} {L : List Pr} {d : List UInt8} (h : FrAt w g gb id dl ct n v L d) :
    Calls Try.prog 37 #[.pointer (some ⟨g, 0, none⟩)] w fun e w' => e = .returned (.bool (fullB L ct)) ∧ Kp (fun _ => False) w w' := by
  have hl := h.cell.lt
  have hL := h.norm.few (by omega)
  have c3 := h.c 3 _ (frC_get v id dl ct n gb).2.2.2.1
  have HA := Lib.hid (t_all (h.set.kp (Kp.drew (Kp.refl (fun _ => False) w)) (fun h => h) (fun _ _ h => h)) (by omega) 0 ct)
  obtain ⟨r, hr⟩ : ∃ r, r = fullB L ct := ⟨_, rfl⟩
  rw [← hr]
  rw [show (gapL L (bringS 0) (bringS ct)).isEmpty = r from hr.symm] at HA
  clear hr h hL
  go_enter Try.func37, Try.ntmps37
  go_wp2_with fail
  go_region_held3 (fun w' => w'.cell? ⟨g, 3, none⟩ = some (.int .i64 ct)) (first | go_keep | (exact (Kp.cell (by assumption) (p := ⟨g, 3, none⟩) hl (fun h => h)).trans c3)) (first | (go_at_call 22; (with_reducible refine (HA.out).mono ?_); rintro e w' ⟨rfl, hk⟩; have hk2 := ((Kp.refl (fun _ => False) w).drew).trans hk; clear hk))
  all_goals
    go_wp2_with fail
    go_ret
    exact ⟨rfl, by first | exact hk2 | exact hk2.drew⟩

set_option maxRecDepth 100000 in
set_option maxHeartbeats 1000000 in
theorem bytes_no {w : World} {g gb : Nat} {id dl ct : Int} {n : Nat} {v : Value} {L : List Pr} {d : List UInt8} (h : FrAt w g gb id dl ct n v L d) (hf : fullB L ct = false) :
    Calls Try.prog 29 #[.pointer (some ⟨g, 0, none⟩)] w fun e w' => e = .returned (.slice none 0 0) ∧ Kp (fun _ => False) w w' := by
  have HF := Lib.hid (full_any h)
  rw [hf] at HF
  clear hf h
  go_enter Try.func29, Try.ntmps29
  go_wp2_with fail
  with_reducible refine (HF.out).mono ?_
  rintro e w2 ⟨rfl, hk2⟩
  have Hk2 := Lib.hid hk2
  clear hk2
  go_wp2_with fail
  go_ret
  exact ⟨rfl, Hk2.out⟩

set_option maxRecDepth 100000 in
set_option maxHeartbeats 1000000 in
theorem bytes_yes {w : World} {g gb : Nat} {id dl ct : Int} {n : Nat} {v : Value} {L : List Pr} {d : List UInt8} (h : FrAt w g gb id dl ct n v L d) (hf : fullB L ct = true) :
    Calls Try.prog 29 #[.pointer (some ⟨g, 0, none⟩)] w fun e w' => ∃ A, e = .returned (.slice A n n) ∧ RowAt w' w.heap.size 1 (.slice A n n) n (encB d) ∧ Kp (fun _ => False) w w' := by
  have HF := Lib.hid (full_any h)
  rw [hf] at HF
  have H := Lib.hid h
  have hn : n ≤ 600 := by have := rightB_iff.1 h.right; omega
  clear hf h
  go_enter Try.func29, Try.ntmps29
  go_wp2_with fail
  with_reducible refine (HF.out).mono ?_
  rintro e w2 ⟨rfl, hk2⟩
  have h2 := H.out.no hk2
  have hl2 := h2.cell.lt
  have c6 := h2.c 6 _ (frC_get v id dl ct n gb).2.2.2.2.2.2
  have hb : Bs w2 (.slice (some ⟨gb, 0, none⟩) d.length n) d := by
    refine ⟨by simp [encB], encB_one d, .inr ⟨_, _, rfl, fun j u hj => ?_⟩⟩
    rw [Addr.add_lit, Nat.zero_add, h2.body.cell, List.getElem?_toArray]
    exact hj
  have hc := clone_b hb (by rw [h2.len]; omega)
  rw [h2.len] at hc
  have Hc := Lib.hid hc
  have Hk2 := Lib.hid hk2
  clear hc hb h2 hk2
  go_wp2_with fail
  with_reducible refine (Hc.out).mono ?_
  rintro e w3 ⟨A', cap', rfl, hr, hk3⟩
  have hcl := own_le hr
  have hr2 := RowAt.of_own hr
  have Hcl := Lib.hid (clip_b (w := w3) hcl (own_addr hr))
  have Hr2 := Lib.hid ((RowAt.clip hr2).base Hk2.out.size)
  have Hk3 := Lib.hid (Hk2.out.trans hk3)
  clear hr hr2 hk3 hcl
  go_wp2_with fail
  with_reducible refine (Hcl.out).mono ?_
  rintro e w4 ⟨rfl, rfl⟩
  go_wp2_with fail
  go_ret
  exact ⟨A', rfl, Hr2.out, Hk3.out⟩

theorem head_any {w : World} {g gb : Nat} {id dl ct : Int} {n : Nat} {v : Value} {L : List Pr} {d : List UInt8} (h : FrAt w g gb id dl ct n v L d) :
    Calls Try.prog 30 #[.pointer (some ⟨g, 0, none⟩)] w fun e w' => e = .returned (.agg #[.int .i64 id, .int .i64 dl, .int .i64 ct, .int .i64 0, .int .i64 (n : Int)]) ∧ Kp (fun _ => False) w w' := by
  have hl := h.cell.lt
  have c1 := h.c 1 _ (frC_get v id dl ct n gb).2.1
  have c2 := h.c 2 _ (frC_get v id dl ct n gb).2.2.1
  have c3 := h.c 3 _ (frC_get v id dl ct n gb).2.2.2.1
  have c4 := h.c 4 _ (frC_get v id dl ct n gb).2.2.2.2.1
  have c5 := h.c 5 _ (frC_get v id dl ct n gb).2.2.2.2.2.1
  clear h
  go_enter Try.func30, Try.ntmps30
  go_wp2_with fail
  exact bodyPost_ret (v := .agg #[.int .i64 id, .int .i64 dl, .int .i64 ct, .int .i64 0, .int .i64 (n : Int)]) (by simp [results, Try.results30, go_sem]) rfl ⟨rfl, (Kp.refl _ _).alloc _⟩
end Go.Proofs.Ytdcbgjbhoejpnaa
