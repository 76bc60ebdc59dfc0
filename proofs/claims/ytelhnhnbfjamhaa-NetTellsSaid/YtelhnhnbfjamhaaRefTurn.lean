/-
  The reference's net: Turn.
-/
import Derived.Test.YtelhnhnbfjamhaaRefSwap
import Derived.Deep.CutBlock
namespace Go.Proofs.Ytelhnhnbfjamhaa
open Go.RowKit

set_option maxRecDepth 100000 in
set_option maxHeartbeats 1000000 in
theorem ref_turn {w : World} {r : Nat} {A : Option Addr} {cap : Nat} {qs : List Pk} (h : RefAt w r A cap qs) (k : Nat) (p : Pk) (hk : qs[k]? = some p) (hs : p.2.size ≤ maxLen) (a : Nat) (z : UInt8) (ha : a < p.2.size) :
    Calls Try.prog 23 #[.pointer (some ⟨r, 0, none⟩), .int .i64 k, .int .i64 a, .int .u8 (z.toNat : Int)] w fun e w' => e = .returned (.bool true) ∧ RefLeft w r (qs.set k (p.1, turnS p.2 a z)) w' := by
  have hkl : k < qs.length := (List.getElem?_eq_some_iff.1 hk).1
  have hf := h.few
  have c0 := h.cell.cell 0
  rw [show (#[Value.slice A qs.length cap] : Array Value)[0]? = some (.slice A qs.length cap) from rfl] at c0
  obtain ⟨b, rfl, hcells⟩ := own_some h.own (by omega)
  have e1 := hcells (k * 2 + 1) _ (pk1 hk)
  have hi := ref_has h k
  rw [show decide (0 ≤ (k : Int) ∧ (k : Int) < (qs.length : Int)) = true by simpa using hkl] at hi
  have HI := Lib.hid hi
  have Hset := Lib.hid (encs_set2 qs k p (turnS p.2 a z) hk)
  obtain ⟨P1, P2⟩ := p
  dsimp only at *
  have hs' : P2.size ≤ 9223372036854775807 := hs
  have hcv := Lib.run_convert_string_bytes (P := Try.prog) w 9 53 5 P2 Try.underlying9 Try.underlying53 Try.underlying5
  have hb := Lib.bytesWorld_cell w 5 P2 a ha
  have hbf := bytesWorld_frozen w 5 P2 a ha
  have hx := xor_u8 (P2.data.toList.getD a 0) z
  have htc := turned_cells w 5 P2 a z ha
  have hr := h.cell.lt
  have hcap := own_cap h.own
  have hkp2 : Kp (fun _ => False) w ((Lib.bytesWorld w 5 P2).setCell ⟨w.heap.size, a, none⟩ (.int .u8 (((P2.data.toList.getD a 0).toNat ^^^ z.toNat : Nat) : Int))) := (bytesWorld_kp (fun _ => False) w 5 P2).set (p := ⟨w.heap.size, a, none⟩) (.inr (Nat.le_refl _)) _
  have hsz : (Lib.bytesWorld w 5 P2).heap.size = w.heap.size + 1 := Lib.bytesWorld_size _ _ _
  generalize hby : P2.data.toList.getD a 0 = by0 at hb hx htc hkp2
  generalize hw1 : Lib.bytesWorld w 5 P2 = w1 at hcv hb hbf htc hkp2 hsz
  generalize hcp : grownCap w P2.size 0 5 = cp at hcv
  have hneg : decide ((a : Int) < 0) = false := by simp
  have ha' : ¬ P2.size ≤ a := by omega
  have hxt := UInt8.toNat_xor by0 z
  rw [hxt] at htc
  obtain ⟨w2, hw2⟩ : ∃ w2, w2 = w1.setCell ⟨w.heap.size, a, none⟩ (.int .u8 ((by0.toNat ^^^ z.toNat : Nat) : Int)) := ⟨_, rfl⟩
  have hs2 : w2.heap.size = w.heap.size + 1 := by rw [hw2]; simpa using hsz
  rw [← hw2] at htc hkp2
  have hq := hkp2.whole h.cell (fun h => h)
  have q0 := hq.cell 0
  rw [show (#[Value.slice (some ⟨b, 0, none⟩) qs.length cap] : Array Value)[0]? = some (.slice (some ⟨b, 0, none⟩) qs.length cap) from rfl] at q0
  have hS : Src (w2.alloc (.cells #[] 44)) 2 (.slice (some ⟨b, 0, none⟩) qs.length cap) qs.length (encs encPk qs) := (hkp2.alloc _).src (ownsRow_src h.own (encs_one (fun x _ => encPk_one x))) (fun _ _ h => h)
  have HS := Lib.hid hS
  have Hkp2 := Lib.hid hkp2
  have Hs2 := Lib.hid hs2
  have hs2' : r < w2.heap.size := by omega
  have Htc := Lib.hid htc
  have hlen : (turnS P2 a z).data.toList.length = P2.size := by rw [Array.length_toList]; exact turnS_size P2 a z
  have Hlen := Lib.hid hlen
  have H := Lib.hid h
  obtain ⟨i0, hii, hz0, hz1, hz2⟩ := info_parts infoRk
  have Hi := Lib.hid hii
  have Hz0 := Lib.hid hz0
  have Hz1 := Lib.hid hz1
  have Hz2 := Lib.hid hz2
  have Hw2 := Lib.hid hw2
  have Hw1 := Lib.hid hw1
  clear hw2 hxt hlen htc hkp2 hs2 hsz hS hq
  clear h hk hi hcells hs hw1 hcp hby hii hz0 hz1 hz2
  go_enter Try.func23, Try.ntmps23
  go_wp2_with fail
  refine (HI.out).mono ?_
  rintro e wq ⟨rfl, rfl⟩
  go_upto_region 5 with (fail)
  rw [← Hw2.out]
  go_wp2_with (at_builtin; refine wpList_app rfl (.tmp 50) (.tmp 54) 41 rfl 0 44 i0 _ 2 24 Try.underlying41 Hi.out Hz0.out Hz1.out Hz2.out rfl (by decide) _ 0 [] rfl (own_new2 _ rfl rfl) _ qs.length _ rfl HS.out (by unfold maxLen; omega) (by omega) (by omega) ?_; intro v' w3 hown1 hg1 hn1; obtain ⟨A', cap', rfl⟩ := own_form hown1; have hk1 : Kp (fun _ => False) w2 w3 := Kp.grown ((Kp.refl _ w2).alloc _) hg1 (fun i hi hlt => by have := Option.some.inj hi; dsimp only at this; omega); have hf1 := near_far (N := w2.heap.size) hn1 (by omega) (by simp); rw [Nat.zero_add, List.nil_append] at hown1; obtain ⟨b', rfl, _⟩ := own_some hown1 (by omega); have hbf := hf1 b' rfl; have q0 := (hk1.whole (Hkp2.out.whole H.out.cell (fun h => h)) (fun h => h)).cell 0; have q1 := (hk1.whole (Hkp2.out.whole H.out.cell (fun h => h)) (fun h => h)).frozen 0; have hback := run_convert_bytes_back (P := Try.prog) w3 53 9 5 ⟨w.heap.size, 0, none⟩ cp (turnS P2 a z).data.toList Try.underlying53 Try.underlying5 Try.underlying9 (fun j hj => by rw [Addr.add_lit, Nat.zero_add, hk1.cell (p := ⟨w.heap.size, j, none⟩) (by have := Hs2.out; dsimp only; omega) (fun h => h)]; exact Htc.out j hj); rw [Hlen.out, Array.toArray_toList] at hback; obtain ⟨x1, y1⟩ := own_cell hown1 (k * 2 + 1) (by omega); have z1 := own_free hown1 (k * 2 + 1); have Hown1 := Lib.hid hown1; have Hk1 := Lib.hid hk1; have Hbf := Lib.hid hbf; have hbr : r ≠ b' := (by omega); have hbr2 : b' ≠ r := (by omega); clear hown1 hg1 hn1 hk1 hf1 hbf)
  go_ret
  have hb' : w.heap.size ≤ b' := by have := Hbf.out; have := Hs2.out; omega
  have hk2 : Kp (fun _ => False) w (w3.setCell ⟨b', k * 2 + 1, none⟩ (.string (turnS P2 a z))) := (Hkp2.out.trans Hk1.out).set (p := ⟨b', k * 2 + 1, none⟩) (.inr hb') _
  have z := ownsRow_set Hown1.out (k * 2 + 1) (.string (turnS P2 a z))
  rw [Hset.out] at z
  exact ⟨rfl, ref_left H.out hk2 z (by rw [List.length_set]) hf (fun i hi => by have := Option.some.inj hi; dsimp only at *; omega)⟩
end Go.Proofs.Ytelhnhnbfjamhaa
