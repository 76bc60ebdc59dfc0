/-
  Turn of a net: where it is done.
-/
import Derived.Test.YtelhnhnbfjamhaaNetTurn
namespace Go.Proofs.Ytelhnhnbfjamhaa
open Go.RowKit

theorem bytesWorld_kp (S : Nat → Prop) (w : World) (e : TypeId) (s : ByteArray) : Kp S w (Lib.bytesWorld w e s) :=
  ⟨rfl, rfl, rfl, by rw [Lib.bytesWorld_size]; omega, fun k hk _ => Lib.bytesWorld_at_old w e s k hk⟩

theorem NetAt.drew {w : World} {g B : Nat} {A : Option Addr} {cap : Nat} {ps : List Pk} (h : NetAt w g B A cap ps) : NetAt w.drew g B A cap ps := ⟨h.cell.drew, h.own.drew, h.far, h.few⟩

theorem encs_set2 (ps : List Pk) (k : Nat) (p : Pk) (s : ByteArray) (hk : ps[k]? = some p) : (encs encPk ps).set (k * 2 + 1) (.string s) = encs encPk (ps.set k (p.1, s)) := by
  have hkl : k < ps.length := (List.getElem?_eq_some_iff.1 hk).1
  rw [← encs_set ps k (p.1, s) hkl]
  congr 1
  have h0 := pk0 hk
  apply List.ext_getElem?
  intro i
  rw [List.getElem?_set]
  split
  · rename_i hi
    subst hi
    split
    · exact h0
    · rename_i hx
      rw [List.getElem?_eq_none (by omega)]
  · rfl

/-- What a turned byte leaves. -/
theorem turn_left {w : World} {g B b : Nat} {cap : Nat} {ps : List Pk} (h : NetAt w g B (some ⟨b, 0, none⟩) cap ps) (k : Nat) (p : Pk) (hk : ps[k]? = some p) (e : TypeId) (s : ByteArray) (a : Nat) (v : Value) (x : ByteArray) :
    Kp (NetS g (some ⟨b, 0, none⟩)) w (((Lib.bytesWorld w e s).setCell ⟨w.heap.size, a, none⟩ v).setCell ⟨b, k * 2 + 1, none⟩ (.string x)) ∧
    NetAt (((Lib.bytesWorld w e s).setCell ⟨w.heap.size, a, none⟩ v).setCell ⟨b, k * 2 + 1, none⟩ (.string x)) g B (some ⟨b, 0, none⟩) cap (ps.set k (p.1, x)) := by
  have hgb : g ≠ b := by
    have := (own_cap h.own).2.2.1
    have := h.far
    omega
  have k1 : Kp (fun k => k = w.heap.size) w ((Lib.bytesWorld w e s).setCell ⟨w.heap.size, a, none⟩ v) := (bytesWorld_kp (fun k => k = w.heap.size) w e s).set (p := ⟨w.heap.size, a, none⟩) (.inl rfl) _
  have hbl := (own_cap h.own).2.2.2
  have hgl := h.cell.lt
  refine ⟨(k1.mono (S' := NetS g (some ⟨b, 0, none⟩)) (fun k hk e => by omega)).set (p := ⟨b, k * 2 + 1, none⟩) (.inl (.inr rfl)) _, ?_, ?_, h.far, ?_⟩
  · rw [List.length_set]
    exact (k1.whole h.cell (by omega)).far (by simpa using hgb) _
  · rw [List.length_set, ← encs_set2 ps k p x hk]
    refine ownsRow_set (k1.own h.own (fun k hk e => ?_)) (k * 2 + 1) _
    have : b = k := Option.some.inj hk
    omega
  · rw [List.length_set]; exact h.few

set_option maxRecDepth 100000 in
set_option maxHeartbeats 1000000 in
theorem net_turn {w : World} {g B : Nat} {A : Option Addr} {cap : Nat} {ps : List Pk} (h : NetAt w g B A cap ps) (k : Nat) (p : Pk) (hk : ps[k]? = some p) (hs : p.2.size ≤ maxLen) (a : Nat) (z : UInt8) (ha : a < p.2.size) :
    Calls Try.prog 19 #[.pointer (some ⟨g, 0, none⟩), .int .i64 k, .int .i64 a, .int .u8 (z.toNat : Int)] w fun e w' => e = .returned (.bool true) ∧ Kp (NetS g A) w w' ∧ NetAt w' g B A cap (ps.set k (p.1, turnS p.2 a z)) := by
  have hkl : k < ps.length := (List.getElem?_eq_some_iff.1 hk).1
  have hf := h.few
  have c0 := h.cell.cell 0
  rw [show (#[Value.slice A ps.length cap] : Array Value)[0]? = some (.slice A ps.length cap) from rfl] at c0
  obtain ⟨b, rfl, hcells⟩ := own_some h.own (by omega)
  have e1 := hcells (k * 2 + 1) _ (pk1 hk)
  have hd : decide (0 ≤ (k : Int) ∧ (k : Int) < (ps.length : Int)) = true := by simpa using hkl
  have hi := net_is h k
  rw [hd] at hi
  have HI := Lib.hid hi
  obtain ⟨P1, P2⟩ := p
  dsimp only at *
  have hs' : P2.size ≤ 9223372036854775807 := hs
  have hcv := Lib.run_convert_string_bytes (P := Try.prog) w 9 53 5 P2 Try.underlying9 Try.underlying53 Try.underlying5
  have hb := Lib.bytesWorld_cell w 5 P2 a ha
  have hbf := bytesWorld_frozen w 5 P2 a ha
  have hx := xor_u8 (P2.data.toList.getD a 0) z
  have htc := turned_cells w 5 P2 a z ha
  have hgl := h.cell.lt
  have hbl := (own_cap h.own).2.2.2
  have hgb1 : (Lib.bytesWorld w 5 P2).cell? ⟨g, 0, none⟩ = some (.slice (some ⟨b, 0, none⟩) ps.length cap) := by
    rw [Lib.bytesWorld_old _ _ _ _ hgl]; exact c0
  generalize hby : P2.data.toList.getD a 0 = by0 at hb hx htc
  generalize hw1 : Lib.bytesWorld w 5 P2 = w1 at hcv hb hbf htc hgb1
  generalize hcap : grownCap w P2.size 0 5 = cp at hcv
  have hneg : decide ((a : Int) < 0) = false := by simp
  have ha' : ¬ P2.size ≤ a := by omega
  have HC := Lib.hid hcells
  have Hw1 := Lib.hid hw1
  have Htc := Lib.hid htc
  have H := Lib.hid h
  have hxt := UInt8.toNat_xor by0 z
  have hw2w : ∀ v, (w1.setCell ⟨w.heap.size, a, none⟩ v).cell? ⟨g, 0, none⟩ = some (.slice (some ⟨b, 0, none⟩) ps.length cap) := fun v => by
    rw [World.cell?_setCell_far _ _ _ _ (by simp; omega)]; exact hgb1
  have he2 : ∀ v, (w1.setCell ⟨w.heap.size, a, none⟩ v).cell? ⟨b, k * 2 + 1, none⟩ = some (.string P2) := fun v => by
    rw [World.cell?_setCell_far _ _ _ _ (by simp; omega), ← hw1, Lib.bytesWorld_old _ _ _ _ hbl]; exact e1
  rw [hxt] at htc
  obtain ⟨w2, hw2⟩ : ∃ w2, w2 = w1.setCell ⟨w.heap.size, a, none⟩ (.int .u8 ((by0.toNat ^^^ z.toNat : Nat) : Int)) := ⟨_, rfl⟩
  have q0 := hw2w (.int .u8 ((by0.toNat ^^^ z.toNat : Nat) : Int))
  have q1 := he2 (.int .u8 ((by0.toNat ^^^ z.toNat : Nat) : Int))
  rw [← hw2] at q0 q1 htc
  have hback := run_convert_bytes_back (P := Try.prog) w2.drew 53 9 5 ⟨w.heap.size, 0, none⟩ cp (turnS P2 a z).data.toList Try.underlying53 Try.underlying5 Try.underlying9 (fun j hj => by rw [Addr.add_lit, Nat.zero_add]; exact htc j hj)
  have hlen : (turnS P2 a z).data.toList.length = P2.size := by rw [Array.length_toList]; exact turnS_size P2 a z
  rw [hlen, Array.toArray_toList] at hback
  have hw2f : w2.frozen? ⟨b, k * 2 + 1, none⟩ = false := by
    rw [hw2, ← hw1, World.frozen?_setCell, World.frozen?_of_block (Lib.bytesWorld_at_old w _ _ b hbl)]
    rcases h.own.2 with ⟨hv, h0⟩ | ⟨b', c, cur, hv, _, hb, _⟩
    · cases hv
    · cases hv; exact Whole.frozen hb _
  have hfin := turn_left h k (P1, P2) hk 5 P2 a (.int .u8 ((by0.toNat ^^^ z.toNat : Nat) : Int)) (turnS P2 a z)
  rw [hw1, ← hw2] at hfin
  have Hfin := Lib.hid hfin
  have Hw2 := Lib.hid hw2
  clear hfin hw2w he2 hxt hlen hw2
  clear h hk hi hd hcells hs hw1 htc hcap hby
  go_enter Try.func19, Try.ntmps19
  go_wp2_with fail
  refine (HI.out).mono ?_
  rintro e w1 ⟨rfl, rfl⟩
  go_wp2_with fail
  rw [← Hw2.out]
  go_region
  all_goals
    go_wp2_with fail
    go_ret
    exact ⟨rfl, Hfin.out.1.drew, Hfin.out.2.drew⟩
end Go.Proofs.Ytelhnhnbfjamhaa
