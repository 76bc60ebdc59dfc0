/-
  The reference's net: Swap.
-/
import Derived.Test.YtelhnhnbfjamhaaRefTake
namespace Go.Proofs.Ytelhnhnbfjamhaa
open Go.RowKit

set_option maxRecDepth 100000 in
set_option maxHeartbeats 1000000 in
theorem ref_swap_none {w : World} {r : Nat} {A : Option Addr} {cap : Nat} {qs : List Pk} (h : RefAt w r A cap qs) (k j : Int) (hk : ¬ ((0 ≤ k ∧ k < qs.length) ∧ (0 ≤ j ∧ j < qs.length))) :
    Calls Try.prog 24 #[.pointer (some ⟨r, 0, none⟩), .int .i64 k, .int .i64 j] w fun e w' => e = .returned (.bool false) ∧ Kp (fun _ => False) w w' := by
  by_cases h1 : 0 ≤ k ∧ k < (qs.length : Int)
  · have h2 : ¬ (0 ≤ j ∧ j < (qs.length : Int)) := fun h => hk ⟨h1, h⟩
    have hi := ref_has h k
    have hj := ref_has h j
    rw [decide_eq_true h1] at hi
    rw [decide_eq_false h2] at hj
    have HI := Lib.hid hi
    have HJ := Lib.hid hj
    clear h hk hi hj h1 h2
    go_enter Try.func24, Try.ntmps24
    go_wp2_with fail
    refine (HI.out).mono ?_
    rintro e w1 ⟨rfl, rfl⟩
    go_wp2_with fail
    refine (HJ.out).mono ?_
    rintro e w1 ⟨rfl, rfl⟩
    go_wp2_with fail
    go_ret
    exact ⟨rfl, Kp.refl _ _⟩
  · have hi := ref_has h k
    rw [decide_eq_false h1] at hi
    have HI := Lib.hid hi
    clear h hk hi h1
    go_enter Try.func24, Try.ntmps24
    go_wp2_with fail
    refine (HI.out).mono ?_
    rintro e w1 ⟨rfl, rfl⟩
    go_wp2_with fail
    go_ret
    exact ⟨rfl, Kp.refl _ _⟩

set_option maxRecDepth 100000 in
set_option maxHeartbeats 1000000 in
theorem ref_turn_none {w : World} {r : Nat} {A : Option Addr} {cap : Nat} {qs : List Pk} (h : RefAt w r A cap qs) (k a y : Int) (hk : ¬ (0 ≤ k ∧ k < qs.length)) :
    Calls Try.prog 23 #[.pointer (some ⟨r, 0, none⟩), .int .i64 k, .int .i64 a, .int .u8 y] w fun e w' => e = .returned (.bool false) ∧ Kp (fun _ => False) w w' := by
  have hi := ref_has h k
  rw [decide_eq_false hk] at hi
  have HI := Lib.hid hi
  clear h hk hi
  go_enter Try.func23, Try.ntmps23
  go_wp2_with fail
  refine (HI.out).mono ?_
  rintro e w1 ⟨rfl, rfl⟩
  go_wp2_with fail
  go_ret
  exact ⟨rfl, Kp.refl _ _⟩

set_option maxRecDepth 100000 in
set_option maxHeartbeats 1000000 in
theorem ref_turn_out {w : World} {r : Nat} {A : Option Addr} {cap : Nat} {qs : List Pk} (h : RefAt w r A cap qs) (k : Nat) (p : Pk) (hk : qs[k]? = some p) (hs : p.2.size ≤ maxLen) (a y : Int) (ha : ¬ (0 ≤ a ∧ a < p.2.size)) :
    Calls Try.prog 23 #[.pointer (some ⟨r, 0, none⟩), .int .i64 k, .int .i64 a, .int .u8 y] w fun e w' => e = .returned (.bool false) ∧ Kp (fun _ => False) w w' := by
  have hkl : k < qs.length := (List.getElem?_eq_some_iff.1 hk).1
  have hf := h.few
  have c0 := h.cell.cell 0
  rw [show (#[Value.slice A qs.length cap] : Array Value)[0]? = some (.slice A qs.length cap) from rfl] at c0
  obtain ⟨b, rfl, hcells⟩ := own_some h.own (by omega)
  have e1 := hcells (k * 2 + 1) _ (pk1 hk)
  have hi := ref_has h k
  rw [show decide (0 ≤ (k : Int) ∧ (k : Int) < (qs.length : Int)) = true by simpa using hkl] at hi
  have HI := Lib.hid hi
  obtain ⟨P1, P2⟩ := p
  dsimp only at *
  have hs' : P2.size ≤ 9223372036854775807 := hs
  clear h hk hi hcells hs
  by_cases h0 : a < 0
  · clear ha
    go_enter Try.func23, Try.ntmps23
    go_wp2_with fail
    refine (HI.out).mono ?_
    rintro e w1 ⟨rfl, rfl⟩
    go_wp2_with fail
    go_ret
    exact ⟨rfl, Kp.refl _ _⟩
  · have h1 : ¬ a < P2.size := fun h => ha ⟨by omega, h⟩
    clear ha
    go_enter Try.func23, Try.ntmps23
    go_wp2_with fail
    refine (HI.out).mono ?_
    rintro e w1 ⟨rfl, rfl⟩
    go_wp2_with fail
    go_ret
    exact ⟨rfl, Kp.refl _ _⟩

theorem own_new2 {w W1 : World} {b : Nat} (e : TypeId) (hw : w = W1.alloc (.cells #[] e)) (hb : b = W1.heap.size) : w.ownsRow 0 e 2 (.slice (some ⟨b, 0, none⟩) 0 0) 0 [] := by
  subst hw hb
  exact World.ownsRow_made W1 #[] 0 (Nat.zero_le _) (Nat.zero_le _) rfl

set_option maxRecDepth 100000 in
set_option maxHeartbeats 1000000 in
theorem ref_swap {w : World} {r : Nat} {A : Option Addr} {cap : Nat} {qs : List Pk} (h : RefAt w r A cap qs) (k j : Nat) (p q : Pk) (hk : qs[k]? = some p) (hj : qs[j]? = some q) :
    Calls Try.prog 24 #[.pointer (some ⟨r, 0, none⟩), .int .i64 k, .int .i64 j] w fun e w' => e = .returned (.bool true) ∧ RefLeft w r (swapL qs k j p q) w' := by
  have hkl : k < qs.length := (List.getElem?_eq_some_iff.1 hk).1
  have hjl : j < qs.length := (List.getElem?_eq_some_iff.1 hj).1
  have hf := h.few
  have c0 := h.cell.cell 0
  rw [show (#[Value.slice A qs.length cap] : Array Value)[0]? = some (.slice A qs.length cap) from rfl] at c0
  obtain ⟨b, rfl, hcells⟩ := own_some h.own (by omega)
  have e0 := hcells (k * 2) _ (pk0 hk)
  have e1 := hcells (k * 2 + 1) _ (pk1 hk)
  have d0 := hcells (j * 2) _ (pk0 hj)
  have d1 := hcells (j * 2 + 1) _ (pk1 hj)
  have hi := ref_has h k
  have hi' := ref_has h j
  rw [show decide (0 ≤ (k : Int) ∧ (k : Int) < (qs.length : Int)) = true by simpa using hkl] at hi
  rw [show decide (0 ≤ (j : Int) ∧ (j : Int) < (qs.length : Int)) = true by simpa using hjl] at hi'
  have HI := Lib.hid hi
  have HJ := Lib.hid hi'
  have hr := h.cell.lt
  have hcap := own_cap h.own
  have hS : Src (w.alloc (.cells #[] 44)) 2 (.slice (some ⟨b, 0, none⟩) qs.length cap) qs.length (encs encPk qs) := ((Kp.refl (fun _ => False) w).alloc _).src (ownsRow_src h.own (encs_one (fun x _ => encPk_one x))) (fun _ _ h => h)
  have HS := Lib.hid hS
  have H := Lib.hid h
  have hsl : (swapL qs k j p q).length = qs.length := by simp [swapL]
  have Hsl := Lib.hid hsl
  obtain ⟨i0, hii, hz0, hz1, hz2⟩ := info_parts infoRk
  have Hi := Lib.hid hii
  have Hz0 := Lib.hid hz0
  have Hz1 := Lib.hid hz1
  have Hz2 := Lib.hid hz2
  have He := Lib.hid (encs_set qs k q hkl)
  have He2 := Lib.hid (encs_set (qs.set k q) j p (by simpa using hjl))
  clear h hi hi' hcells hk hj hS hsl hii hz0 hz1 hz2
  obtain ⟨P1, P2⟩ := p
  obtain ⟨Q1, Q2⟩ := q
  dsimp only at *
  have hbl := hcap.2.2.2
  have hpq : k = j → P1 = Q1 ∧ P2 = Q2 := by
    intro e
    subst e
    rw [e0] at d0
    rw [e1] at d1
    simpa using And.intro d0 d1
  have Hpq := Lib.hid hpq
  clear hpq
  by_cases hkj : k = j
  · subst hkj
    obtain ⟨rfl, rfl⟩ := Hpq.out rfl
    go_enter Try.func24, Try.ntmps24
    go_wp2_with fail
    refine (HI.out).mono ?_
    rintro e w1 ⟨rfl, rfl⟩
    go_wp2_with fail
    refine (HJ.out).mono ?_
    rintro e w1 ⟨rfl, rfl⟩
    go_wp2_with (at_builtin; refine wpList_app rfl (.tmp 18) (.tmp 22) 41 rfl 0 44 i0 _ 2 24 Try.underlying41 Hi.out Hz0.out Hz1.out Hz2.out rfl (by decide) _ 0 [] rfl (own_new2 _ rfl rfl) _ qs.length _ rfl HS.out (by unfold maxLen; omega) (by omega) (by omega) ?_; intro v' w1 hown1 hg1 hn1; obtain ⟨A', cap', rfl⟩ := own_form hown1; have hk1 : Kp (fun _ => False) w w1 := Kp.grown ((Kp.refl _ w).alloc _) hg1 (fun i hi hlt => by have := Option.some.inj hi; dsimp only at this; omega); have hf1 := near_far (N := w.heap.size) hn1 (by omega) (by simp); rw [Nat.zero_add, List.nil_append] at hown1; obtain ⟨b', rfl, _⟩ := own_some hown1 (by omega); have hbf := hf1 b' rfl; have q0 := (hk1.whole H.out.cell (fun h => h)).cell 0; have q1 := (hk1.whole H.out.cell (fun h => h)).frozen 0; rw [show (#[Value.slice (some ⟨b, 0, none⟩) qs.length cap] : Array Value)[0]? = some (.slice (some ⟨b, 0, none⟩) qs.length cap) from rfl] at q0; rw [← hk1.cell (p := ⟨b, _, none⟩) hbl (fun h => h)] at e0 e1 d0 d1; obtain ⟨x0, y0⟩ := own_cell hown1 (k * 2) (by omega); obtain ⟨x1, y1⟩ := own_cell hown1 (k * 2 + 1) (by omega); obtain ⟨x2, y2⟩ := own_cell hown1 (k * 2) (by omega); obtain ⟨x3, y3⟩ := own_cell hown1 (k * 2 + 1) (by omega); have z0 := own_free hown1 (k * 2); have z1 := own_free hown1 (k * 2 + 1); have z2 := own_free hown1 (k * 2); have z3 := own_free hown1 (k * 2 + 1); have Hown1 := Lib.hid hown1; have Hk1 := Lib.hid hk1; have Hbf := Lib.hid hbf; have hbb : b ≠ b' := (by omega); have hbr : r ≠ b' := (by omega); have hbb2 : b' ≠ b := (by omega); have hbr2 : b' ≠ r := (by omega); clear hown1 hg1 hn1 hk1 hf1 hbf)
    go_ret
    have hk2 : Kp (fun _ => False) w ((((w1.setCell ⟨b', k * 2, none⟩ (.int .i64 P1)).setCell ⟨b', k * 2 + 1, none⟩ (.string P2)).setCell ⟨b', k * 2, none⟩ (.int .i64 P1)).setCell ⟨b', k * 2 + 1, none⟩ (.string P2)) :=
      (((Hk1.out.set (p := ⟨b', k * 2, none⟩) (.inr Hbf.out) _).set (p := ⟨b', k * 2 + 1, none⟩) (.inr Hbf.out) _).set (p := ⟨b', k * 2, none⟩) (.inr Hbf.out) _).set (p := ⟨b', k * 2 + 1, none⟩) (.inr Hbf.out) _
    have z := ownsRow_set (ownsRow_set (ownsRow_set (ownsRow_set Hown1.out (k * 2) (.int .i64 P1)) (k * 2 + 1) (.string P2)) (k * 2) (.int .i64 P1)) (k * 2 + 1) (.string P2)
    rw [He.out, He2.out] at z
    exact ⟨rfl, ref_left H.out hk2 z Hsl.out hf (fun i hi => by have := Option.some.inj hi; have := Hbf.out; dsimp only at *; omega)⟩
  · have n1 : k * 2 ≠ j * 2 := by omega
    have n2 : k * 2 + 1 ≠ j * 2 := by omega
    have n3 : k * 2 ≠ j * 2 + 1 := by omega
    have n4 : k * 2 + 1 ≠ j * 2 + 1 := by omega
    go_enter Try.func24, Try.ntmps24
    go_wp2_with fail
    refine (HI.out).mono ?_
    rintro e w1 ⟨rfl, rfl⟩
    go_wp2_with fail
    refine (HJ.out).mono ?_
    rintro e w1 ⟨rfl, rfl⟩
    go_wp2_with (at_builtin; refine wpList_app rfl (.tmp 18) (.tmp 22) 41 rfl 0 44 i0 _ 2 24 Try.underlying41 Hi.out Hz0.out Hz1.out Hz2.out rfl (by decide) _ 0 [] rfl (own_new2 _ rfl rfl) _ qs.length _ rfl HS.out (by unfold maxLen; omega) (by omega) (by omega) ?_; intro v' w1 hown1 hg1 hn1; obtain ⟨A', cap', rfl⟩ := own_form hown1; have hk1 : Kp (fun _ => False) w w1 := Kp.grown ((Kp.refl _ w).alloc _) hg1 (fun i hi hlt => by have := Option.some.inj hi; dsimp only at this; omega); have hf1 := near_far (N := w.heap.size) hn1 (by omega) (by simp); rw [Nat.zero_add, List.nil_append] at hown1; obtain ⟨b', rfl, _⟩ := own_some hown1 (by omega); have hbf := hf1 b' rfl; have q0 := (hk1.whole H.out.cell (fun h => h)).cell 0; have q1 := (hk1.whole H.out.cell (fun h => h)).frozen 0; rw [show (#[Value.slice (some ⟨b, 0, none⟩) qs.length cap] : Array Value)[0]? = some (.slice (some ⟨b, 0, none⟩) qs.length cap) from rfl] at q0; rw [← hk1.cell (p := ⟨b, _, none⟩) hbl (fun h => h)] at e0 e1 d0 d1; obtain ⟨x0, y0⟩ := own_cell hown1 (k * 2) (by omega); obtain ⟨x1, y1⟩ := own_cell hown1 (k * 2 + 1) (by omega); obtain ⟨x2, y2⟩ := own_cell hown1 (j * 2) (by omega); obtain ⟨x3, y3⟩ := own_cell hown1 (j * 2 + 1) (by omega); have z0 := own_free hown1 (k * 2); have z1 := own_free hown1 (k * 2 + 1); have z2 := own_free hown1 (j * 2); have z3 := own_free hown1 (j * 2 + 1); have Hown1 := Lib.hid hown1; have Hk1 := Lib.hid hk1; have Hbf := Lib.hid hbf; have hbb : b ≠ b' := (by omega); have hbr : r ≠ b' := (by omega); have hbb2 : b' ≠ b := (by omega); have hbr2 : b' ≠ r := (by omega); clear hown1 hg1 hn1 hk1 hf1 hbf)
    go_ret
    have hk2 : Kp (fun _ => False) w ((((w1.setCell ⟨b', k * 2, none⟩ (.int .i64 Q1)).setCell ⟨b', k * 2 + 1, none⟩ (.string Q2)).setCell ⟨b', j * 2, none⟩ (.int .i64 P1)).setCell ⟨b', j * 2 + 1, none⟩ (.string P2)) :=
      (((Hk1.out.set (p := ⟨b', k * 2, none⟩) (.inr Hbf.out) _).set (p := ⟨b', k * 2 + 1, none⟩) (.inr Hbf.out) _).set (p := ⟨b', j * 2, none⟩) (.inr Hbf.out) _).set (p := ⟨b', j * 2 + 1, none⟩) (.inr Hbf.out) _
    have z := ownsRow_set (ownsRow_set (ownsRow_set (ownsRow_set Hown1.out (k * 2) (.int .i64 Q1)) (k * 2 + 1) (.string Q2)) (j * 2) (.int .i64 P1)) (j * 2 + 1) (.string P2)
    rw [He.out, He2.out] at z
    exact ⟨rfl, ref_left H.out hk2 z Hsl.out hf (fun i hi => by have := Option.some.inj hi; have := Hbf.out; dsimp only at *; omega)⟩
end Go.Proofs.Ytelhnhnbfjamhaa
