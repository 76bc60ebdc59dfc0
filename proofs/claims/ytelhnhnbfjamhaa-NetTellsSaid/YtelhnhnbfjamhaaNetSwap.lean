/-
  Swap of a net.
-/
import Derived.Test.YtelhnhnbfjamhaaNetMore
import Derived.BigRegion
namespace Go.Proofs.Ytelhnhnbfjamhaa
open Go.RowKit

def swapL (ps : List Pk) (k j : Nat) (p q : Pk) : List Pk := (ps.set k q).set j p

theorem encs_set (ps : List Pk) (k : Nat) (q : Pk) (hk : k < ps.length) : ((encs encPk ps).set (k * 2) (.int .i64 q.1)).set (k * 2 + 1) (.string q.2) = encs encPk (ps.set k q) := by
  induction ps generalizing k with
  | nil => simp at hk
  | cons a ps ih =>
    have e : encs encPk (a :: ps) = .int .i64 a.1 :: .string a.2 :: encs encPk ps := rfl
    cases k with
    | zero => rfl
    | succ k =>
      rw [e, show (k + 1) * 2 = k * 2 + 1 + 1 by omega, List.set_cons_succ, List.set_cons_succ, List.set_cons_succ, List.set_cons_succ, ih k (by simpa using hk)]
      rfl

set_option maxRecDepth 100000 in
set_option maxHeartbeats 2000000 in
theorem net_swap {w : World} {g B : Nat} {A : Option Addr} {cap : Nat} {ps : List Pk} (h : NetAt w g B A cap ps) (k j : Nat) (p q : Pk) (hk : ps[k]? = some p) (hj : ps[j]? = some q) :
    Calls Try.prog 20 #[.pointer (some ⟨g, 0, none⟩), .int .i64 k, .int .i64 j] w fun e w' => e = .returned (.bool true) ∧ Kp (NetS g A) w w' ∧ NetAt w' g B A cap (swapL ps k j p q) := by
  have hkl : k < ps.length := (List.getElem?_eq_some_iff.1 hk).1
  have hjl : j < ps.length := (List.getElem?_eq_some_iff.1 hj).1
  have hf := h.few
  have c0 := h.cell.cell 0
  rw [show (#[Value.slice A ps.length cap] : Array Value)[0]? = some (.slice A ps.length cap) from rfl] at c0
  obtain ⟨b, rfl, hcells⟩ := own_some h.own (by omega)
  have e0 := hcells (k * 2) _ (pk0 hk)
  have e1 := hcells (k * 2 + 1) _ (pk1 hk)
  have d0 := hcells (j * 2) _ (pk0 hj)
  have d1 := hcells (j * 2 + 1) _ (pk1 hj)
  have hd : decide (0 ≤ (k : Int) ∧ (k : Int) < (ps.length : Int)) = true := by simpa using hkl
  have hd' : decide (0 ≤ (j : Int) ∧ (j : Int) < (ps.length : Int)) = true := by simpa using hjl
  have hi := net_is h k
  have hi' := net_is h j
  rw [hd] at hi
  rw [hd'] at hi'
  obtain ⟨P1, P2⟩ := p
  obtain ⟨Q1, Q2⟩ := q
  dsimp only at *
  have hbf : ∀ i, w.frozen? ⟨b, i, none⟩ = false := fun i => by
    rcases h.own.2 with ⟨hv, h0⟩ | ⟨b', c, cur, hv, _, hb, _⟩
    · cases hv
    · cases hv; exact Whole.frozen hb i
  have g0 := hbf (k * 2)
  have g1 := hbf (k * 2 + 1)
  have g2 := hbf (j * 2)
  have g3 := hbf (j * 2 + 1)
  have hgb : g ≠ b := by
    have := (own_cap h.own).2.2.1
    have := h.far
    omega
  have HI := Lib.hid hi
  have HJ := Lib.hid hi'
  have H := Lib.hid h
  have Hc := Lib.hid hcells
  have hk31 : k < 64 := by omega
  have hj31 : j < 64 := by omega
  have hpq : k = j → P1 = Q1 ∧ P2 = Q2 := by
    intro e
    subst e
    rw [hk] at hj
    simpa using hj
  clear hi hi' h hcells hd hd' hk hj hbf
  have hfin : Kp (NetS g (some ⟨b, 0, none⟩)) w ((((w.setCell ⟨b, k * 2, none⟩ (.int .i64 Q1)).setCell ⟨b, k * 2 + 1, none⟩ (.string Q2)).setCell ⟨b, j * 2, none⟩ (.int .i64 P1)).setCell ⟨b, j * 2 + 1, none⟩ (.string P2)).drew ∧
      NetAt ((((w.setCell ⟨b, k * 2, none⟩ (.int .i64 Q1)).setCell ⟨b, k * 2 + 1, none⟩ (.string Q2)).setCell ⟨b, j * 2, none⟩ (.int .i64 P1)).setCell ⟨b, j * 2 + 1, none⟩ (.string P2)).drew g B (some ⟨b, 0, none⟩) cap (swapL ps k j (P1, P2) (Q1, Q2)) := by
    have hln : (swapL ps k j (P1, P2) (Q1, Q2)).length = ps.length := by simp [swapL]
    refine ⟨(((((Kp.refl _ _).set (.inl (.inr rfl)) _).set (.inl (.inr rfl)) _).set (.inl (.inr rfl)) _).set (.inl (.inr rfl)) _).drew, ?_, ?_, H.out.far, by rw [hln]; exact hf⟩
    · rw [hln]
      exact ((((H.out.cell.far (p := ⟨b, k * 2, none⟩) hgb _).far (p := ⟨b, k * 2 + 1, none⟩) hgb _).far (p := ⟨b, j * 2, none⟩) hgb _).far (p := ⟨b, j * 2 + 1, none⟩) hgb _).drew
    · rw [hln]
      have z := ownsRow_set (ownsRow_set (ownsRow_set (ownsRow_set H.out.own (k * 2) (.int .i64 Q1)) (k * 2 + 1) (.string Q2)) (j * 2) (.int .i64 P1)) (j * 2 + 1) (.string P2)
      rw [encs_set ps k (Q1, Q2) hkl, encs_set _ j (P1, P2) (by simpa using hjl)] at z
      exact z.drew
  have Hfin := Lib.hid hfin
  clear hfin
  by_cases hkj : k = j
  · subst hkj
    obtain ⟨rfl, rfl⟩ := hpq rfl
    go_enter Try.func20, Try.ntmps20
    go_wp2_with fail
    refine (HI.out).mono ?_
    rintro e w1 ⟨rfl, rfl⟩
    go_wp2_with fail
    refine (HJ.out).mono ?_
    rintro e w1 ⟨rfl, rfl⟩
    go_wp2_with fail
    go_region
    all_goals
      go_wp2_with fail
      go_ret
      exact ⟨rfl, Hfin.out⟩
  · have n1 : k * 2 ≠ j * 2 := by omega
    have n2 : k * 2 + 1 ≠ j * 2 := by omega
    have n3 : k * 2 ≠ j * 2 + 1 := by omega
    have n4 : k * 2 + 1 ≠ j * 2 + 1 := by omega
    go_enter Try.func20, Try.ntmps20
    go_wp2_with fail
    refine (HI.out).mono ?_
    rintro e w1 ⟨rfl, rfl⟩
    go_wp2_with fail
    refine (HJ.out).mono ?_
    rintro e w1 ⟨rfl, rfl⟩
    go_wp2_with fail
    go_region
    all_goals
      go_wp2_with fail
      go_ret
      exact ⟨rfl, Hfin.out⟩
end Go.Proofs.Ytelhnhnbfjamhaa
