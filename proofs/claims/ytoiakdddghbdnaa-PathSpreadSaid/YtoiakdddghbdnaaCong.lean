/-
  The calls of package cong (and of the document's window): what each does to the window in memory.
-/
import Derived.Test.YtoiakdddghbdnaaPick
import Derived.Test.YtoiakdddghbdnaaCongPure
namespace Go.Proofs.Ytoiakdddghbdnaa
open Go.RowKit

/-- The window's four cells hold s. -/
def setW (w : World) (b o : Nat) (s : W4) : World :=
  (((w.setCell ⟨b, o, none⟩ (.int .i64 s.S)).setCell ⟨b, o + 1, none⟩ (.int .i64 s.L)).setCell ⟨b, o + 2, none⟩ (.int .i64 s.P)).setCell ⟨b, o + 3, none⟩ (.int .i64 s.T)

/-- The window in memory: its cells, none frozen. -/
structure IsW (w : World) (b o : Nat) (s : W4) : Prop where
  c0 : w.cell? ⟨b, o, none⟩ = some (.int .i64 s.S)
  c1 : w.cell? ⟨b, o + 1, none⟩ = some (.int .i64 s.L)
  c2 : w.cell? ⟨b, o + 2, none⟩ = some (.int .i64 s.P)
  c3 : w.cell? ⟨b, o + 3, none⟩ = some (.int .i64 s.T)
  f0 : w.frozen? ⟨b, o, none⟩ = false
  f1 : w.frozen? ⟨b, o + 1, none⟩ = false
  f2 : w.frozen? ⟨b, o + 2, none⟩ = false
  f3 : w.frozen? ⟨b, o + 3, none⟩ = false

theorem setW_id {w : World} {b o : Nat} {s : W4} (h : IsW w b o s) : setW w b o s = w := by
  unfold setW
  rw [setCell_id h.c0 rfl, setCell_id h.c1 rfl, setCell_id h.c2 rfl, setCell_id h.c3 rfl]

theorem IsW.set {w : World} {b o : Nat} {s : W4} (h : IsW w b o s) (t : W4) : IsW (setW w b o t) b o t := by
  obtain ⟨c0, c1, c2, c3, f0, f1, f2, f3⟩ := h
  constructor <;> simp [setW, go_sem, c0, c1, c2, c3, f0, f1, f2, f3]

theorem setW_setW (w : World) (b o : Nat) (s t : W4) : setW (setW w b o s) b o t = setW w b o t := by
  unfold setW
  simp (disch := omega) only [setCell_sort, setCell_set]

set_option maxHeartbeats 400000 in
theorem fits_any (b o : Nat) (S n : Int) (w : World) (h0 : w.cell? ⟨b, o, none⟩ = some (.int .i64 S)) :
    Calls Try.prog 34 #[.pointer (some ⟨b, o, none⟩), .int .i64 n] w fun e w' => e = .returned (.bool (decide (n < S))) ∧ w = w' := by
  go_enter Try.func34, Try.ntmps34
  go_wp2
  go_ret
  exact ⟨rfl, rfl⟩

set_option maxHeartbeats 400000 in
theorem bad_any (b o : Nat) (s : W4) (num next : Int) (w : World) (h : IsW w b o s) (hi : s.Inv) :
    Calls Try.prog 30 #[.pointer (some ⟨b, o, none⟩), .int .i64 num, .int .i64 next] w fun e w' => e = .returned (.tuple #[]) ∧ w' = setW w b o (s.bad num next) := by
  have hid := Lib.hid (setW_id h)
  obtain ⟨c0, c1, c2, c3, f0, f1, f2, f3⟩ := h
  obtain ⟨S, L, P, T⟩ := s
  obtain ⟨i0, i1, i2, i3, i4, i5⟩ := hi
  simp only at c0 c1 c2 c3 i0 i1 i2 i3 i4 i5
  by_cases hlt : num < T
  · have hb : W4.bad ⟨S, L, P, T⟩ num next = ⟨S, L, P, T⟩ := by unfold W4.bad; rw [if_pos hlt]
    have Hb := Lib.hid hb
    clear hb
    go_enter Try.func30, Try.ntmps30
    go_wp2
    refine bodyPost_ret (results_none rfl _ _ _) rfl ?_
    rw [Hb.out, hid.out]
    exact ⟨rfl, rfl⟩
  · have hb : W4.bad ⟨S, L, P, T⟩ num next = ⟨max 2 (S / 2), max 2 (S / 2), 0, next⟩ := by unfold W4.bad; rw [if_neg hlt]
    have Hb := Lib.hid hb
    clear hb
    go_enter Try.func30, Try.ntmps30
    go_wp2
    · have hm : max 2 (S / 2) = S / 2 := by omega
      go_end0
      rw [Hb.out, hm]
      refine ⟨rfl, ?_⟩
      unfold setW
      simp (disch := omega) only [setCell_sort]
    · have hm : max 2 (S / 2) = 2 := by omega
      go_end0
      rw [Hb.out, hm]
      refine ⟨rfl, ?_⟩
      unfold setW
      simp (disch := omega) only [setCell_sort]

theorem IsW.drewN {w : World} {b o : Nat} {s : W4} (h : IsW w b o s) (n : Nat) : IsW (w.drewN n) b o s := ⟨h.c0, h.c1, h.c2, h.c3, h.f0, h.f1, h.f2, h.f3⟩

theorem IsW.alloc {w : World} {b o : Nat} {s : W4} (h : IsW w b o s) (x : Obj) : IsW (w.alloc x) b o s := by
  have hb : b < w.heap.size := by
    rcases Nat.lt_or_ge b w.heap.size with hlt | hge
    · exact hlt
    · have h0 := h.c0
      unfold World.cell? at h0
      rw [Array.getElem?_eq_none hge] at h0
      cases h0
  obtain ⟨c0, c1, c2, c3, f0, f1, f2, f3⟩ := h
  have hn := Nat.ne_of_lt hb
  exact ⟨by rw [World.cell?_alloc_lt _ _ _ hb]; exact c0, by rw [World.cell?_alloc_lt _ _ _ hb]; exact c1, by rw [World.cell?_alloc_lt _ _ _ hb]; exact c2, by rw [World.cell?_alloc_lt _ _ _ hb]; exact c3,
    by rw [World.frozen?_alloc_old _ _ _ hn]; exact f0, by rw [World.frozen?_alloc_old _ _ _ hn]; exact f1, by rw [World.frozen?_alloc_old _ _ _ hn]; exact f2, by rw [World.frozen?_alloc_old _ _ _ hn]; exact f3⟩

theorem IsW.farset {w : World} {b o g q : Nat} {s : W4} (h : IsW w b o s) (hne : b ≠ g) (t : W4) : IsW (setW w g q t) b o s := by
  obtain ⟨c0, c1, c2, c3, f0, f1, f2, f3⟩ := h
  have : g ≠ b := fun e => hne e.symm
  constructor <;> simp [setW, go_sem, c0, c1, c2, c3, f0, f1, f2, f3]

theorem setSP (w : World) (b o : Nat) (s t : W4) (d : Nat) (h : IsW w b o s) (hL : t.L = s.L) (hT : t.T = s.T) :
    ((w.drewN d).setCell ⟨b, o, none⟩ (.int .i64 t.S)).setCell ⟨b, o + 2, none⟩ (.int .i64 t.P) = (setW w b o t).drewN d := by
  have e : w = setW w b o s := (setW_id h).symm
  conv => lhs; rw [e]
  unfold setW
  simp only [setCell_drewN]
  simp (disch := omega) only [setCell_sort, setCell_set, hL, hT]

set_option maxRecDepth 100000 in
set_option maxHeartbeats 1000000 in
theorem good_any (b o : Nat) (s : W4) (n : Int) (w : World) (h : IsW w b o s) (hi : s.Inv) (hn : n ≤ 9223372036854775807) (hn0 : -9223372036854775808 ≤ n) :
    Calls Try.prog 26 #[.pointer (some ⟨b, o, none⟩), .int .i64 n] w fun e w' => e = .returned (.tuple #[]) ∧ Dr w' (setW w b o (s.good n.toNat)) := by
  go_enter Try.func26, Try.ntmps26
  go_wp2
  go_loopw [1] (fun vn wr => ∃ k : Nat, (k : Int) ≤ max n 0 ∧ vn = .int .i64 (n - k) ∧ Dr wr (setW w b o (s.good k))) (fun vn _ => (intOf vn).toNat)
  case atStart => exact ⟨0, by omega, by simp, by rw [W4.good, setW_id h]; exact Dr.refl _⟩
  case round =>
    obtain ⟨k, hk, rfl, d, hw'⟩ := hrel
    have hw := Lib.hid hw'
    clear hw'
    have hi' := W4.good_inv hi k
    have hW : IsW wr b o (s.good k) := by rw [hw.out]; exact (h.set _).drewN _
    obtain ⟨c0, c1, c2, c3, f0, f1, f2, f3⟩ := hW
    have hst := W4.good_succ k s
    have hfull := W4.good_full (n.toNat - k) (s.good k) hi'
    have hadd := W4.good_add k (n.toNat - k) s
    generalize hs' : s.good k = s' at *
    obtain ⟨S, L, P, T⟩ := s'
    obtain ⟨i0, i1, i2, i3, i4, i5⟩ := hi'
    simp only at c0 c1 c2 c3 i0 i1 i2 i3 i4 i5
    have Hst := Lib.hid hst
    have Hfull := Lib.hid hfull
    have Hadd := Lib.hid hadd
    have Hs' := Lib.hid hs'
    clear hst hfull hadd hs'
    by_cases hgo : 0 < n - k
    · by_cases h1 : S < L
      · have Hone := Lib.hid (show (W4.mk S L P T).step = ⟨S + 1, L, P, T⟩ by unfold W4.step; rw [if_pos h1])
        go_wp2_with fail
        go_quiet (fail)
        go_wp2_with fail
        go_roundw
        case rel =>
          refine ⟨k + 1, by omega, by go_num, ?_⟩
          unfold Dr
          rw [Hst.out, hw.out, Hone.out]
          unfold setW
          simp only [setCell_drewN, World.drewN_drewN]
          simp (disch := omega) only [setCell_sort, setCell_set]
          exact ⟨_, rfl⟩
        case measure => simp [intOf]; omega
      · by_cases h2 : S = 32
        · obtain rfl : (32 : Int) = S := h2.symm
          go_wp2_with fail
          go_quiet (fail)
          go_wp2_with fail
          go_quiet (fail)
          go_wp2_with fail
          go_region
          go_wp2_with fail
          refine bodyPost_ret (results_none rfl _ _ _) rfl ?_
          refine ⟨rfl, ?_⟩
          have hk2 : k + (n.toNat - k) = n.toNat := by omega
          have h5 := Hadd.out
          have hc : P + ((n.toNat - k : Nat) : Int) = P + (n - k) := by omega
          rw [hk2, Hfull.out trivial, hc] at h5
          rw [h5, hw.out]
          unfold setW Dr
          simp only [setCell_drewN, World.drewN_drewN]
          simp (disch := omega) only [setCell_sort, setCell_set]
          exact ⟨_, rfl⟩
        · have h2b : (S == 32) = false := by simp [h2]
          by_cases h3 : P + 1 = S
          · have h3b : (P + 1 == S) = true := by simp [h3]
            have Hone := Lib.hid (show (W4.mk S L P T).step = ⟨S + 1, L, 0, T⟩ by unfold W4.step; rw [if_neg h1, if_pos h3, show min (S + 1) 32 = S + 1 by omega])
            clear h3
            go_wp2_with fail
            go_quiet (fail)
            go_wp2_with fail
            go_quiet (fail)
            go_wp2_with fail
            go_quiet (fail)
            go_wp2_with fail
            go_roundw
            case rel =>
              refine ⟨k + 1, by omega, by go_num, ?_⟩
              unfold Dr
              rw [Hst.out, hw.out, Hone.out]
              unfold setW
              simp only [setCell_drewN, World.drewN_drewN]
              simp (disch := omega) only [setCell_sort, setCell_set]
              exact ⟨_, rfl⟩
            case measure => simp [intOf]; omega
          · have h3b : (P + 1 == S) = false := by simp [h3]
            have Hone := Lib.hid (show (W4.mk S L P T).step = ⟨S, L, P + 1, T⟩ by unfold W4.step; rw [if_neg h1, if_neg h3])
            go_wp2_with fail
            go_quiet (fail)
            go_wp2_with fail
            go_quiet (fail)
            go_wp2_with fail
            go_quiet (fail)
            go_wp2_with fail
            go_roundw
            case rel =>
              refine ⟨k + 1, by omega, by go_num, ?_⟩
              unfold Dr
              rw [Hst.out, hw.out, Hone.out]
              unfold setW
              simp only [setCell_drewN, World.drewN_drewN]
              simp (disch := omega) only [setCell_sort, setCell_set]
              exact ⟨_, rfl⟩
            case measure => simp [intOf]; omega
    · go_wp2_with fail
      go_end0
      obtain rfl : k = n.toNat := by omega
      exact ⟨rfl, d, by rw [Hs'.out]; exact hw.out⟩

/-! The document's window. -/


end Go.Proofs.Ytoiakdddghbdnaa
