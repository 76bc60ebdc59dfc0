/-
  argosylaw3: known.
-/
import Derived.Test.YtdcbgjbhoejpnaaSpan7
namespace Go.Proofs.Ytdcbgjbhoejpnaa
open Go.RowKit

/-- A set variable that was made from what is a set. -/
theorem set_made {w : World} {v : Value} {L : List Pr} (h : Src w 2 v L.length (encs encP L)) : SetAt (w.alloc (.cells #[v] 27)) w.heap.size v L :=
  ⟨Whole.new _ _ _, ((Kp.refl (fun _ => False) w).alloc _).src h (fun _ _ h => h)⟩
/-- The block of a row that is read lies in the world, where it has an element. -/
theorem src_lt {w : World} {v : Value} {L : List Pr} (h : Src w 2 v L.length (encs encP L)) (h0 : 0 < L.length) : ∀ k, v.ownBlock = some k → k < w.heap.size := by
  obtain ⟨b, off, c, rfl, hb, _⟩ := Src.wide h h0 (by omega)
  intro k hk
  cases hk
  exact hb

theorem SetAt.no {w w' : World} {s : Nat} {v : Value} {L : List Pr} (h : SetAt w s v L) (hk : Kp (fun _ => False) w w') : SetAt w' s v L := h.kp hk (fun h => h) (fun _ _ h => h)
/-- A row beside runs that are written out. -/
theorem same_lit {w : World} {A : Option Addr} {c : Nat} {M : List Pr} (ha : Src w 2 (.slice A M.length c) M.length (encs encP M)) (hm : M.length ≤ 1048576) (N : List Pr) (n : Nat) (hn : N.length = n) (hn2 : n ≤ 1048576) (xs : Array Value) (hxs : xs = (encs encP N).toArray) :
    Calls Try.prog 18 #[.slice A M.length c, .slice (some ⟨w.heap.size, 0, none⟩) n n] (w.alloc (.cells xs 35)) fun e w' => e = .returned (.bool (decide (M = N))) ∧ Kp (fun _ => False) w w' := by
  subst hn hxs
  have hk4 : Kp (fun _ => False) w (w.alloc (.cells (encs encP N).toArray 35)) := (Kp.refl _ _).alloc _
  refine (same_c (hk4.src ha (fun _ _ h => h)) (srcW (c := N.length) (n := N.length) (encs encP N) (Whole.new w 35 _) (encs_len encP_len N) (encP_one _)) (by omega) (by omega)).mono ?_
  rintro e w' ⟨rfl, hk⟩
  exact ⟨rfl, hk4.trans hk⟩

theorem of_kn : ofL [3, 1, 2, 7] = [(1, 4), (7, 8)] := by decide
theorem known_c (W : World) : Calls Try.prog 17 #[] W fun e w' => e = .returned (.bool true) ∧ Kp (fun _ => False) W w' := by
  have hk0 : Kp (fun _ => False) W (W.alloc (.cells #[.int .i64 3, .int .i64 1, .int .i64 2, .int .i64 7] 3)) := (Kp.refl _ W).alloc _
  obtain ⟨L, hL⟩ : ∃ L, L = [((1 : Int), (4 : Int)), (7, 8)] := ⟨_, rfl⟩
  have hll : L.length = 2 := by rw [hL]; rfl
  have hC : Calls Try.prog 12 #[.slice (some ⟨W.heap.size, 0, none⟩) 4 4] (W.alloc (.cells #[.int .i64 3, .int .i64 1, .int .i64 2, .int .i64 7] 3)) fun e w' => ∃ v, e = .returned (.agg #[v]) ∧ Src w' 2 v L.length (encs encP L) ∧ (∀ k, v.ownBlock = some k → (W.alloc (.cells #[.int .i64 3, .int .i64 1, .int .i64 2, .int .i64 7] 3)).heap.size ≤ k) ∧ Kp (fun _ => False) (W.alloc (.cells #[.int .i64 3, .int .i64 1, .int .i64 2, .int .i64 7] 3)) w' := by
    have h := s_of (w := W.alloc (.cells #[.int .i64 3, .int .i64 1, .int .i64 2, .int .i64 7] 3)) (A := some ⟨W.heap.size, 0, none⟩) (cap := 4) (xs := [3, 1, 2, 7]) (srcW (encN [3, 1, 2, 7]) (Whole.new _ _ _) rfl (encN_one _)) (fun i => by
      match i with
      | 0 => decide
      | 1 => decide
      | 2 => decide
      | 3 => decide
      | i + 4 => rw [List.take_of_length_le (by simp)]; decide) (by decide)
    rw [of_kn, ← hL] at h
    exact h
  have HC := Lib.hid hC
  have Hk0 := Lib.hid hk0
  have HL := Lib.hid hL
  have hl1 : L.length ≤ 2 := by omega
  have hl2 : 2 ≤ L.length := by omega
  clear hC hk0 hL hll
  go_enter Try.func17, Try.ntmps17
  go_wp2_with fail
  with_reducible refine (HC.out).mono ?_
  rintro e w1 ⟨v, rfl, hs, hv, hk⟩
  obtain ⟨b, off, c, rfl, hb, _⟩ := Src.wide hs (by omega) (by omega)
  have hS := set_made hs
  have hk2 : Kp (fun _ => False) W (w1.alloc (.cells #[.slice (some ⟨b, off, none⟩) L.length c] 27)) := (Hk0.out.trans hk).alloc _
  clear hs hv hk HC Hk0
  go_upto_region 2 with (fail)
  generalize w1.alloc (.cells #[.slice (some ⟨b, off, none⟩) L.length c] 27) = w2 at *
  generalize w1.heap.size = s at *
  have hsl := hS.cell.lt
  have Hsp := Lib.hid (s_spans hS (by omega))
  have HS := Lib.hid hS
  have Hk2 := Lib.hid hk2
  clear hS hk2
  go_wp2_with fail
  with_reducible refine (Hsp.out).mono ?_
  rintro e w3 ⟨A3, rfl, hr3, hk3⟩
  have hsm := same_lit (hr3.src (encP_one _)) (by omega) [((1 : Int), (4 : Int)), (7, 8)] 2 rfl (by omega) #[.int .i64 1, .int .i64 4, .int .i64 7, .int .i64 8] rfl
  rw [decide_eq_true HL.out] at hsm
  have Hsm := Lib.hid hsm
  have Hk3 := Lib.hid hk3
  clear hk3 hr3 hsm
  go_wp2_with fail
  with_reducible refine (Hsm.out).mono ?_
  rintro e w4 ⟨rfl, hk4⟩
  have hh := s_has ((HS.out.no Hk3.out).no hk4) (by omega) 3
  rw [show L.any (hasP 3) = true by rw [HL.out]; decide] at hh
  have Hh := Lib.hid hh
  have Hk4 := Lib.hid hk4
  clear hk4 hh
  go_wp2_with fail
  with_reducible refine (Hh.out).mono ?_
  rintro e w5 ⟨rfl, hk5⟩
  have hh := s_has (((HS.out.no Hk3.out).no Hk4.out).no hk5) (by omega) 4
  rw [show L.any (hasP 4) = false by rw [HL.out]; decide] at hh
  have Hh2 := Lib.hid hh
  have Hk5 := Lib.hid hk5
  clear hk5 hh
  go_wp2_with fail
  with_reducible refine (Hh2.out).mono ?_
  rintro e w6 ⟨rfl, hk6⟩
  have Hk6 := Lib.hid hk6
  clear hk6
  go_wp2_with fail
  go_ret
  exact ⟨rfl, (((Hk2.out.trans Hk3.out).trans Hk4.out).trans Hk5.out).trans Hk6.out⟩
end Go.Proofs.Ytdcbgjbhoejpnaa
