/-
  argosylaw9: sent, known.
-/
import Derived.Test.YtelhnhnbfjamhaaLedger5
namespace Go.Proofs.Ytelhnhnbfjamhaa
open Go.RowKit

/-- So many packets of numbers from f on. -/
def sentS (f : Int) (c : Nat) (a : Int) : List St := (List.range c).map fun (k : Nat) => (f + (k : Int), a, true)
theorem sentS_len (f : Int) (c : Nat) (a : Int) : (sentS f c a).length = c := by simp [sentS]
theorem sentS_snoc (f : Int) (c : Nat) (a : Int) : sentS f (c + 1) a = sentS f c a ++ [(f + (c : Int), a, true)] := by simp [sentS, List.range_succ]
theorem sentS_at (f : Int) (c : Nat) (a : Int) (i : Nat) (y : St) (h : (sentS f c a)[i]? = some y) : y = (f + (i : Int), a, true) := by
  simp only [sentS, List.getElem?_map] at h
  cases hr : (List.range c)[i]? with
  | none => rw [hr] at h; cases h
  | some k =>
    rw [hr] at h
    have hk : k = i := by
      have := List.getElem?_eq_some_iff.1 hr
      obtain ⟨h1, h2⟩ := this
      simpa using h2.symm
    subst hk
    exact (Option.some.inj h).symm

set_option maxRecDepth 100000 in
set_option maxHeartbeats 1000000 in
theorem sent_any (w : World) (f t a : Int) (c : Nat) (ht : t = f + (c : Int)) (h0 : 0 ≤ f) (h1 : f ≤ 1099511627776) (hc : c ≤ 1048576) :
    Calls Try.prog 44 #[.int .i64 f, .int .i64 t, .int .i64 a] w fun e w' => ∃ v, e = .returned v ∧ RowAt w' w.heap.size 4 v c (encs encS (sentS f c a)) ∧ Kp (fun _ => False) w w' := by
  subst ht
  obtain ⟨i0, hii, hz0, hz1, hz2⟩ := info_parts infoS
  have Hi := Lib.hid hii
  have Hz0 := Lib.hid hz0
  have Hz1 := Lib.hid hz1
  have Hz2 := Lib.hid hz2
  clear hii hz0 hz1 hz2
  go_enter Try.func44, Try.ntmps44
  go_wp2_with fail
  go_loopw [7, 8] (fun vo vi wr => ∃ i : Nat, i ≤ c ∧ vi = .int .i64 (f + (i : Int)) ∧ RowAt wr w.heap.size 4 vo i (encs encS (sentS f i a)) ∧ Kp (fun _ => False) w wr)
    (fun _ vi _ => c - (intOf vi - f).toNat)
  case atStart => exact ⟨0, by omega, by simp, RowAt.nil _ _ _, Kp.refl _ _⟩
  case round =>
    obtain ⟨i, hic, rfl, hr, hk⟩ := hrel
    obtain ⟨Ao, co, rfl⟩ := hr.form
    have Hr := Lib.hid hr
    have Hk := Lib.hid hk
    clear hr hk
    by_cases hlt : i < c
    · have HO : Hid (RowAt (wr.alloc (.cells #[.int .i64 (f + (i : Int)), .int .i64 a, .bool true, .slice none 0 0] 80)) w.heap.size 4 (.slice Ao i co) i (encs encS (sentS f i a))) := Lib.hid (Hr.out.kp ((Kp.refl (fun _ => False) wr).alloc _) (fun _ _ h => h))
      have HS : Hid (Src (wr.alloc (.cells #[.int .i64 (f + (i : Int)), .int .i64 a, .bool true, .slice none 0 0] 80)) 4 (.slice (some ⟨wr.heap.size, 0, none⟩) 1 1) 1 (encS (f + (i : Int), a, true))) := Lib.hid (srcW _ (Whole.new _ _ _) rfl (fun u hu => by simp [encS] at hu; rcases hu with rfl | rfl | rfl | rfl <;> rfl))
      have hlt2 : f + (i : Int) < f + (c : Int) := by omega
      go_wp2_with (at_builtin; refine wpList_row rfl (.tmp 15) (.tmp 19) 74 rfl w.heap.size 80 i0 _ 4 48 Try.underlying74 Hi.out Hz0.out Hz1.out Hz2.out rfl (by decide) _ i _ rfl HO.out _ 1 _ rfl HS.out (by unfold maxLen; omega) (by omega) (by have := Hk.out.size; simp only [World.size_alloc]; omega) ?_; intro v5 w5 hr5 hg5 hn5; have hk5 : Kp (fun _ => False) w w5 := (Hk.out.alloc _).grown hg5 (fun i hi hlt => absurd (Hr.out.lt i hi).1 (by omega)); have Hr5 := Lib.hid hr5; have Hk5 := Lib.hid hk5; clear hr5 hg5 hn5 hk5)
      go_roundw
      case rel => exact ⟨i + 1, by omega, by go_num, by rw [sentS_snoc, encs_append, show encs encS [(f + (i : Int), a, true)] = encS (f + (i : Int), a, true) by simp [encs]]; exact Hr5.out, Hk5.out⟩
      case measure => simp [intOf]; omega
    · obtain rfl : i = c := by omega
      go_wp2_with fail
      go_ret
      exact ⟨_, rfl, Hr.out, Hk.out⟩

theorem src_run {w : World} {b : Nat} (r : Pr) {e : TypeId} (h : Whole w b e #[.int .i64 r.1, .int .i64 r.2]) : Src w 2 (.slice (some ⟨b, 0, none⟩) 1 1) 1 (encs encP [r]) := by
  rw [show encs encP [r] = encP r by simp [encs]]
  exact srcW _ h rfl (fun u hu => by simp [encP] at hu; rcases hu with rfl | rfl <;> rfl)

set_option maxRecDepth 100000 in
set_option maxHeartbeats 1000000 in
theorem known_l (W : World) : Calls Try.prog 39 #[] W fun e w' => e = .returned (.bool true) ∧ Below W.heap.size W w' := by
  go_enter Try.func39, Try.ntmps39
  go_wp2_with fail
  with_reducible refine (sent_any _ 0 4 1 4 rfl (by omega) (by omega) (by omega)).mono ?_
  rintro e w1 ⟨v, rfl, hr, hk⟩
  obtain ⟨A, c, rfl⟩ := hr.form
  have hk1 : Kp (fun _ => False) W w1 := (Kp.refl _ _).alloc _ |>.trans hk
  have hl := (LAt.new W W.heap.size).kp hk (fun h => h) (fun _ _ h => h)
  have hrlt := hr.lt
  have hP := l_put hl hk1.size (.slice A 4 c) (sentS 0 4 1) (by rw [sentS_len]; exact hr.src (encS_one _)) (fun k hk' hs => by
    rcases hs with hs | hs
    · have := (hrlt k hk').1; simp at this; omega
    · cases hs) (fun i y hy => by rw [sentS_at _ _ _ _ _ hy]) (by omega) (by rw [sentS_len]; omega) (by rw [sentS_len]; simp)
  rw [sentS_len, List.nil_append] at hP
  have HP := Lib.hid hP
  have Hk1 := Lib.hid hk1
  clear hr hk hk1 hl hrlt hP
  go_wp2_with fail
  with_reducible refine (HP.out).mono ?_
  rintro e w2 ⟨rfl, v2, hl2, hk2, _⟩
  have hkw2 : Kp (fun k => W.heap.size ≤ k) W w2 := Hk1.out.no.trans (hk2.mono (fun k _ hs => by
    rcases hs with rfl | hs
    · exact Nat.le_refl _
    · cases hs))
  have hl2 : LAt w2 W.heap.size W.heap.size v2 (sentS 0 4 1) 4 0 := by simpa using hl2
  have hka : Kp (fun _ => False) w2 (w2.alloc (.cells #[.int .i64 3, .int .i64 3] 84)) := (Kp.refl _ w2).alloc _
  have hl3 := hl2.kp hka (fun h => h) (fun _ _ h => h)
  have hA := l_ack hl3 (Nat.le_trans hkw2.size hka.size) (A := some ⟨w2.heap.size, 0, none⟩) (c := 1) (rs := [(3, 3)]) (src_run (3, 3) (Whole.new _ _ _)) (fun k hk e => by
    have h1 : w2.heap.size = k := Option.some.inj hk
    have h2 := hl2.cell.lt
    omega) (by simp) (by decide) (by omega) (by omega) (by omega) (by simp [sentS])
  rw [show ([(3, 3)] : List Pr).length = 1 from rfl] at hA
  have HA := Lib.hid hA
  have Hkw2 := Lib.hid hkw2
  have hwl := hkw2.size
  have hlw0 := hl2.cell.lt
  clear hA hkw2 hl3 hka hl2 hk2
  go_wp2_with fail
  with_reducible refine (HA.out).mono ?_
  rintro e w5 ⟨r, W1, rfl, hk3, Ad, vo, rfl, hrow, hl5, hk5, hnew⟩
  rw [show (sentS 0 4 1).filter (hitS [(3, 3)]) = [(3, 1, true)] by decide] at hrow
  rw [show ((sentS 0 4 1).filter fun z => !hitS [(3, 3)] z) = [(0, 1, true), (1, 1, true), (2, 1, true)] by decide, show topR 0 [(3, 3)] = 4 by decide] at hl5
  rw [show (List.filter (hitS [(3, 3)]) (sentS 0 4 1)).length = 1 by decide]
  obtain ⟨g, og, cg, hv, hgB, hg, _, _, _, hgc⟩ := hrow.full (by decide)
  cases hv
  have d0 : w5.cell? ⟨g, og, none⟩ = some (.int .i64 3) := hgc 0 _ rfl
  have hW1 := hk3.size
  have hlw2 : W.heap.size < w2.heap.size := hlw0
  simp only [World.size_alloc] at hW1
  have hgl : g ≠ W.heap.size := by omega
  have hkw5 : Kp (fun k => W.heap.size ≤ k) W w5 := Hkw2.out.trans ((((Kp.refl (fun k => W.heap.size ≤ k) w2).alloc _).trans (hk3.mono (fun k _ e => by omega))).trans (hk5.mono (fun k _ e => by omega)))
  have hLs := l_lose hl5 hkw5.size 1 9 (by omega) (by omega) (by omega) (by decide)
  have HL := Lib.hid hLs
  have Hkw5 := Lib.hid hkw5
  clear hgc hrow hl5 hk5 hnew hk3 hLs hkw5
  go_wp2_with fail
  with_reducible refine (HL.out).mono ?_
  rintro e w7 ⟨r, W2, rfl, hk6, Ax, vo2, rfl, hrow2, hl7, hk7, _⟩
  rw [show List.filter (lostS 4 1 9) [(0, 1, true), (1, 1, true), (2, 1, true)] = [(0, 1, true)] by decide] at hrow2
  rw [show (List.filter (lostS 4 1 9) [(0, 1, true), (1, 1, true), (2, 1, true)]).length = 1 by decide]
  obtain ⟨g2, og2, cg2, hv, _, hg2, _, _, _, hgc2⟩ := hrow2.full (by decide)
  cases hv
  have x0 : w7.cell? ⟨g2, og2, none⟩ = some (.int .i64 0) := hgc2 0 _ rfl
  have hk57 : Kp (fun k => k = W.heap.size) w5 w7 := hk6.no.trans hk7
  rw [← hk57.cell (p := ⟨g, og, none⟩) hg hgl] at d0
  have hend : Below W.heap.size W w7 := (Hkw5.out.trans (hk57.mono (fun k _ e => by omega))).below (Nat.le_refl _) (fun k hk => hk)
  have Hend := Lib.hid hend
  have HN := Lib.hid (l_next hl7)
  have HT := Lib.hid (l_acked hl7 (by omega) (by omega))
  clear hgc2 hrow2 hl7 hk7 hk6 hk57 hend
  go_wp2_with fail
  with_reducible refine (HN.out).mono ?_
  rintro e w8 ⟨rfl, rfl⟩
  go_wp2_with fail
  with_reducible refine (HT.out).mono ?_
  rintro e w8 ⟨rfl, rfl⟩
  go_wp2_with fail
  go_ret
  exact ⟨rfl, Hend.out⟩
end Go.Proofs.Ytelhnhnbfjamhaa
