/-
  argosylaw9.runs.
-/
import Derived.Test.YtelhnhnbfjamhaaOnceP
import Derived.Test.YtelhnhnbfjamhaaLateP
namespace Go.Proofs.Ytelhnhnbfjamhaa
open Go.RowKit

theorem infoPr : (Try.prog.info? 84).map (fun i => (i.zero, i.size, i.bytes)) = some (some (.agg #[.int .i64 0, .int .i64 0]), 2, 16) := by kernel_rfl
theorem pick_natO (n m : Int) (w : World) (hm : 1 ≤ m) (hm2 : m ≤ 1152921504606846976) :
    Calls Try.prog 13 #[.int .i64 n, .int .i64 m] w fun e w' => ∃ i : Nat, (i : Int) < m ∧ e = .returned (.int .i64 (i : Int)) ∧ w = w' := by
  refine (pick_any n m w hm hm2).mono ?_
  rintro e w' ⟨rfl, rfl⟩
  exact ⟨(pickF n m).toNat, by have := pickF_hi n m hm; have := pickF_lo n m hm; omega, by rw [Int.toNat_of_nonneg (pickF_lo n m hm)], rfl⟩

/-- Ints that are read. -/
def IntsIn (w : World) (A : Option Addr) (len : Nat) : Prop := len = 0 ∨ ∃ b off, A = some ⟨b, off, none⟩ ∧ b < w.heap.size ∧ ∀ i, i < len → ∃ x : Int, w.cell? ⟨b, off + i, none⟩ = some (.int .i64 x)
theorem IntsIn.kp {w w' : World} {A : Option Addr} {len : Nat} (h : IntsIn w A len) (hk : Kp (fun _ => False) w w') : IntsIn w' A len := by
  rcases h with h | ⟨b, off, h1, h2, h3⟩
  · exact .inl h
  · exact .inr ⟨b, off, h1, Nat.lt_of_lt_of_le h2 hk.size, fun i hi => by
      obtain ⟨x, hx⟩ := h3 i hi
      exact ⟨x, (hk.cell (p := ⟨b, off + i, none⟩) h2 (fun h => h)).trans hx⟩⟩

theorem setP {rs : List Pr} {j : Nat} (h : rs.length = j) {a b c : Int} : (encs encP (rs ++ [(a, b)])).set (j * 2 + 1) (.int .i64 c) = encs encP (rs ++ [(a, c)]) := by
  have hl : (encs encP rs).length = j * 2 := by
    have := encs_len encP_len rs
    rw [this, h]
  rw [encs_append, encs_append, show encs encP [(a, b)] = [.int .i64 a, .int .i64 b] by simp [encs, encP], show encs encP [(a, c)] = [.int .i64 a, .int .i64 c] by simp [encs, encP], List.set_append_right _ _ (by omega), hl, show j * 2 + 1 - j * 2 = 1 by omega]
  rfl

set_option maxRecDepth 100000 in
set_option maxHeartbeats 2000000 in
theorem runs_any {w : World} {A : Option Addr} {len cap : Nat} {next : Int} (h : IntsIn w A len) (hlen : len ≤ 1048576) (h0 : 0 ≤ next) (h1 : next ≤ 1099511627776) :
    Calls Try.prog 41 #[.slice A len cap, .int .i64 next] w fun e w' => ∃ v rs, e = .returned v ∧ rs.length ≤ 4 ∧ RowAt w' w.heap.size 2 v rs.length (encs encP rs) ∧ Kp (fun _ => False) w w' := by
  obtain ⟨i0, hii, hz0, hz1, hz2⟩ := info_parts infoPr
  have Hi := Lib.hid hii
  have Hz0 := Lib.hid hz0
  have Hz1 := Lib.hid hz1
  have Hz2 := Lib.hid hz2
  have H := Lib.hid h
  clear hii hz0 hz1 hz2 h
  go_enter Try.func41, Try.ntmps41
  go_wp2_with fail
  go_loopw [5, 6] (fun vo vi wr => ∃ (j : Nat) (rs : List Pr), j ≤ 4 ∧ vi = .int .i64 ((2 * j : Nat) : Int) ∧ Hid (rs.length = j) ∧ RowAt wr w.heap.size 2 vo j (encs encP rs) ∧ Kp (fun _ => False) w wr)
    (fun _ vi _ => 8 - (intOf vi).toNat)
  case atStart => exact ⟨0, [], by omega, rfl, Lib.hid rfl, RowAt.nil _ _ _, Kp.refl _ _⟩
  case round =>
    obtain ⟨j, rs, hj4, rfl, Hrl, hr, hk⟩ := hrel
    obtain ⟨Ao, co, rfl⟩ := hr.form
    have Hr := Lib.hid hr
    have Hk := Lib.hid hk
    clear hr hk
    generalize hjj : 2 * j = jj at *
    by_cases hd : jj + 1 < len
    · by_cases h8 : jj < 8
      · obtain h | ⟨b, off, rfl, hb, hc⟩ := H.out
        · omega
        · obtain ⟨x, hx⟩ := hc jj (by omega)
          obtain ⟨y, hy⟩ := hc (jj + 1) (by omega)
          have Hx0 := Lib.hid hx
          have Hy0 := Lib.hid hy
          rw [← Hk.out.cell (p := ⟨b, _, none⟩) hb (fun h => h)] at hx hy
          have hbw := Nat.lt_of_lt_of_le hb Hk.out.size
          have hi1 : ((jj : Int) + 1) < len := by omega
          clear hc
          go_wp2_with fail
          with_reducible refine (pick_natO _ _ _ (by omega) (by omega)).mono ?_
          rintro e w' ⟨p, hp, rfl, rfl⟩
          have hjn : ((jj : Int) + 1).toNat = jj + 1 := by omega
          go_upto_region 6 with (with_reducible refine (pick_natO _ _ _ (by omega) (by omega)).mono ?_; rintro e w' ⟨p, hp, rfl, rfl⟩)
          go_cut [5] (fun v5 wx => ∃ r2 : Int, RowAt wx w.heap.size 2 v5 (j + 1) (encs encP (rs ++ [((p : Int) - 1, r2)])) ∧ Kp (fun _ => False) w wx)
          case first =>
            go_wp2_with fail
            with_reducible refine (pick_natO _ _ _ (by omega) (by omega)).mono ?_
            rintro e w' ⟨q, hq, rfl, rfl⟩
            by_cases hm : (p : Int) - 1 + (q : Int) - 1 ≤ next - 1
            · have hm2 : ¬ (next - 1 < (p : Int) - 1 + (q : Int) - 1) := by omega
              have HO : Hid (RowAt (wr.alloc (.cells #[.int .i64 ((p : Int) - 1), .int .i64 ((p : Int) - 1 + (q : Int) - 1)] 84)) w.heap.size 2 (.slice Ao j co) j (encs encP rs)) := Lib.hid (Hr.out.kp ((Kp.refl (fun _ => False) wr).alloc _) (fun _ _ h => h))
              have HS : Hid (Src (wr.alloc (.cells #[.int .i64 ((p : Int) - 1), .int .i64 ((p : Int) - 1 + (q : Int) - 1)] 84)) 2 (.slice (some ⟨wr.heap.size, 0, none⟩) 1 1) 1 (encP ((p : Int) - 1, ((p : Int) - 1 + (q : Int) - 1)))) := Lib.hid (srcW _ (Whole.new _ _ _) rfl (fun u hu => by simp [encP] at hu; rcases hu with rfl | rfl <;> rfl))
              go_wp2_with (at_builtin; refine wpList_row rfl (.tmp 27) (.tmp 42) 85 rfl w.heap.size 84 i0 _ 2 16 Try.underlying85 Hi.out Hz0.out Hz1.out Hz2.out rfl (by decide) _ j _ rfl HO.out _ 1 _ rfl HS.out (by unfold maxLen; omega) (by omega) (by have := Hk.out.size; simp only [World.size_alloc]; omega) ?_; intro v5 w5 hr5 hg5 hn5; have hk5 : Kp (fun _ => False) w w5 := (Hk.out.alloc _).grown hg5 (fun i hi hlt => absurd (Hr.out.lt i hi).1 (by omega)); have Hr5 := Lib.hid hr5; have Hk5 := Lib.hid hk5; clear hr5 hg5 hn5 hk5)
              go_meet
              exact ⟨((p : Int) - 1 + (q : Int) - 1), by rw [encs_append, show encs encP [((p : Int) - 1, ((p : Int) - 1 + (q : Int) - 1))] = encP ((p : Int) - 1, ((p : Int) - 1 + (q : Int) - 1)) by simp [encs]]; exact Hr5.out, Hk5.out⟩
            · have hm2 : next - 1 < (p : Int) - 1 + (q : Int) - 1 := by omega
              have HO : Hid (RowAt (wr.alloc (.cells #[.int .i64 ((p : Int) - 1), .int .i64 (next - 1)] 84)) w.heap.size 2 (.slice Ao j co) j (encs encP rs)) := Lib.hid (Hr.out.kp ((Kp.refl (fun _ => False) wr).alloc _) (fun _ _ h => h))
              have HS : Hid (Src (wr.alloc (.cells #[.int .i64 ((p : Int) - 1), .int .i64 (next - 1)] 84)) 2 (.slice (some ⟨wr.heap.size, 0, none⟩) 1 1) 1 (encP ((p : Int) - 1, (next - 1)))) := Lib.hid (srcW _ (Whole.new _ _ _) rfl (fun u hu => by simp [encP] at hu; rcases hu with rfl | rfl <;> rfl))
              go_wp2_with (at_builtin; refine wpList_row rfl (.tmp 27) (.tmp 42) 85 rfl w.heap.size 84 i0 _ 2 16 Try.underlying85 Hi.out Hz0.out Hz1.out Hz2.out rfl (by decide) _ j _ rfl HO.out _ 1 _ rfl HS.out (by unfold maxLen; omega) (by omega) (by have := Hk.out.size; simp only [World.size_alloc]; omega) ?_; intro v5 w5 hr5 hg5 hn5; have hk5 : Kp (fun _ => False) w w5 := (Hk.out.alloc _).grown hg5 (fun i hi hlt => absurd (Hr.out.lt i hi).1 (by omega)); have Hr5 := Lib.hid hr5; have Hk5 := Lib.hid hk5; clear hr5 hg5 hn5 hk5)
              go_meet
              exact ⟨(next - 1), by rw [encs_append, show encs encP [((p : Int) - 1, (next - 1))] = encP ((p : Int) - 1, (next - 1)) by simp [encs]]; exact Hr5.out, Hk5.out⟩
          case rest =>
            obtain ⟨r2, hr5, hk5⟩ := hcut
            generalize wc = w5 at *
            have hx := (hk5.cell (p := ⟨b, off + jj, none⟩) hb (fun h => h)).trans Hx0.out
            have hy := (hk5.cell (p := ⟨b, off + (jj + 1), none⟩) hb (fun h => h)).trans Hy0.out
            have hbw := Nat.lt_of_lt_of_le hb hk5.size
            obtain ⟨g, og, cg, rfl, hgB, hg, hgc, hgm, hgf, hcell⟩ := hr5.full (by omega)
            have hgs := hcell (j * 2 + 1) (.int .i64 r2) (pp1 (z := ((p : Int) - 1, r2)) (by rw [List.getElem?_append_right (by rw [Hrl.out]; omega), Hrl.out, Nat.sub_self]; rfl))
            rw [← Nat.add_assoc] at hgs
            have hgfr := hgf (og + j * 2 + 1)
            have hgb : ¬ g = b := by omega
            have Hr5 := Lib.hid hr5
            have Hk5 := Lib.hid hk5
            clear hr5 hk5 hgf hcell
            go_wp2_with fail
            with_reducible refine (pick_natO _ _ _ (by omega) (by omega)).mono ?_
            rintro e w' ⟨t, ht, rfl, rfl⟩
            by_cases h28 : (t : Int) = 28
            · go_wp2_with fail
              have hjl : (j : Int) < (j : Int) + 1 := by omega
              have hj0 : (0 : Int) ≤ (j : Int) := by omega
              have hw1 : IntKind.i64.wrap ((jj : Int) + 1) = (jj : Int) + 1 := IntWalk.i64_in _ (by omega)
              have hw2 : IntKind.i64.wrap ((j : Int) + 1 - 1) = (j : Int) := by rw [IntWalk.i64_in _ (by omega)]; omega
              have hj1 : (0 : Int) ≤ (jj : Int) + 1 := by omega
              have hw3 : IntKind.i64.wrap (j : Int) = (j : Int) := IntWalk.i64_in _ (by omega)
              go_region_held3 (fun w9 => w9.cell? ⟨b, off + (jj + 1), none⟩ = some (.int .i64 y)) (go_keep) (first | (go_at_call 13; refine (pick_natO _ _ _ (by omega) (by omega)).mono ?_; rintro e w' ⟨q3, hq3, rfl, rfl⟩))
              all_goals
                go_wp2_with fail
                go_roundw
                case rel =>
                  refine ⟨j + 1, rs ++ [((p : Int) - 1, next + (q3 : Int) - 1)], by omega, by rw [show 2 * (j + 1) = jj + 2 by omega]; go_num, Lib.hid (by rw [List.length_append, Hrl.out]; rfl), ?_, ?_⟩
                  · have hset := (Hr5.out.set (j * 2 + 1) (.int .i64 (next + (q3 : Int) - 1)) (by omega)).kp (S := fun _ => False) ((Kp.refl _ _).drew) (fun _ _ h => h)
                    rw [setP Hrl.out, ← Nat.add_assoc] at hset
                    exact hset
                  · exact (Kp.set Hk5.out (p := ⟨g, og + j * 2 + 1, none⟩) (.inr hgB) _).drew
                case measure => simp [intOf]; omega
            · go_wp2_with fail
              go_roundw
              case rel => exact ⟨j + 1, rs ++ [((p : Int) - 1, r2)], by omega, by rw [show 2 * (j + 1) = jj + 2 by omega]; go_num, Lib.hid (by rw [List.length_append, Hrl.out]; rfl), Hr5.out, Hk5.out⟩
              case measure => simp [intOf]; omega
      · go_wp2_with fail
        go_ret
        exact ⟨_, rs, rfl, by rw [Hrl.out]; exact hj4, by rw [Hrl.out]; exact Hr.out, Hk.out⟩
    · go_wp2_with fail
      go_ret
      exact ⟨_, rfl, rs, by rw [Hrl.out]; exact hj4, by rw [Hrl.out]; exact Hr.out, Hk.out⟩
end Go.Proofs.Ytelhnhnbfjamhaa
