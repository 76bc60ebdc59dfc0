/-
  Package spans: Gaps, All.
-/
import Derived.Test.YtbkpapdbidbhaaaSpan4
namespace Go.Proofs.Ytbkpapdbidbhaaa
open Go.RowKit

/-- What Gaps does, run by run. -/
structure GapS where
  out : List Pr
  f : Int
def gapStep (t : Int) (s : GapS) (r : Pr) : GapS := ⟨s.out ++ (if s.f < min r.1 t then [(s.f, min r.1 t)] else []), max s.f r.2⟩
def gapEnd (t : Int) (s : GapS) : List Pr := s.out ++ (if s.f < t then [(s.f, t)] else [])
def gapL (L : List Pr) (f t : Int) : List Pr := gapEnd t (L.foldl (gapStep t) ⟨[], f⟩)
theorem gap_snoc {L : List Pr} {i : Nat} {r : Pr} (t : Int) (s : GapS) (h : L[i]? = some r) : (L.take (i + 1)).foldl (gapStep t) s = gapStep t ((L.take i).foldl (gapStep t) s) r := by
  rw [takeP h, List.foldl_append]; rfl

set_option maxRecDepth 100000 in
set_option maxHeartbeats 2000000 in
theorem t_gaps {w : World} {s o : Nat} {tc : TypeId} {cs : Array Value} {v : Value} {L : List Pr} (h : SetIn w s o tc cs v L) (hlen : L.length ≤ 1073741824) (f t : Int) :
    Calls Try.prog 34 #[.pointer (some ⟨s, o, none⟩), .int .i64 f, .int .i64 t] w fun e w' => ∃ A n, n = (gapL L (bringS f) (bringS t)).length ∧ n ≤ L.length + 1 ∧ e = .returned (.slice A n n) ∧ RowAt w' w.heap.size 2 (.slice A n n) n (encs encP (gapL L (bringS f) (bringS t))) ∧ Kp (fun _ => False) w w' := by
  obtain ⟨i0, hii, hz0, hz1, hz2⟩ := info_parts infoPr
  have Hi := Lib.hid hii
  have Hz0 := Lib.hid hz0
  have Hz1 := Lib.hid hz1
  have Hz2 := Lib.hid hz2
  have H := Lib.hid h
  have hsl := h.cell.lt
  have c0 := h.c0
  obtain ⟨A, cap, rfl⟩ : ∃ A cap, v = .slice A L.length cap := by
    rcases h.src.2.2 with ⟨h1, h2⟩ | ⟨a, c, h1, _⟩
    · exact ⟨none, 0, by rw [h1, h2]⟩
    · exact ⟨_, _, h1⟩
  have B1 : Hid (∀ w', Calls Try.prog 55 #[.int .i64 f] w' fun e w2 => e = .returned (.int .i64 (bringS f)) ∧ w' = w2) := Lib.hid (bring_any f)
  have B2 : Hid (∀ w', Calls Try.prog 55 #[.int .i64 t] w' fun e w2 => e = .returned (.int .i64 (bringS t)) ∧ w' = w2) := Lib.hid (bring_any t)
  clear h hii hz0 hz1 hz2
  generalize bringS f = bf at *
  generalize bringS t = bt at *
  generalize hm : L.length = m at *
  have Hm := Lib.hid hm
  clear hm
  go_enter Try.func34, Try.ntmps34
  go_wp2_with fail
  with_reducible refine (B1.out _).mono ?_
  rintro e w1 ⟨rfl, rfl⟩
  go_wp2_with fail
  with_reducible refine (B2.out _).mono ?_
  rintro e w1 ⟨rfl, rfl⟩
  go_wp2_with fail
  go_loopw [1, 7, 20] (fun vf vo vi wr => ∃ (i n : Nat) (st : GapS), i ≤ m ∧ n ≤ i ∧ vi = .int .i64 i ∧ vf = .int .i64 st.f ∧ Hid (st = (L.take i).foldl (gapStep bt) ⟨[], bf⟩) ∧ Hid (st.out.length = n) ∧ RowAt wr w.heap.size 2 vo n (encs encP st.out) ∧ Kp (fun _ => False) w wr)
    (fun _ _ vi _ => m - (intOf vi).toNat)
  case atStart => exact ⟨0, 0, ⟨[], bf⟩, by omega, by omega, rfl, rfl, Lib.hid rfl, Lib.hid rfl, RowAt.nil _ _ _, Kp.refl _ _⟩
  case round =>
    obtain ⟨i, n, ⟨out, sf⟩, him, hn, rfl, rfl, Hst, Hol, hr, hk⟩ := hrel
    dsimp only at Hol hr
    obtain ⟨Ao, co, rfl⟩ := hr.form
    have Hr := Lib.hid hr
    have Hk := Lib.hid hk
    clear hr hk
    by_cases hlt : i < m
    · obtain ⟨b, off, c', hv, hb, hc⟩ := Src.wide H.out.src (by rw [Hm.out]; omega) (by omega)
      cases hv
      obtain ⟨r, hri⟩ : ∃ r, L[i]? = some r := ⟨_, List.getElem?_eq_getElem (by rw [Hm.out]; exact hlt)⟩
      have e0 := hc (i * 2) _ (pp0 hri)
      have e1 := hc (i * 2 + 1) _ (pp1 hri)
      rw [← Hk.out.cell (p := ⟨b, _, none⟩) hb (fun h => h)] at e0 e1
      rw [← Nat.add_assoc] at e1
      have hbw := Nat.lt_of_lt_of_le hb Hk.out.size
      have Hnext : Hid ((L.take (i + 1)).foldl (gapStep bt) ⟨[], bf⟩ = gapStep bt ⟨out, sf⟩ r) := Lib.hid (by rw [gap_snoc _ _ hri, ← Hst.out])
      clear hc hri
      obtain ⟨r1, r2⟩ := r
      dsimp only at e0 e1
      have hka : Kp (fun _ => False) wr (wr.alloc (.cells #[.int .i64 r1, .int .i64 r2] 63)) := (Kp.refl _ wr).alloc _
      have hxw : Whole (wr.alloc (.cells #[.int .i64 r1, .int .i64 r2] 63)) wr.heap.size 63 #[.int .i64 r1, .int .i64 r2] := Whole.new _ _ _
      have hr3 := Hr.out.kp hka (fun _ _ h => h)
      have hrb : ∀ k, (Value.slice Ao n co).ownBlock = some k → k ≠ wr.heap.size := fun k hk e => by have := (Hr.out.lt k hk).2; omega
      go_upto_region 6 with (fail)
      generalize wr.alloc (.cells #[.int .i64 r1, .int .i64 r2] 63) = w3 at hka hxw hr3 ⊢
      have x0 := hxw.cell 0
      have x1 := hxw.cell 1
      have hxl := hxw.lt
      simp at x0 x1
      have Hx := Lib.hid hxw
      have Hr3 := Lib.hid hr3
      have Hk3 := Lib.hid (Hk.out.trans hka)
      clear hka hxw hr3 e0 e1 Hr Hk
      generalize wr.heap.size = bx at *
      obtain ⟨gp, hgp⟩ : ∃ gp, gp = min r1 bt := ⟨_, rfl⟩
      obtain ⟨nf, hnf⟩ : ∃ nf, nf = max sf r2 := ⟨_, rfl⟩
      have Hgs : Hid (gapStep bt ⟨out, sf⟩ (r1, r2) = ⟨out ++ (if sf < gp then [(sf, gp)] else []), nf⟩) := Lib.hid (by rw [hgp, hnf]; rfl)
      have Hgp := Lib.hid hgp
      have Hnf := Lib.hid hnf
      clear hgp hnf
      go_cut [10] (fun v9 wx => v9 = .int .i64 gp ∧ wx = w3)
      case first =>
        by_cases p1 : bt < r1
        · obtain rfl : gp = bt := by have := Hgp.out; omega
          go_wp2_with fail
          go_meet
          case rel => exact ⟨rfl, rfl⟩
        · obtain rfl : gp = r1 := by have := Hgp.out; omega
          go_wp2_with fail
          go_meet
          case rel => exact ⟨rfl, rfl⟩
      case rest =>
      obtain ⟨rfl, rfl⟩ := hcut
      go_upto_if 30 with (fail)
      go_cut [7] (fun vo wx => ∃ (n1 : Nat) (o1 : List Pr), n1 ≤ i + 1 ∧ Hid (gapStep bt ⟨out, sf⟩ (r1, r2) = ⟨o1, nf⟩) ∧ Hid (o1.length = n1) ∧ RowAt wx w.heap.size 2 vo n1 (encs encP o1) ∧ Whole wx bx 63 #[.int .i64 r1, .int .i64 r2] ∧ Kp (fun _ => False) w wx)
      case first =>
        by_cases p2 : sf < gp
        · have HO : Hid (RowAt (wc.alloc (.cells #[.int .i64 sf, .int .i64 gp] 63)) w.heap.size 2 (.slice Ao n co) n (encs encP out)) := Lib.hid (RowAt.kp Hr3.out ((Kp.refl (fun _ => False) wc).alloc _) (fun _ _ h => h))
          have HS : Hid (Src (wc.alloc (.cells #[.int .i64 sf, .int .i64 gp] 63)) 2 (.slice (some ⟨wc.heap.size, 0, none⟩) 1 1) 1 (encP (sf, gp))) := Lib.hid (src_pr (sf, gp) (Whole.new _ _ _))
          go_wp2_with (at_builtin; refine wpList_row rfl (.tmp 31) (.tmp 35) 39 rfl w.heap.size 63 i0 _ 2 16 Try.underlying39 Hi.out Hz0.out Hz1.out Hz2.out rfl (by decide) _ n _ rfl HO.out _ 1 _ rfl HS.out (by unfold maxLen; omega) (by omega) (by have := Hk3.out.size; simp only [World.size_alloc]; omega) ?_; intro v4 w4 hr5 hg5 hn5; have hk5 : Kp (fun _ => False) w w4 := (Hk3.out.alloc _).grown hg5 (fun i hi hlt => absurd (Hr3.out.lt i hi).1 (by omega)); rw [← encP_app] at hr5; have hx5 := (Kp.of_grown (S := fun k => (Value.slice Ao n co).ownBlock = some k) hg5 (fun i hi _ => hi)).whole (Hx.out.alloc _) (fun e => hrb _ e rfl); have Hr4 := Lib.hid hr5; have Hk4 := Lib.hid hk5; have Hx4 := Lib.hid hx5; clear hr5 hg5 hn5 hk5 hx5)
          go_meet
          case rel => exact ⟨n + 1, out ++ [(sf, gp)], by omega, Lib.hid (by rw [Hgs.out, if_pos p2]), Lib.hid (by rw [List.length_append, Hol.out]; rfl), Hr4.out, Hx4.out, Hk4.out⟩
        · go_wp2_with fail
          go_meet
          case rel => exact ⟨n, out, by omega, Lib.hid (by rw [Hgs.out, if_neg (show ¬ sf < gp by omega), List.append_nil]), Hol, Hr3.out, Hx.out, Hk3.out⟩
      case rest =>
      obtain ⟨n1, o1, hn1, Hnx, Hol1, hr1, hx1, hk1⟩ := hcut
      generalize wc = w4 at *
      obtain ⟨A4, c4, rfl⟩ := hr1.form
      have y0 := hx1.cell 0
      have y1 := hx1.cell 1
      have yl := hx1.lt
      simp at y0 y1
      have Hr4 := Lib.hid hr1
      have Hk4 := Lib.hid hk1
      clear hr1 hk1 hx1
      by_cases p3 : sf < r2
      · obtain rfl : nf = r2 := by have := Hnf.out; omega
        go_wp2_with fail
        go_roundw
        case rel => exact ⟨i + 1, n1, ⟨o1, nf⟩, by omega, by omega, by go_num, rfl, Lib.hid (by rw [Hnext.out, Hnx.out]), Hol1, Hr4.out, Hk4.out⟩
        case measure => simp [intOf]; omega
      · obtain rfl : nf = sf := by have := Hnf.out; omega
        go_wp2_with fail
        go_roundw
        case rel => exact ⟨i + 1, n1, ⟨o1, nf⟩, by omega, by omega, by go_num, rfl, Lib.hid (by rw [Hnext.out, Hnx.out]), Hol1, Hr4.out, Hk4.out⟩
        case measure => simp [intOf]; omega
    · obtain rfl : i = m := by omega
      have hta : L.take i = L := List.take_of_length_le (by rw [Hm.out]; omega)
      rw [hta] at Hst
      have Hend : Hid (gapL L bf bt = gapEnd bt ⟨out, sf⟩) := Lib.hid (by rw [gapL, ← Hst.out])
      have hks := Hk.out.size
      by_cases pe : sf < bt
      · have HO : Hid (RowAt (wr.alloc (.cells #[.int .i64 sf, .int .i64 bt] 63)) w.heap.size 2 (.slice Ao n co) n (encs encP out)) := Lib.hid (RowAt.kp Hr.out ((Kp.refl (fun _ => False) wr).alloc _) (fun _ _ h => h))
        have HS : Hid (Src (wr.alloc (.cells #[.int .i64 sf, .int .i64 bt] 63)) 2 (.slice (some ⟨wr.heap.size, 0, none⟩) 1 1) 1 (encP (sf, bt))) := Lib.hid (src_pr (sf, bt) (Whole.new _ _ _))
        go_wp2_with (at_builtin; refine wpList_row rfl (.tmp 45) (.tmp 49) 39 rfl w.heap.size 63 i0 _ 2 16 Try.underlying39 Hi.out Hz0.out Hz1.out Hz2.out rfl (by decide) _ n _ rfl HO.out _ 1 _ rfl HS.out (by unfold maxLen; omega) (by omega) (by simp only [World.size_alloc]; omega) ?_; intro v5 w5 hr5 hg5 hn5; have hk5 : Kp (fun _ => False) w w5 := (Hk.out.alloc _).grown hg5 (fun i hi hlt => absurd (Hr.out.lt i hi).1 (by omega)); rw [← encP_app] at hr5; obtain ⟨A5, c5, rfl⟩ := hr5.form; have Hr5 := Lib.hid hr5; have Hk5 := Lib.hid hk5; have hcap := (row_capL hr5).1; have Hadd := Lib.hid (row_add hr5); clear hr5 hg5 hn5 hk5)
        with_reducible refine (clip_p hcap Hadd.out).mono ?_
        rintro e w2 ⟨rfl, rfl⟩
        go_wp2_with fail
        go_ret
        have he : gapL L bf bt = out ++ [(sf, bt)] := by rw [Hend.out, gapEnd, if_pos pe]
        exact ⟨A5, n + 1, by rw [he, List.length_append, Hol.out]; rfl, by omega, rfl, by rw [he]; exact Hr5.out.clip, Hk5.out⟩
      · have hcap := (row_capL Hr.out).1
        have Hadd := Lib.hid (row_add Hr.out)
        go_wp2_with fail
        with_reducible refine (clip_p hcap Hadd.out).mono ?_
        rintro e w2 ⟨rfl, rfl⟩
        go_wp2_with fail
        go_ret
        have he : gapL L bf bt = out := by rw [Hend.out, gapEnd, if_neg (show ¬ sf < bt by omega), List.append_nil]
        exact ⟨Ao, n, by rw [he, Hol.out], by omega, rfl, by rw [he]; exact Hr.out.clip, Hk.out⟩

theorem s_gaps {w : World} {s : Nat} {v : Value} {L : List Pr} (h : SetAt w s v L) (hlen : L.length ≤ 1073741824) (f t : Int) :
    Calls Try.prog 34 #[.pointer (some ⟨s, 0, none⟩), .int .i64 f, .int .i64 t] w fun e w' => ∃ A n, n = (gapL L (bringS f) (bringS t)).length ∧ n ≤ L.length + 1 ∧ e = .returned (.slice A n n) ∧ RowAt w' w.heap.size 2 (.slice A n n) n (encs encP (gapL L (bringS f) (bringS t))) ∧ Kp (fun _ => False) w w' := t_gaps h.inn hlen f t

/-- All: no gap. -/
theorem t_all {w : World} {s o : Nat} {tc : TypeId} {cs : Array Value} {v : Value} {L : List Pr} (h : SetIn w s o tc cs v L) (hlen : L.length ≤ 1073741824) (f t : Int) :
    Calls Try.prog 42 #[.pointer (some ⟨s, o, none⟩), .int .i64 f, .int .i64 t] w fun e w' => e = .returned (.bool ((gapL L (bringS f) (bringS t)).isEmpty)) ∧ Kp (fun _ => False) w w' := by
  have HG := Lib.hid (t_gaps h hlen f t)
  clear h hlen
  generalize gapL L (bringS f) (bringS t) = G at *
  generalize L.length = m at *
  go_enter Try.func42, Try.ntmps42
  go_wp2_with fail
  with_reducible refine (HG.out).mono ?_
  rintro e w1 ⟨A, n, hn, hm, rfl, hr, hk⟩
  have Hk := Lib.hid hk
  have Hn := Lib.hid hn
  clear hk hr hn
  go_wp2_with fail
  go_ret
  refine ⟨?_, Hk.out⟩
  have hn := Hn.out
  cases G with
  | nil => simp at hn; subst hn; simp
  | cons g G => simp at hn; simp; omega
theorem s_all {w : World} {s : Nat} {v : Value} {L : List Pr} (h : SetAt w s v L) (hlen : L.length ≤ 1073741824) (f t : Int) :
    Calls Try.prog 42 #[.pointer (some ⟨s, 0, none⟩), .int .i64 f, .int .i64 t] w fun e w' => e = .returned (.bool ((gapL L (bringS f) (bringS t)).isEmpty)) ∧ Kp (fun _ => False) w w' := t_all h.inn hlen f t

end Go.Proofs.Ytbkpapdbidbhaaa
