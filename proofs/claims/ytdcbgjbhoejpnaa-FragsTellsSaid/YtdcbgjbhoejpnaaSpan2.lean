/-
  Package spans: Drop.
-/
import Derived.Test.YtdcbgjbhoejpnaaSpan
namespace Go.Proofs.Ytdcbgjbhoejpnaa
open Go.RowKit

/-- What Drop makes of the runs. -/
def dropS (L : List Pr) (f t : Int) : List Pr := if bringS f < bringS t then dropL L (bringS f) (bringS t) else L
theorem drop_snoc {L : List Pr} {i : Nat} {r : Pr} (f t : Int) (h : L[i]? = some r) : dropL (L.take (i + 1)) f t = dropL (L.take i) f t ++ dropR f t r := by
  rw [takeP h, dropL, List.flatMap_append, ← dropL]; simp

set_option maxRecDepth 100000 in
set_option maxHeartbeats 2000000 in
theorem t_drop {w : World} {s o : Nat} {tc : TypeId} {cs : Array Value} {v : Value} {L : List Pr} (h : SetIn w s o tc cs v L) (hlen : L.length ≤ 1048576) (f t : Int) :
    Calls Try.prog 16 #[.pointer (some ⟨s, o, none⟩), .int .i64 f, .int .i64 t] w fun e w' => e = .returned (.tuple #[]) ∧ ∃ v', SetIn w' s o tc (cs.setIfInBounds o v') v' (dropS L f t) ∧ Kp (fun k => k = s) w w' ∧ (v' = v ∨ ∀ k, v'.ownBlock = some k → w.heap.size ≤ k) := by
  obtain ⟨i0, hii, hz0, hz1, hz2⟩ := info_parts infoPr
  have Hi := Lib.hid hii
  have Hz0 := Lib.hid hz0
  have Hz1 := Lib.hid hz1
  have Hz2 := Lib.hid hz2
  have H := Lib.hid h
  have hsl := h.cell.lt
  have c0 := h.c0
  have f0 := h.cell.frozen o
  obtain ⟨A, cap, rfl⟩ : ∃ A cap, v = .slice A L.length cap := by
    rcases h.src.2.2 with ⟨h1, h2⟩ | ⟨a, c, h1, _⟩
    · exact ⟨none, 0, by rw [h1, h2]⟩
    · exact ⟨_, _, h1⟩
  have Hdrop : Hid (dropS L f t = if bringS f < bringS t then dropL L (bringS f) (bringS t) else L) := Lib.hid rfl
  have B1 : Hid (∀ w', Calls Try.prog 43 #[.int .i64 f] w' fun e w2 => e = .returned (.int .i64 (bringS f)) ∧ w' = w2) := Lib.hid (bring_any f)
  have B2 : Hid (∀ w', Calls Try.prog 43 #[.int .i64 t] w' fun e w2 => e = .returned (.int .i64 (bringS t)) ∧ w' = w2) := Lib.hid (bring_any t)
  clear h hii hz0 hz1 hz2
  generalize bringS f = bf at *
  generalize bringS t = bt at *
  generalize hm : L.length = m at *
  have Hm := Lib.hid hm
  clear hm
  go_enter Try.func16, Try.ntmps16
  go_wp2_with fail
  with_reducible refine (B1.out _).mono ?_
  rintro e w1 ⟨rfl, rfl⟩
  go_wp2_with fail
  with_reducible refine (B2.out _).mono ?_
  rintro e w1 ⟨rfl, rfl⟩
  by_cases hft : bf < bt
  · rw [if_pos hft] at Hdrop
    go_wp2_with fail
    go_loopw [6, 23] (fun vo vi wr => ∃ (i n : Nat), i ≤ m ∧ n ≤ 2 * i ∧ vi = .int .i64 i ∧ Hid ((dropL (L.take i) bf bt).length = n) ∧ RowAt wr w.heap.size 2 vo n (encs encP (dropL (L.take i) bf bt)) ∧ Kp (fun _ => False) w wr)
      (fun _ vi _ => m - (intOf vi).toNat)
    case atStart => exact ⟨0, 0, by omega, by omega, rfl, Lib.hid rfl, RowAt.nil _ _ _, Kp.refl _ _⟩
    case round =>
      obtain ⟨i, n, him, hn, rfl, Hol, hr, hk⟩ := hrel
      obtain ⟨Ao, co, rfl⟩ := hr.form
      have Hr := Lib.hid hr
      have Hk := Lib.hid hk
      clear hr hk
      by_cases hlt : i < m
      · obtain ⟨b, off, c', hv, hb, hc⟩ := Src.wide H.out.src (by rw [Hm.out]; omega) (by omega)
        cases hv
        obtain ⟨r, hri⟩ : ∃ r, L[i]? = some r := ⟨_, List.getElem?_eq_getElem (by rw [Hm.out]; exact hlt)⟩
        have e0 := hc (i * 2) _ (pp0 hri)
        have e1 := hc (i * 2 + 1) _ (pp1 hri)
        rw [← Hk.out.cell (p := ⟨b, _, none⟩) hb (fun h => h)] at e0 e1
        rw [← Nat.add_assoc] at e1
        have hbw := Nat.lt_of_lt_of_le hb Hk.out.size
        have Hnext : Hid (dropL (L.take (i + 1)) bf bt = dropL (L.take i) bf bt ++ dropR bf bt r) := Lib.hid (drop_snoc bf bt hri)
        clear hc hri
        obtain ⟨r1, r2⟩ := r
        dsimp only at e0 e1
        generalize dropL (L.take i) bf bt = out at *
        have hka : Kp (fun _ => False) wr (wr.alloc (.cells #[.int .i64 r1, .int .i64 r2] 35)) := (Kp.refl _ wr).alloc _
        have hxw : Whole (wr.alloc (.cells #[.int .i64 r1, .int .i64 r2] 35)) wr.heap.size 35 #[.int .i64 r1, .int .i64 r2] := Whole.new _ _ _
        have hr3 := Hr.out.kp hka (fun _ _ h => h)
        have hrb : ∀ k, (Value.slice Ao n co).ownBlock = some k → k ≠ wr.heap.size := fun k hk e => by have := (Hr.out.lt k hk).2; omega
        go_upto_region 6 with (fail)
        generalize wr.alloc (.cells #[.int .i64 r1, .int .i64 r2] 35) = w3 at hka hxw hr3 ⊢
        have x0 := hxw.cell 0
        have x1 := hxw.cell 1
        have hxl := hxw.lt
        simp at x0 x1
        have Hx := Lib.hid hxw
        have Hr3 := Lib.hid hr3
        have Hk3 := Lib.hid (Hk.out.trans hka)
        clear hka hxw hr3 e0 e1 Hr Hk
        generalize wr.heap.size = bx at *
        obtain ⟨lf, hlf⟩ : ∃ lf, lf = min r2 bf := ⟨_, rfl⟩
        obtain ⟨rg, hrg⟩ : ∃ rg, rg = max r1 bt := ⟨_, rfl⟩
        have Hdr : Hid (dropR bf bt (r1, r2) = (if r1 < lf then [(r1, lf)] else []) ++ (if rg < r2 then [(rg, r2)] else [])) := Lib.hid (by rw [hlf, hrg]; rfl)
        have Hlf := Lib.hid hlf
        have Hrg := Lib.hid hrg
        clear hlf hrg
        go_cut [9] (fun v9 wx => v9 = .int .i64 lf ∧ wx = w3)
        case first =>
          by_cases p1 : bf < r2
          · obtain rfl : lf = bf := by have := Hlf.out; omega
            go_wp2_with fail
            go_meet
            case rel => exact ⟨rfl, rfl⟩
          · obtain rfl : lf = r2 := by have := Hlf.out; omega
            go_wp2_with fail
            go_meet
            case rel => exact ⟨rfl, rfl⟩
        case rest =>
        obtain ⟨rfl, rfl⟩ := hcut
        go_upto_if 34 with (fail)
        go_cut [6] (fun vo wx => ∃ (n1 : Nat) (o1 : List Pr), n1 ≤ 2 * i + 1 ∧ Hid (dropL (L.take (i + 1)) bf bt = o1 ++ (if rg < r2 then [(rg, r2)] else [])) ∧ Hid (o1.length = n1) ∧ RowAt wx w.heap.size 2 vo n1 (encs encP o1) ∧ Whole wx bx 35 #[.int .i64 r1, .int .i64 r2] ∧ Kp (fun _ => False) w wx)
        case first =>
          by_cases p2 : r1 < lf
          · have HO : Hid (RowAt (wc.alloc (.cells #[.int .i64 r1, .int .i64 lf] 35)) w.heap.size 2 (.slice Ao n co) n (encs encP out)) := Lib.hid (RowAt.kp Hr3.out ((Kp.refl (fun _ => False) wc).alloc _) (fun _ _ h => h))
            have HS : Hid (Src (wc.alloc (.cells #[.int .i64 r1, .int .i64 lf] 35)) 2 (.slice (some ⟨wc.heap.size, 0, none⟩) 1 1) 1 (encP (r1, lf))) := Lib.hid (src_pr (r1, lf) (Whole.new _ _ _))
            go_wp2_with (at_builtin; refine wpList_row rfl (.tmp 35) (.tmp 40) 25 rfl w.heap.size 35 i0 _ 2 16 Try.underlying25 Hi.out Hz0.out Hz1.out Hz2.out rfl (by decide) _ n _ rfl HO.out _ 1 _ rfl HS.out (by unfold maxLen; omega) (by omega) (by have := Hk3.out.size; simp only [World.size_alloc]; omega) ?_; intro v4 w4 hr5 hg5 hn5; have hk5 : Kp (fun _ => False) w w4 := (Hk3.out.alloc _).grown hg5 (fun i hi hlt => absurd (Hr3.out.lt i hi).1 (by omega)); rw [← encP_app] at hr5; have hx5 := (Kp.of_grown (S := fun k => (Value.slice Ao n co).ownBlock = some k) hg5 (fun i hi _ => hi)).whole (Hx.out.alloc _) (fun e => hrb _ e rfl); have Hr4 := Lib.hid hr5; have Hk4 := Lib.hid hk5; have Hx4 := Lib.hid hx5; clear hr5 hg5 hn5 hk5 hx5)
            go_meet
            case rel => exact ⟨n + 1, out ++ [(r1, lf)], by omega, Lib.hid (by rw [Hnext.out, Hdr.out, if_pos p2, List.append_assoc]), Lib.hid (by rw [List.length_append, Hol.out]; rfl), Hr4.out, Hx4.out, Hk4.out⟩
          · go_wp2_with fail
            go_meet
            case rel => exact ⟨n, out, by omega, Lib.hid (by rw [Hnext.out, Hdr.out, if_neg (show ¬ r1 < lf by omega), List.nil_append]), Hol, Hr3.out, Hx.out, Hk3.out⟩
        case rest =>
        obtain ⟨n1, o1, hn1, Hnx, Hol1, hr1, hx1, hk1⟩ := hcut
        generalize wc = w4 at *
        obtain ⟨A4, c4, rfl⟩ := hr1.form
        have y0 := hx1.cell 0
        have y1 := hx1.cell 1
        have yl := hx1.lt
        simp at y0 y1
        have Hr4 := Lib.hid hr1
        have Hk4 := Lib.hid hk1
        clear hr1 hk1 hx1
        go_upto_region 9 with (fail)
        go_cut [10] (fun v10 wx => v10 = .int .i64 rg ∧ wx = w4)
        case first =>
          by_cases p3 : r1 < bt
          · obtain rfl : rg = bt := by have := Hrg.out; omega
            go_wp2_with fail
            go_meet
            case rel => exact ⟨rfl, rfl⟩
          · obtain rfl : rg = r1 := by have := Hrg.out; omega
            go_wp2_with fail
            go_meet
            case rel => exact ⟨rfl, rfl⟩
        case rest =>
        obtain ⟨rfl, rfl⟩ := hcut
        by_cases p4 : rg < r2
        · have HO : Hid (RowAt (wc.alloc (.cells #[.int .i64 rg, .int .i64 r2] 35)) w.heap.size 2 (.slice A4 n1 c4) n1 (encs encP o1)) := Lib.hid (RowAt.kp Hr4.out ((Kp.refl (fun _ => False) wc).alloc _) (fun _ _ h => h))
          have HS : Hid (Src (wc.alloc (.cells #[.int .i64 rg, .int .i64 r2] 35)) 2 (.slice (some ⟨wc.heap.size, 0, none⟩) 1 1) 1 (encP (rg, r2))) := Lib.hid (src_pr (rg, r2) (Whole.new _ _ _))
          go_wp2_with (at_builtin; refine wpList_row rfl (.tmp 50) (.tmp 55) 25 rfl w.heap.size 35 i0 _ 2 16 Try.underlying25 Hi.out Hz0.out Hz1.out Hz2.out rfl (by decide) _ n1 _ rfl HO.out _ 1 _ rfl HS.out (by unfold maxLen; omega) (by omega) (by have := Hk4.out.size; simp only [World.size_alloc]; omega) ?_; intro v5 w5 hr5 hg5 hn5; have hk5 : Kp (fun _ => False) w w5 := (Hk4.out.alloc _).grown hg5 (fun i hi hlt => absurd (Hr4.out.lt i hi).1 (by omega)); rw [← encP_app] at hr5; have Hr5 := Lib.hid hr5; have Hk5 := Lib.hid hk5; clear hr5 hg5 hn5 hk5)
          go_roundw
          case rel => exact ⟨i + 1, n1 + 1, by omega, by omega, by go_num, Lib.hid (by rw [Hnx.out, if_pos p4, List.length_append, Hol1.out]; rfl), by rw [Hnx.out, if_pos p4]; exact Hr5.out, Hk5.out⟩
          case measure => simp [intOf]; omega
        · rw [if_neg p4, List.append_nil] at Hnx
          go_wp2_with fail
          go_roundw
          case rel => exact ⟨i + 1, n1, by omega, by omega, by go_num, Lib.hid (by rw [Hnx.out, Hol1.out]), by rw [Hnx.out]; exact Hr4.out, Hk4.out⟩
          case measure => simp [intOf]; omega
      · obtain rfl : i = m := by omega
        have hta : L.take i = L := List.take_of_length_le (by rw [Hm.out]; omega)
        rw [hta] at Hol Hr
        have c1 : wr.cell? ⟨s, o, none⟩ = some (.slice A i cap) := (Hk.out.cell (p := ⟨s, o, none⟩) hsl (fun h => h)).trans c0
        have f1 : wr.frozen? ⟨s, o, none⟩ = false := (Hk.out.frozen (p := ⟨s, o, none⟩) hsl (fun h => h)).trans f0
        have hsl1 := Nat.lt_of_lt_of_le hsl Hk.out.size
        have Hend := Lib.hid (set_end H.out Hk.out (by rw [Hol.out]; exact Hr.out))
        go_wp2_with fail
        refine ⟨rfl, .tuple #[], results_none rfl _ _ _, rfl, ?_⟩
        rw [Hdrop.out]
        exact ⟨_, Hend.out.1, Hend.out.2, .inr (fun k hk => (Hr.out.lt k hk).1)⟩
  · rw [if_neg hft] at Hdrop
    go_wp2_with fail
    refine ⟨rfl, .tuple #[], results_none rfl _ _ _, rfl, ?_⟩
    rw [Hdrop.out]
    exact ⟨_, H.out.same, Kp.refl _ _, .inl rfl⟩
theorem s_drop {w : World} {s : Nat} {v : Value} {L : List Pr} (h : SetAt w s v L) (hlen : L.length ≤ 1048576) (f t : Int) :
    Calls Try.prog 16 #[.pointer (some ⟨s, 0, none⟩), .int .i64 f, .int .i64 t] w fun e w' => e = .returned (.tuple #[]) ∧ ∃ v', SetAt w' s v' (dropS L f t) ∧ Kp (fun k => k = s) w w' ∧ (v' = v ∨ ∀ k, v'.ownBlock = some k → w.heap.size ≤ k) := by
  refine (t_drop h.inn hlen f t).mono ?_
  rintro e w' ⟨rfl, v', h1, h2, h3⟩
  exact ⟨rfl, v', h1.one, h2, h3⟩

end Go.Proofs.Ytdcbgjbhoejpnaa
