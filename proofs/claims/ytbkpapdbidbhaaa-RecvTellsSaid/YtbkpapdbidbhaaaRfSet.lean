/-
  argosyref1.Set: Add, Has, Count, First.
-/
import Derived.Test.YtbkpapdbidbhaaaSpanB
import Derived.BigQuiet
namespace Go.Proofs.Ytbkpapdbidbhaaa
open Go.RowKit

theorem within_any (n lo hi : Int) (w : World) : Calls Try.prog 45 #[.int .i64 n, .int .i64 lo, .int .i64 hi] w fun e w' => e = .returned (.int .i64 (max lo (min hi n))) ∧ w = w' := by
  obtain ⟨m, hm⟩ : ∃ m, m = max lo (min hi n) := ⟨_, rfl⟩
  rw [← hm]
  have Hm := Lib.hid hm
  clear hm
  go_enter Try.func45, Try.ntmps45
  go_wp2_with fail
  all_goals
    go_ret
    have hm := Hm.out
    refine ⟨?_, rfl⟩
    first
      | (simp; omega)
      | (split <;> simp <;> omega)
      | (split <;> split <;> simp <;> omega)
theorem within_bring (n : Int) (w : World) : Calls Try.prog 45 #[.int .i64 n, .int .i64 0, .int .i64 4611686018427387904] w fun e w' => e = .returned (.int .i64 (bringS n)) ∧ w = w' := by
  have h := within_any n 0 4611686018427387904 w
  rw [show max 0 (min 4611686018427387904 n) = bringS n by unfold bringS EndS; omega] at h
  exact h

set_option maxRecDepth 100000 in
set_option maxHeartbeats 2000000 in
theorem q_add {w : World} {s o : Nat} {tc : TypeId} {cs : Array Value} {v : Value} {L : List Pr} (h : SetIn w s o tc cs v L) (hlen : L.length ≤ 1073741824) (f t : Int) :
    Calls Try.prog 52 #[.pointer (some ⟨s, o, none⟩), .int .i64 f, .int .i64 t] w fun e w' => e = .returned (.tuple #[]) ∧ ∃ v', SetIn w' s o tc (cs.setIfInBounds o v') v' (addS L f t) ∧ Kp (fun k => k = s) w w' ∧ (v' = v ∨ ∀ k, v'.ownBlock = some k → w.heap.size ≤ k) := by
  obtain ⟨i0, hii, hz0, hz1, hz2⟩ := info_parts infoPr
  have Hi := Lib.hid hii
  have Hz0 := Lib.hid hz0
  have Hz1 := Lib.hid hz1
  have Hz2 := Lib.hid hz2
  have H := Lib.hid h
  have hsl := h.cell.lt
  have c0 := h.c0
  have f0 := h.cell.frozen o
  obtain ⟨A, cap, rfl⟩ : ∃ A cap, v = .slice A L.length cap := by
    rcases h.src.2.2 with ⟨h1, h2⟩ | ⟨a, c, h1, _⟩
    · exact ⟨none, 0, by rw [h1, h2]⟩
    · exact ⟨_, _, h1⟩
  have Hadd : Hid (addS L f t = if bringS f < bringS t then addL L (bringS f) (bringS t) else L) := Lib.hid rfl
  have b1 := bringS_lo f
  have b2 := bringS_hi f
  have b3 := bringS_lo t
  have b4 := bringS_hi t
  have B1 : Hid (∀ w', Calls Try.prog 45 #[.int .i64 f, .int .i64 0, .int .i64 4611686018427387904] w' fun e w2 => e = .returned (.int .i64 (bringS f)) ∧ w' = w2) := Lib.hid (within_bring f)
  have B2 : Hid (∀ w', Calls Try.prog 45 #[.int .i64 t, .int .i64 0, .int .i64 4611686018427387904] w' fun e w2 => e = .returned (.int .i64 (bringS t)) ∧ w' = w2) := Lib.hid (within_bring t)
  clear h hii hz0 hz1 hz2
  generalize bringS f = bf at *
  generalize bringS t = bt at *
  generalize hm : L.length = m at *
  have Hm := Lib.hid hm
  clear hm
  go_enter Try.func52, Try.ntmps52
  go_wp2_with fail
  with_reducible refine (B1.out _).mono ?_
  rintro e w1 ⟨rfl, rfl⟩
  go_wp2_with fail
  with_reducible refine (B2.out _).mono ?_
  rintro e w1 ⟨rfl, rfl⟩
  by_cases hft : bf < bt
  · rw [if_pos hft] at Hadd
    go_wp2_with fail
    go_loopw [1, 2, 6, 7, 8] (fun vf vt vo vd vi wr => ∃ (i n : Nat) (st : AddS), i ≤ m ∧ n ≤ 2 * i ∧ vi = .int .i64 i ∧ vf = .int .i64 st.f ∧ vt = .int .i64 st.t ∧ vd = .bool st.done ∧ Hid (st = (L.take i).foldl addStep ⟨[], false, bf, bt⟩) ∧ Hid (st.out.length = n) ∧ RowAt wr w.heap.size 2 vo n (encs encP st.out) ∧ Kp (fun _ => False) w wr)
      (fun _ _ _ _ vi _ => m - (intOf vi).toNat)
    case atStart => exact ⟨0, 0, ⟨[], false, bf, bt⟩, by omega, by omega, rfl, rfl, rfl, rfl, Lib.hid rfl, Lib.hid rfl, RowAt.nil _ _ _, Kp.refl _ _⟩
    case round =>
      obtain ⟨i, n, ⟨out, done, sf, stt⟩, him, hn, rfl, rfl, rfl, rfl, Hst, Hol, hr, hk⟩ := hrel
      dsimp only at Hol hr
      obtain ⟨Ao, co, rfl⟩ := hr.form
      have Hr := Lib.hid hr
      have Hk := Lib.hid hk
      clear hr hk
      have cw := (Hk.out.cell (p := ⟨s, o, none⟩) hsl (fun h => h)).trans c0
      have hslw := Nat.lt_of_lt_of_le hsl Hk.out.size
      by_cases hlt : i < m
      · obtain ⟨b, off, c', hv, hb, hc⟩ := Src.wide H.out.src (by rw [Hm.out]; omega) (by omega)
        cases hv
        obtain ⟨r, hri⟩ : ∃ r, L[i]? = some r := ⟨_, List.getElem?_eq_getElem (by rw [Hm.out]; exact hlt)⟩
        have e0 := hc (i * 2) _ (pp0 hri)
        have e1 := hc (i * 2 + 1) _ (pp1 hri)
        rw [← Hk.out.cell (p := ⟨b, _, none⟩) hb (fun h => h)] at e0 e1
        rw [← Nat.add_assoc] at e1
        have hbw := Nat.lt_of_lt_of_le hb Hk.out.size
        have Hnext : Hid (addStep ⟨out, done, sf, stt⟩ r = (L.take (i + 1)).foldl addStep ⟨[], false, bf, bt⟩) := Lib.hid (by rw [fold_snoc _ hri, ← Hst.out])
        clear hc hri
        obtain ⟨r1, r2⟩ := r
        dsimp only at e0 e1
        have hka : Kp (fun _ => False) wr (wr.alloc (.cells #[.int .i64 r1, .int .i64 r2] 63)) := (Kp.refl _ wr).alloc _
        have hxw : Whole (wr.alloc (.cells #[.int .i64 r1, .int .i64 r2] 63)) wr.heap.size 63 #[.int .i64 r1, .int .i64 r2] := Whole.new _ _ _
        have hr3 := Hr.out.kp hka (fun _ _ h => h)
        have hrb : ∀ k, (Value.slice Ao n co).ownBlock = some k → k ≠ wr.heap.size := fun k hk e => by have := (Hr.out.lt k hk).2; omega
        go_upto_region 9 with (fail)
        generalize wr.alloc (.cells #[.int .i64 r1, .int .i64 r2] 63) = w3 at hka hxw hr3 ⊢
        have x0 := hxw.cell 0
        have x1 := hxw.cell 1
        have hxl := hxw.lt
        simp at x0 x1
        have Hx := Lib.hid hxw
        have Hr3 := Lib.hid hr3
        have Hk3 := Lib.hid (Hk.out.trans hka)
        clear hka hxw hr3 e0 e1 Hr Hk cw hslw
        generalize wr.heap.size = bx at *
        by_cases t1 : r2 < sf
        · have hstep : addStep ⟨out, done, sf, stt⟩ (r1, r2) = ⟨out ++ [(r1, r2)], done, sf, stt⟩ := by unfold addStep; rw [if_pos t1]
          rw [hstep] at Hnext
          clear hstep
          have HO : Hid (RowAt (w3.alloc (.cells #[.int .i64 r1, .int .i64 r2] 63)) w.heap.size 2 (.slice Ao n co) n (encs encP out)) := Lib.hid (RowAt.kp Hr3.out ((Kp.refl (fun _ => False) w3).alloc _) (fun _ _ h => h))
          have HS : Hid (Src (w3.alloc (.cells #[.int .i64 r1, .int .i64 r2] 63)) 2 (.slice (some ⟨w3.heap.size, 0, none⟩) 1 1) 1 (encP (r1, r2))) := Lib.hid (src_pr (r1, r2) (Whole.new _ _ _))
          go_wp2_with (at_builtin; refine wpList_row rfl (.tmp 37) (.tmp 39) 39 rfl w.heap.size 63 i0 _ 2 16 Try.underlying39 Hi.out Hz0.out Hz1.out Hz2.out rfl (by decide) _ n _ rfl HO.out _ 1 _ rfl HS.out (by unfold maxLen; omega) (by omega) (by have := Hk3.out.size; simp only [World.size_alloc]; omega) ?_; intro v5 w5 hr5 hg5 hn5; have hk5 : Kp (fun _ => False) w w5 := (Hk3.out.alloc _).grown hg5 (fun i hi hlt => absurd (Hr3.out.lt i hi).1 (by omega)); obtain ⟨A5, c5, rfl⟩ := hr5.form; have Hr5 := Lib.hid hr5; have Hk5 := Lib.hid hk5; clear hr5 hg5 hn5 hk5)
          go_roundw
          case rel => exact ⟨i + 1, n + 1, ⟨out ++ [(r1, r2)], done, sf, stt⟩, by omega, by omega, by go_num, rfl, rfl, rfl, Hnext, Lib.hid (by rw [List.length_append, Hol.out]; rfl), by rw [encP_app]; exact Hr5.out, Hk5.out⟩
          case measure => simp [intOf]; omega
        · by_cases t2 : stt < r1
          · cases done with
            | true =>
              have hstep : addStep ⟨out, true, sf, stt⟩ (r1, r2) = ⟨out ++ [(r1, r2)], true, sf, stt⟩ := by unfold addStep; rw [if_neg t1, if_pos t2]; rfl
              rw [hstep] at Hnext
              clear hstep
              have HO : Hid (RowAt (w3.alloc (.cells #[.int .i64 r1, .int .i64 r2] 63)) w.heap.size 2 (.slice Ao n co) n (encs encP out)) := Lib.hid (RowAt.kp Hr3.out ((Kp.refl (fun _ => False) w3).alloc _) (fun _ _ h => h))
              have HS : Hid (Src (w3.alloc (.cells #[.int .i64 r1, .int .i64 r2] 63)) 2 (.slice (some ⟨w3.heap.size, 0, none⟩) 1 1) 1 (encP (r1, r2))) := Lib.hid (src_pr (r1, r2) (Whole.new _ _ _))
              go_wp2_with (at_builtin; refine wpList_row rfl (.tmp 53) (.tmp 55) 39 rfl w.heap.size 63 i0 _ 2 16 Try.underlying39 Hi.out Hz0.out Hz1.out Hz2.out rfl (by decide) _ n _ rfl HO.out _ 1 _ rfl HS.out (by unfold maxLen; omega) (by omega) (by have := Hk3.out.size; simp only [World.size_alloc]; omega) ?_; intro v5 w5 hr5 hg5 hn5; have hk5 : Kp (fun _ => False) w w5 := (Hk3.out.alloc _).grown hg5 (fun i hi hlt => absurd (Hr3.out.lt i hi).1 (by omega)); obtain ⟨A5, c5, rfl⟩ := hr5.form; have Hr5 := Lib.hid hr5; have Hk5 := Lib.hid hk5; clear hr5 hg5 hn5 hk5)
              go_roundw
              case rel => exact ⟨i + 1, n + 1, ⟨out ++ [(r1, r2)], true, sf, stt⟩, by omega, by omega, by go_num, rfl, rfl, rfl, Hnext, Lib.hid (by rw [List.length_append, Hol.out]; rfl), by rw [encP_app]; exact Hr5.out, Hk5.out⟩
              case measure => simp [intOf]; omega
            | false =>
              have hstep : addStep ⟨out, false, sf, stt⟩ (r1, r2) = ⟨out ++ [(sf, stt)] ++ [(r1, r2)], true, sf, stt⟩ := by unfold addStep; rw [if_neg t1, if_pos t2]; rfl
              rw [hstep] at Hnext
              clear hstep
              have HO : Hid (RowAt (w3.alloc (.cells #[.int .i64 sf, .int .i64 stt] 63)) w.heap.size 2 (.slice Ao n co) n (encs encP out)) := Lib.hid (RowAt.kp Hr3.out ((Kp.refl (fun _ => False) w3).alloc _) (fun _ _ h => h))
              have HS : Hid (Src (w3.alloc (.cells #[.int .i64 sf, .int .i64 stt] 63)) 2 (.slice (some ⟨w3.heap.size, 0, none⟩) 1 1) 1 (encP (sf, stt))) := Lib.hid (src_pr (sf, stt) (Whole.new _ _ _))
              go_upto_region 14 with (at_builtin; refine wpList_row rfl (.tmp 47) (.tmp 51) 39 rfl w.heap.size 63 i0 _ 2 16 Try.underlying39 Hi.out Hz0.out Hz1.out Hz2.out rfl (by decide) _ n _ rfl HO.out _ 1 _ rfl HS.out (by unfold maxLen; omega) (by omega) (by have := Hk3.out.size; simp only [World.size_alloc]; omega) ?_; intro v5 w5 hr5 hg5 hn5; have hk5 : Kp (fun _ => False) w w5 := (Hk3.out.alloc _).grown hg5 (fun i hi hlt => absurd (Hr3.out.lt i hi).1 (by omega)); have hx5 := (Kp.of_grown (S := fun k => (Value.slice Ao n co).ownBlock = some k) hg5 (fun i hi _ => hi)).whole (Hx.out.alloc _) (fun e => hrb _ e rfl); obtain ⟨A5, c5, rfl⟩ := hr5.form; have Hr5 := Lib.hid hr5; have Hk5 := Lib.hid hk5; have Hx5 := Lib.hid hx5; have y0 := hx5.cell 0; have y1 := hx5.cell 1; have hxl5 := hx5.lt; simp at y0 y1; clear hr5 hg5 hn5 hk5 hx5)
              have HO2 : Hid (RowAt (w5.alloc (.cells #[.int .i64 r1, .int .i64 r2] 63)) w.heap.size 2 (.slice A5 (n + 1) c5) (n + 1) (encs encP (out ++ [(sf, stt)]))) := Lib.hid (by rw [encP_app]; exact RowAt.kp Hr5.out ((Kp.refl (fun _ => False) w5).alloc _) (fun _ _ h => h))
              have HS2 : Hid (Src (w5.alloc (.cells #[.int .i64 r1, .int .i64 r2] 63)) 2 (.slice (some ⟨w5.heap.size, 0, none⟩) 1 1) 1 (encP (r1, r2))) := Lib.hid (src_pr (r1, r2) (Whole.new _ _ _))
              go_wp2_with (at_builtin; refine wpList_row rfl (.tmp 53) (.tmp 55) 39 rfl w.heap.size 63 i0 _ 2 16 Try.underlying39 Hi.out Hz0.out Hz1.out Hz2.out rfl (by decide) _ (n + 1) _ rfl HO2.out _ 1 _ rfl HS2.out (by unfold maxLen; omega) (by omega) (by have := Hk5.out.size; simp only [World.size_alloc]; omega) ?_; intro v6 w6 hr6 hg6 hn6; have hk6 : Kp (fun _ => False) w w6 := (Hk5.out.alloc _).grown hg6 (fun i hi hlt => absurd (Hr5.out.lt i hi).1 (by omega)); have Hr6 := Lib.hid hr6; have Hk6 := Lib.hid hk6; clear hr6 hg6 hn6 hk6)
              go_roundw
              case rel => exact ⟨i + 1, n + 1 + 1, ⟨out ++ [(sf, stt)] ++ [(r1, r2)], true, sf, stt⟩, by omega, by omega, by go_num, rfl, rfl, rfl, Hnext, Lib.hid (by rw [List.length_append, List.length_append, Hol.out]; rfl), by rw [encP_app]; exact Hr6.out, Hk6.out⟩
              case measure => simp [intOf]; omega
          · have hstep : addStep ⟨out, done, sf, stt⟩ (r1, r2) = ⟨out, done, min sf r1, max stt r2⟩ := by unfold addStep; rw [if_neg t1, if_neg t2]
            rw [hstep] at Hnext
            clear hstep
            go_wp2_with fail
            all_goals
              go_roundw
              case rel =>
                have hmin : (if r1 < sf then r1 else sf) = min sf r1 := by split <;> omega
                have hmax : (if stt < r2 then r2 else stt) = max stt r2 := by split <;> omega
                exact ⟨i + 1, n, ⟨out, done, min sf r1, max stt r2⟩, by omega, by omega, by go_num, by rw [hmin], by rw [hmax], rfl, Hnext, Hol, Hr3.out, Hk3.out⟩
              case measure => simp [intOf]; omega
      · obtain rfl : i = m := by omega
        have hta : L.take i = L := List.take_of_length_le (by rw [Hm.out]; omega)
        rw [hta] at Hst
        have f1 : wr.frozen? ⟨s, o, none⟩ = false := (Hk.out.frozen (p := ⟨s, o, none⟩) hsl (fun h => h)).trans f0
        have hend : addL L bf bt = addEnd ⟨out, done, sf, stt⟩ := by rw [addL, ← Hst.out]
        have hks := Hk.out.size
        cases done with
        | true =>
          have he2 : addEnd ⟨out, true, sf, stt⟩ = out := rfl
          have Hend := Lib.hid (set_end H.out Hk.out (by rw [Hol.out]; exact Hr.out))
          rw [hend, he2] at Hadd
          clear hend he2
          go_wp2_with fail
          refine ⟨rfl, .tuple #[], results_none rfl _ _ _, rfl, ?_⟩
          rw [Hadd.out]
          exact ⟨_, Hend.out.1, Hend.out.2, .inr (fun k hk => (Hr.out.lt k hk).1)⟩
        | false =>
          have he2 : addEnd ⟨out, false, sf, stt⟩ = out ++ [(sf, stt)] := rfl
          rw [hend, he2] at Hadd
          clear hend he2
          have HO : Hid (RowAt (wr.alloc (.cells #[.int .i64 sf, .int .i64 stt] 63)) w.heap.size 2 (.slice Ao n co) n (encs encP out)) := Lib.hid (RowAt.kp Hr.out ((Kp.refl (fun _ => False) wr).alloc _) (fun _ _ h => h))
          have HS : Hid (Src (wr.alloc (.cells #[.int .i64 sf, .int .i64 stt] 63)) 2 (.slice (some ⟨wr.heap.size, 0, none⟩) 1 1) 1 (encP (sf, stt))) := Lib.hid (src_pr (sf, stt) (Whole.new _ _ _))
          go_wp2_with (at_builtin; refine wpList_row rfl (.tmp 67) (.tmp 71) 39 rfl w.heap.size 63 i0 _ 2 16 Try.underlying39 Hi.out Hz0.out Hz1.out Hz2.out rfl (by decide) _ n _ rfl HO.out _ 1 _ rfl HS.out (by unfold maxLen; omega) (by omega) (by simp only [World.size_alloc]; omega) ?_; intro v5 w5 hr5 hg5 hn5; have hk5 : Kp (fun _ => False) w w5 := (Hk.out.alloc _).grown hg5 (fun i hi hlt => absurd (Hr.out.lt i hi).1 (by omega)); have d0 : w5.cell? ⟨s, o, none⟩ = some (.slice A i cap) := (hk5.cell (p := ⟨s, o, none⟩) hsl (fun h => h)).trans c0; have d1 : w5.frozen? ⟨s, o, none⟩ = false := (hk5.frozen (p := ⟨s, o, none⟩) hsl (fun h => h)).trans f0; have hend := set_end H.out hk5 (L2 := out ++ [(sf, stt)]) (by rw [List.length_append, Hol.out, encP_app]; exact hr5); have Hend := Lib.hid hend; have Hlt := Lib.hid hr5.lt; obtain ⟨A5, c5, rfl⟩ := hr5.form; clear hr5 hg5 hn5 hk5 hend)
          refine ⟨rfl, .tuple #[], results_none rfl _ _ _, rfl, ?_⟩
          rw [Hadd.out]
          exact ⟨_, Hend.out.1, Hend.out.2, .inr (fun k hk => (Hlt.out k hk).1)⟩
  · rw [if_neg hft] at Hadd
    go_wp2_with fail
    refine ⟨rfl, .tuple #[], results_none rfl _ _ _, rfl, ?_⟩
    rw [Hadd.out]
    exact ⟨_, H.out.same, Kp.refl _ _, .inl rfl⟩
theorem NormL.take10 {E : Int} {L : List Pr} (h : NormL E L) (i : Nat) : NormL E (L.take i) :=
  ⟨h.asc.sublist (List.take_sublist _ _), fun r hr => h.run r (List.mem_of_mem_take hr)⟩

set_option maxRecDepth 100000 in
set_option maxHeartbeats 1000000 in
theorem q_has {w : World} {s o : Nat} {tc : TypeId} {cs : Array Value} {v : Value} {L : List Pr} (h : SetIn w s o tc cs v L) (hlen : L.length ≤ 1073741824) (n : Int) :
    Calls Try.prog 32 #[.pointer (some ⟨s, o, none⟩), .int .i64 n] w fun e w' => e = .returned (.bool (L.any (hasP n))) ∧ w = w' := by
  have H := Lib.hid h
  have hsl := h.cell.lt
  have c0 := h.c0
  obtain ⟨A, cap, rfl⟩ : ∃ A cap, v = .slice A L.length cap := by
    rcases h.src.2.2 with ⟨h1, h2⟩ | ⟨a, c, h1, _⟩
    · exact ⟨none, 0, by rw [h1, h2]⟩
    · exact ⟨_, _, h1⟩
  clear h
  generalize hm : L.length = m at *
  have Hm := Lib.hid hm
  clear hm
  go_enter Try.func32, Try.ntmps32
  go_wp2_with fail
  go_loopw [5] (fun vi wr => ∃ (i : Nat), i ≤ m ∧ vi = .int .i64 i ∧ Hid ((L.take i).any (hasP n) = false) ∧ wr = w)
    (fun vi _ => m - (intOf vi).toNat)
  case atStart => exact ⟨0, by omega, rfl, Lib.hid rfl, rfl⟩
  case round =>
    obtain ⟨i, him, rfl, Hno, hwr⟩ := hrel
    subst hwr
    by_cases hlt : i < m
    · have t0 : (i : Int) < (m : Int) := by omega
      obtain ⟨b, off, c', hv, hb, hc⟩ := Src.wide H.out.src (by rw [Hm.out]; omega) (by omega)
      cases hv
      obtain ⟨r, hri⟩ : ∃ r, L[i]? = some r := ⟨_, List.getElem?_eq_getElem (by rw [Hm.out]; exact hlt)⟩
      have e0 := hc (i * 2) _ (pp0 hri)
      have e1 := hc (i * 2 + 1) _ (pp1 hri)
      rw [← Nat.add_assoc] at e1
      have Hri := Lib.hid hri
      clear hc hri
      obtain ⟨r1, r2⟩ := r
      dsimp only at e0 e1
      have Hp : Hid (hasP n (r1, r2) = (decide (r1 ≤ n) && decide (n < r2))) := Lib.hid rfl
      by_cases t1 : r1 ≤ n
      · by_cases t2 : n < r2
        · rw [decide_eq_true t1, decide_eq_true t2] at Hp
          go_wp2_with fail
          go_ret
          exact ⟨by rw [List.any_eq_true.2 ⟨_, List.mem_of_getElem? Hri.out, Hp.out⟩]; rfl, rfl⟩
        · rw [decide_eq_true t1, decide_eq_false t2] at Hp
          go_wp2_with fail
          go_roundw
          case rel => exact ⟨i + 1, by omega, by go_num, Lib.hid (by rw [any_snoc _ _ _ _ Hri.out, Hno.out, Hp.out]; rfl), by first | rfl | trivial⟩
          case measure => simp [intOf]; omega
      · rw [decide_eq_false t1] at Hp
        go_wp2_with fail
        go_roundw
        case rel => exact ⟨i + 1, by omega, by go_num, Lib.hid (by rw [any_snoc _ _ _ _ Hri.out, Hno.out, Hp.out]; rfl), by first | rfl | trivial⟩
        case measure => simp [intOf]; omega
    · obtain rfl : i = m := by omega
      rw [List.take_of_length_le (by rw [Hm.out]; omega)] at Hno
      go_wp2_with fail
      go_ret
      exact ⟨by rw [Hno.out]; rfl, rfl⟩
set_option maxRecDepth 100000 in
set_option maxHeartbeats 1000000 in
theorem q_first {w : World} {s o : Nat} {tc : TypeId} {cs : Array Value} {v : Value} {L : List Pr} (h : SetIn w s o tc cs v L) (hlen : L.length ≤ 1073741824) (n : Int) (hn0 : 0 ≤ n) :
    Calls Try.prog 44 #[.pointer (some ⟨s, o, none⟩), .int .i64 n] w fun e w' => e = .returned (.int .i64 (firstL L n)) ∧ w = w' := by
  have H := Lib.hid h
  have hsl := h.cell.lt
  have c0 := h.c0
  obtain ⟨A, cap, rfl⟩ : ∃ A cap, v = .slice A L.length cap := by
    rcases h.src.2.2 with ⟨h1, h2⟩ | ⟨a, c, h1, _⟩
    · exact ⟨none, 0, by rw [h1, h2]⟩
    · exact ⟨_, _, h1⟩
  clear h
  generalize hm : L.length = m at *
  have Hm := Lib.hid hm
  clear hm
  go_enter Try.func44, Try.ntmps44
  go_upto_region 1 with (fail)
  go_cut [1] (fun v1 wx => v1 = .int .i64 n ∧ wx = w)
  case first =>
    go_wp2_with fail
    all_goals go_meet
    all_goals exact ⟨by first | rfl | (simp; done) | (simp; omega) | (split <;> simp <;> omega), rfl⟩
  case rest =>
  obtain ⟨rfl, hwc⟩ := hcut
  have hwc' := hwc.symm
  clear hwc
  subst hwc'
  go_wp2_with fail
  go_loopw [5] (fun vi wr => ∃ (i : Nat), i ≤ m ∧ vi = .int .i64 i ∧ Hid ((L.take i).any (hasP n) = false) ∧ wr = w)
    (fun vi _ => m - (intOf vi).toNat)
  case atStart => exact ⟨0, by omega, rfl, Lib.hid rfl, rfl⟩
  case round =>
    obtain ⟨i, him, rfl, Hno, hwr⟩ := hrel
    subst hwr
    by_cases hlt : i < m
    · have t0 : (i : Int) < (m : Int) := by omega
      obtain ⟨b, off, c', hv, hb, hc⟩ := Src.wide H.out.src (by rw [Hm.out]; omega) (by omega)
      cases hv
      obtain ⟨r, hri⟩ : ∃ r, L[i]? = some r := ⟨_, List.getElem?_eq_getElem (by rw [Hm.out]; exact hlt)⟩
      have e0 := hc (i * 2) _ (pp0 hri)
      have e1 := hc (i * 2 + 1) _ (pp1 hri)
      rw [← Nat.add_assoc] at e1
      have Hri := Lib.hid hri
      clear hc hri
      obtain ⟨r1, r2⟩ := r
      dsimp only at e0 e1
      have Hp : Hid (hasP n (r1, r2) = (decide (r1 ≤ n) && decide (n < r2))) := Lib.hid rfl
      by_cases t1 : r1 ≤ n
      · by_cases t2 : n < r2
        · rw [decide_eq_true t1, decide_eq_true t2] at Hp
          go_wp2_with fail
          go_ret
          exact ⟨by rw [firstL, find_here _ Hri.out Hno.out Hp.out]; rfl, rfl⟩
        · rw [decide_eq_true t1, decide_eq_false t2] at Hp
          go_wp2_with fail
          go_roundw
          case rel => exact ⟨i + 1, by omega, by go_num, Lib.hid (by rw [any_snoc _ _ _ _ Hri.out, Hno.out, Hp.out]; rfl), by first | rfl | trivial⟩
          case measure => simp [intOf]; omega
      · rw [decide_eq_false t1] at Hp
        go_wp2_with fail
        go_roundw
        case rel => exact ⟨i + 1, by omega, by go_num, Lib.hid (by rw [any_snoc _ _ _ _ Hri.out, Hno.out, Hp.out]; rfl), by first | rfl | trivial⟩
        case measure => simp [intOf]; omega
    · obtain rfl : i = m := by omega
      rw [List.take_of_length_le (by rw [Hm.out]; omega)] at Hno
      go_wp2_with fail
      go_ret
      exact ⟨by rw [firstL, List.find?_eq_none.2 (fun x hx hp => by have := List.any_eq_true.2 ⟨x, hx, hp⟩; rw [Hno.out] at this; cases this)]; rfl, rfl⟩
set_option maxRecDepth 100000 in
set_option maxHeartbeats 1000000 in
theorem q_count {w : World} {s o : Nat} {tc : TypeId} {cs : Array Value} {v : Value} {L : List Pr} (h : SetIn w s o tc cs v L) (hN : NormL 225000000000000 L) (hlen : L.length ≤ 1073741824) :
    Calls Try.prog 30 #[.pointer (some ⟨s, o, none⟩)] w fun e w' => e = .returned (.int .i64 (countL L)) ∧ Kp (fun _ => False) w w' := by
  have HN := Lib.hid hN
  clear hN
  have H := Lib.hid h
  have hsl := h.cell.lt
  have c0 := h.c0
  obtain ⟨A, cap, rfl⟩ : ∃ A cap, v = .slice A L.length cap := by
    rcases h.src.2.2 with ⟨h1, h2⟩ | ⟨a, c, h1, _⟩
    · exact ⟨none, 0, by rw [h1, h2]⟩
    · exact ⟨_, _, h1⟩
  clear h
  generalize hm : L.length = m at *
  have Hm := Lib.hid hm
  clear hm
  go_enter Try.func30, Try.ntmps30
  go_wp2_with fail
  go_loopw [3, 4] (fun vs vi wr => ∃ (i : Nat) (c : Int), i ≤ m ∧ vi = .int .i64 i ∧ vs = .int .i64 c ∧ Hid (countL (L.take i) = c) ∧ 0 ≤ c ∧ c ≤ 225000000000000 ∧ Kp (fun _ => False) w wr)
    (fun _ vi _ => m - (intOf vi).toNat)
  case atStart => exact ⟨0, 0, by omega, rfl, rfl, Lib.hid rfl, by omega, by omega, Kp.refl _ _⟩
  case round =>
    obtain ⟨i, c, him, rfl, rfl, Hc, hc0, hc1, hk⟩ := hrel
    have Hk := Lib.hid hk
    clear hk
    have cw := (Hk.out.cell (p := ⟨s, o, none⟩) hsl (fun h => h)).trans c0
    have hslw := Nat.lt_of_lt_of_le hsl Hk.out.size
    by_cases hlt : i < m
    · have t0 : (i : Int) < (m : Int) := by omega
      obtain ⟨b, off, c', hv, hb, hc⟩ := Src.wide H.out.src (by rw [Hm.out]; omega) (by omega)
      cases hv
      obtain ⟨r, hri⟩ : ∃ r, L[i]? = some r := ⟨_, List.getElem?_eq_getElem (by rw [Hm.out]; exact hlt)⟩
      have e0 := hc (i * 2) _ (pp0 hri)
      have e1 := hc (i * 2 + 1) _ (pp1 hri)
      rw [← Nat.add_assoc] at e1
      have Hri := Lib.hid hri
      rw [← Hk.out.cell (p := ⟨b, _, none⟩) hb (fun h => h)] at e0 e1
      have hbw := Nat.lt_of_lt_of_le hb Hk.out.size
      have hr := HN.out.run r (List.mem_of_getElem? hri)
      have hnx : countL (L.take (i + 1)) = c + (r.2 - r.1) := by rw [takeP hri, count_app, Hc.out]; simp [countL]
      have hbd := count_bound (L.take (i + 1)) 0 (HN.out.take10 (i + 1)) (fun x hx => ((HN.out.take10 (i + 1)).run x hx).1) (by omega)
      rw [hnx] at hbd
      obtain ⟨hbd1, hbd2⟩ := hbd
      obtain ⟨hr0, hr1, hr2⟩ := hr
      have Hnx := Lib.hid hnx
      clear hc hri hnx Hri
      obtain ⟨r1, r2⟩ := r
      dsimp only at e0 e1 hr0 hr1 hr2 hbd1 hbd2 Hnx
      have hw1 : IntKind.i64.wrap (c + r2) = c + r2 := IntWalk.i64_in _ (by omega)
      have hw2 : IntKind.i64.wrap (c + r2 - r1) = c + r2 - r1 := IntWalk.i64_in _ (by omega)
      go_wp2_with fail
      go_quiet (fail)
      go_wp2_with fail
      go_roundw
      case rel => exact ⟨i + 1, c + r2 - r1, by omega, by go_num, by first | rfl | (simp; done) | (simp; omega), Lib.hid (by rw [Hnx.out]; omega), by omega, by omega, Hk.out.drewN _⟩
      case measure => simp [intOf]; omega
    · obtain rfl : i = m := by omega
      rw [List.take_of_length_le (by rw [Hm.out]; omega)] at Hc
      go_wp2_with fail
      go_ret
      exact ⟨by simp [Hc.out], Hk.out⟩
end Go.Proofs.Ytbkpapdbidbhaaa
