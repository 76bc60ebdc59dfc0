/-
  argosyref1.Set: Drop, Gaps, All.
-/
import Derived.Test.YtbkpapdbidbhaaaRfSet
import Derived.Test.YtbkpapdbidbhaaaDropLen
import Derived.Test.YtbkpapdbidbhaaaAddLen
namespace Go.Proofs.Ytbkpapdbidbhaaa
open Go.RowKit

set_option maxRecDepth 100000 in
set_option maxHeartbeats 2000000 in
theorem q_drop {w : World} {s o : Nat} {tc : TypeId} {cs : Array Value} {v : Value} {L : List Pr} (h : SetIn w s o tc cs v L) (hlen : L.length ≤ 1073741824) (f t : Int) :
    Calls Try.prog 59 #[.pointer (some ⟨s, o, none⟩), .int .i64 f, .int .i64 t] w fun e w' => e = .returned (.tuple #[]) ∧ ∃ v', SetIn w' s o tc (cs.setIfInBounds o v') v' (dropS L f t) ∧ Kp (fun k => k = s) w w' ∧ (v' = v ∨ ∀ k, v'.ownBlock = some k → w.heap.size ≤ k) := by
  obtain ⟨i0, hii, hz0, hz1, hz2⟩ := info_parts infoPr
  have Hi := Lib.hid hii
  have Hz0 := Lib.hid hz0
  have Hz1 := Lib.hid hz1
  have Hz2 := Lib.hid hz2
  have H := Lib.hid h
  have hsl := h.cell.lt
  have c0 := h.c0
  have f0 := h.cell.frozen o
  obtain ⟨A, cap, rfl⟩ : ∃ A cap, v = .slice A L.length cap := by
    rcases h.src.2.2 with ⟨h1, h2⟩ | ⟨a, c, h1, _⟩
    · exact ⟨none, 0, by rw [h1, h2]⟩
    · exact ⟨_, _, h1⟩
  have Hdrop : Hid (dropS L f t = if bringS f < bringS t then dropL L (bringS f) (bringS t) else L) := Lib.hid rfl
  have B1 : Hid (∀ w', Calls Try.prog 45 #[.int .i64 f, .int .i64 0, .int .i64 4611686018427387904] w' fun e w2 => e = .returned (.int .i64 (bringS f)) ∧ w' = w2) := Lib.hid (within_bring f)
  have B2 : Hid (∀ w', Calls Try.prog 45 #[.int .i64 t, .int .i64 0, .int .i64 4611686018427387904] w' fun e w2 => e = .returned (.int .i64 (bringS t)) ∧ w' = w2) := Lib.hid (within_bring t)
  clear h hii hz0 hz1 hz2
  generalize bringS f = bf at *
  generalize bringS t = bt at *
  generalize hm : L.length = m at *
  have Hm := Lib.hid hm
  clear hm
  go_enter Try.func59, Try.ntmps59
  go_wp2_with fail
  with_reducible refine (B1.out _).mono ?_
  rintro e w1 ⟨rfl, rfl⟩
  go_wp2_with fail
  with_reducible refine (B2.out _).mono ?_
  rintro e w1 ⟨rfl, rfl⟩
  by_cases hft : bf < bt
  · rw [if_pos hft] at Hdrop
    go_wp2_with fail
    go_loopw [6, 7] (fun vo vi wr => ∃ (i n : Nat), i ≤ m ∧ n ≤ 2 * i ∧ vi = .int .i64 i ∧ Hid ((dropL (L.take i) bf bt).length = n) ∧ RowAt wr w.heap.size 2 vo n (encs encP (dropL (L.take i) bf bt)) ∧ Kp (fun _ => False) w wr)
      (fun _ vi _ => m - (intOf vi).toNat)
    case atStart => exact ⟨0, 0, by omega, by omega, rfl, Lib.hid rfl, RowAt.nil _ _ _, Kp.refl _ _⟩
    case round =>
      obtain ⟨i, n, him, hn, rfl, Hol, hr, hk⟩ := hrel
      obtain ⟨Ao, co, rfl⟩ := hr.form
      have Hr := Lib.hid hr
      have Hk := Lib.hid hk
      clear hr hk
      have cw := (Hk.out.cell (p := ⟨s, o, none⟩) hsl (fun h => h)).trans c0
      have hslw := Nat.lt_of_lt_of_le hsl Hk.out.size
      by_cases hlt : i < m
      · obtain ⟨b, off, c', hv, hb, hc⟩ := Src.wide H.out.src (by rw [Hm.out]; omega) (by omega)
        cases hv
        obtain ⟨r, hri⟩ : ∃ r, L[i]? = some r := ⟨_, List.getElem?_eq_getElem (by rw [Hm.out]; exact hlt)⟩
        have e0 := hc (i * 2) _ (pp0 hri)
        have e1 := hc (i * 2 + 1) _ (pp1 hri)
        rw [← Hk.out.cell (p := ⟨b, _, none⟩) hb (fun h => h)] at e0 e1
        rw [← Nat.add_assoc] at e1
        have hbw := Nat.lt_of_lt_of_le hb Hk.out.size
        have Hnext : Hid (dropL (L.take (i + 1)) bf bt = dropL (L.take i) bf bt ++ dropR bf bt r) := Lib.hid (drop_snoc bf bt hri)
        clear hc hri
        obtain ⟨r1, r2⟩ := r
        dsimp only at e0 e1
        generalize dropL (L.take i) bf bt = out at *
        have hka : Kp (fun _ => False) wr (wr.alloc (.cells #[.int .i64 r1, .int .i64 r2] 63)) := (Kp.refl _ wr).alloc _
        have hxw : Whole (wr.alloc (.cells #[.int .i64 r1, .int .i64 r2] 63)) wr.heap.size 63 #[.int .i64 r1, .int .i64 r2] := Whole.new _ _ _
        have hr3 := Hr.out.kp hka (fun _ _ h => h)
        have hrb : ∀ k, (Value.slice Ao n co).ownBlock = some k → k ≠ wr.heap.size := fun k hk e => by have := (Hr.out.lt k hk).2; omega
        go_upto_region 8 with (fail)
        generalize wr.alloc (.cells #[.int .i64 r1, .int .i64 r2] 63) = w3 at hka hxw hr3 ⊢
        have x0 := hxw.cell 0
        have x1 := hxw.cell 1
        have hxl := hxw.lt
        simp at x0 x1
        have Hx := Lib.hid hxw
        have Hr3 := Lib.hid hr3
        have Hk3 := Lib.hid (Hk.out.trans hka)
        clear hka hxw hr3 e0 e1 Hr Hk cw hslw
        generalize wr.heap.size = bx at *
        obtain ⟨lf, hlf⟩ : ∃ lf, lf = min r2 bf := ⟨_, rfl⟩
        obtain ⟨rg, hrg⟩ : ∃ rg, rg = max r1 bt := ⟨_, rfl⟩
        have Hdr : Hid (dropR bf bt (r1, r2) = (if r1 < lf then [(r1, lf)] else []) ++ (if rg < r2 then [(rg, r2)] else [])) := Lib.hid (by rw [hlf, hrg]; rfl)
        have Hlf := Lib.hid hlf
        have Hrg := Lib.hid hrg
        clear hlf hrg
        have hmin1 : (if bf < r2 then bf else r2) = lf := by have := Hlf.out; split <;> omega
        have hmax1 : (if r1 < bt then bt else r1) = rg := by have := Hrg.out; split <;> omega
        go_upto_if 38 with (fail)
        go_cut [6] (fun vo wx => ∃ (n1 : Nat) (o1 : List Pr), n1 ≤ 2 * i + 1 ∧ Hid (dropL (L.take (i + 1)) bf bt = o1 ++ (if rg < r2 then [(rg, r2)] else [])) ∧ Hid (o1.length = n1) ∧ RowAt wx w.heap.size 2 vo n1 (encs encP o1) ∧ Whole wx bx 63 #[.int .i64 r1, .int .i64 r2] ∧ Kp (fun _ => False) w wx)
        case first =>
          by_cases p2 : r1 < lf
          · have HO : Hid (RowAt (w3.alloc (.cells #[.int .i64 r1, .int .i64 lf] 63)) w.heap.size 2 (.slice Ao n co) n (encs encP out)) := Lib.hid (RowAt.kp Hr3.out ((Kp.refl (fun _ => False) w3).alloc _) (fun _ _ h => h))
            have HS : Hid (Src (w3.alloc (.cells #[.int .i64 r1, .int .i64 lf] 63)) 2 (.slice (some ⟨w3.heap.size, 0, none⟩) 1 1) 1 (encP (r1, lf))) := Lib.hid (src_pr (r1, lf) (Whole.new _ _ _))
            go_wp2_with (at_builtin; refine wpList_row rfl (.tmp 39) (.tmp 47) 39 rfl w.heap.size 63 i0 _ 2 16 Try.underlying39 Hi.out Hz0.out Hz1.out Hz2.out rfl (by decide) _ n _ rfl HO.out _ 1 _ rfl HS.out (by unfold maxLen; omega) (by omega) (by have := Hk3.out.size; simp only [World.size_alloc]; omega) ?_; intro v4 w4 hr5 hg5 hn5; have hk5 : Kp (fun _ => False) w w4 := (Hk3.out.alloc _).grown hg5 (fun i hi hlt => absurd (Hr3.out.lt i hi).1 (by omega)); rw [← encP_app] at hr5; have hx5 := (Kp.of_grown (S := fun k => (Value.slice Ao n co).ownBlock = some k) hg5 (fun i hi _ => hi)).whole (Hx.out.alloc _) (fun e => hrb _ e rfl); have Hr4 := Lib.hid hr5; have Hk4 := Lib.hid hk5; have Hx4 := Lib.hid hx5; clear hr5 hg5 hn5 hk5 hx5)
            go_meet
            case rel => exact ⟨n + 1, out ++ [(r1, lf)], by omega, Lib.hid (by rw [Hnext.out, Hdr.out, if_pos p2, List.append_assoc]), Lib.hid (by rw [List.length_append, Hol.out]; rfl), Hr4.out, Hx4.out, Hk4.out⟩
          · go_wp2_with fail
            go_meet
            case rel => exact ⟨n, out, by omega, Lib.hid (by rw [Hnext.out, Hdr.out, if_neg (show ¬ r1 < lf by omega), List.nil_append]), Hol, Hr3.out, Hx.out, Hk3.out⟩
        case rest =>
        obtain ⟨n1, o1, hn1, Hnx, Hol1, hr1, hx1, hk1⟩ := hcut
        generalize wc = w4 at *
        obtain ⟨A4, c4, rfl⟩ := hr1.form
        have y0 := hx1.cell 0
        have y1 := hx1.cell 1
        have yl := hx1.lt
        simp at y0 y1
        have Hr4 := Lib.hid hr1
        have Hk4 := Lib.hid hk1
        clear hr1 hk1 hx1
        by_cases p4 : rg < r2
        · have HO : Hid (RowAt (w4.alloc (.cells #[.int .i64 rg, .int .i64 r2] 63)) w.heap.size 2 (.slice A4 n1 c4) n1 (encs encP o1)) := Lib.hid (RowAt.kp Hr4.out ((Kp.refl (fun _ => False) w4).alloc _) (fun _ _ h => h))
          have HS : Hid (Src (w4.alloc (.cells #[.int .i64 rg, .int .i64 r2] 63)) 2 (.slice (some ⟨w4.heap.size, 0, none⟩) 1 1) 1 (encP (rg, r2))) := Lib.hid (src_pr (rg, r2) (Whole.new _ _ _))
          go_wp2_with (at_builtin; refine wpList_row rfl (.tmp 56) (.tmp 64) 39 rfl w.heap.size 63 i0 _ 2 16 Try.underlying39 Hi.out Hz0.out Hz1.out Hz2.out rfl (by decide) _ n1 _ rfl HO.out _ 1 _ rfl HS.out (by unfold maxLen; omega) (by omega) (by have := Hk4.out.size; simp only [World.size_alloc]; omega) ?_; intro v5 w5 hr5 hg5 hn5; have hk5 : Kp (fun _ => False) w w5 := (Hk4.out.alloc _).grown hg5 (fun i hi hlt => absurd (Hr4.out.lt i hi).1 (by omega)); rw [← encP_app] at hr5; have Hr5 := Lib.hid hr5; have Hk5 := Lib.hid hk5; clear hr5 hg5 hn5 hk5)
          go_roundw
          case rel => exact ⟨i + 1, n1 + 1, by omega, by omega, by go_num, Lib.hid (by rw [Hnx.out, if_pos p4, List.length_append, Hol1.out]; rfl), by rw [Hnx.out, if_pos p4]; exact Hr5.out, Hk5.out⟩
          case measure => simp [intOf]; omega
        · rw [if_neg p4, List.append_nil] at Hnx
          go_wp2_with fail
          go_roundw
          case rel => exact ⟨i + 1, n1, by omega, by omega, by go_num, Lib.hid (by rw [Hnx.out, Hol1.out]), by rw [Hnx.out]; exact Hr4.out, Hk4.out⟩
          case measure => simp [intOf]; omega
      · obtain rfl : i = m := by omega
        have hta : L.take i = L := List.take_of_length_le (by rw [Hm.out]; omega)
        rw [hta] at Hol Hr
        have f1 : wr.frozen? ⟨s, o, none⟩ = false := (Hk.out.frozen (p := ⟨s, o, none⟩) hsl (fun h => h)).trans f0
        have Hend := Lib.hid (set_end H.out Hk.out (by rw [Hol.out]; exact Hr.out))
        go_wp2_with fail
        refine ⟨rfl, .tuple #[], results_none rfl _ _ _, rfl, ?_⟩
        rw [Hdrop.out]
        exact ⟨_, Hend.out.1, Hend.out.2, .inr (fun k hk => (Hr.out.lt k hk).1)⟩
  · rw [if_neg hft] at Hdrop
    go_wp2_with fail
    refine ⟨rfl, .tuple #[], results_none rfl _ _ _, rfl, ?_⟩
    rw [Hdrop.out]
    exact ⟨_, H.out.same, Kp.refl _ _, .inl rfl⟩
/-- What is left of a run, each of some runs dropped. -/
def gapR (L M : List Pr) : List Pr := L.foldl (fun t r => dropS t r.1 r.2) M
theorem gapR_snoc {L : List Pr} {i : Nat} {r : Pr} (M : List Pr) (h : L[i]? = some r) : gapR (L.take (i + 1)) M = dropS (gapR (L.take i) M) r.1 r.2 := by
  rw [takeP h, gapR, List.foldl_append]; rfl
theorem gapR_in {E : Int} (hE : E ≤ EndS) : ∀ (L M : List Pr), NormL E M → (∀ r ∈ L, 0 ≤ r.1 ∧ r.1 < r.2 ∧ r.2 ≤ E) → NormL E (gapR L M) ∧ ∀ n, InL (gapR L M) n ↔ InL M n ∧ ¬ InL L n
  | [], M, hM, _ => ⟨hM, fun n => ⟨fun h => ⟨h, inl_nil n⟩, fun h => h.1⟩⟩
  | r :: L, M, hM, hL => by
    have h0 := hL r (by simp)
    obtain ⟨d1, d2⟩ := dropS_in hM hE (f := r.1) (t := r.2) h0.1 h0.2.2 (by omega) (by omega)
    obtain ⟨g1, g2⟩ := gapR_in hE L (dropS M r.1 r.2) d1 (fun x hx => hL x (by simp [hx]))
    refine ⟨g1, fun n => ?_⟩
    show InL (gapR L (dropS M r.1 r.2)) n ↔ _
    rw [g2, d2, inl_cons]
    constructor
    · rintro ⟨⟨a, b⟩, c⟩; exact ⟨a, fun h => h.elim b c⟩
    · rintro ⟨a, b⟩; exact ⟨⟨a, fun h => b (.inl h)⟩, fun h => b (.inr h)⟩
theorem norm_empty {E : Int} {L : List Pr} (h : NormL E L) : L.isEmpty = true ↔ ∀ n, ¬ InL L n := by
  rw [List.isEmpty_iff]
  constructor
  · rintro rfl n; exact inl_nil n
  · intro hn
    exact norm_ext L [] h (NormL.nil E) (fun n => ⟨fun h => absurd h (hn n), fun h => absurd h (inl_nil n)⟩)
theorem gapR_all {E : Int} {L : List Pr} (hN : NormL E L) (hE : E ≤ EndS) (t : Int) (h0 : 0 ≤ t) (ht : t ≤ E) : (gapR L (addS [] 0 t)).isEmpty = (gapL L (bringS 0) (bringS t)).isEmpty := by
  obtain ⟨a1, a2⟩ := addS_in (NormL.nil E) hE (f := 0) (t := t) (by omega) ht (by omega) h0
  obtain ⟨g1, g2⟩ := gapR_in hE L _ a1 hN.run
  obtain ⟨p1, p2⟩ := gap_in hN 0 t
  rw [bringS_id (n := 0) (by omega) (by unfold EndS; omega), bringS_id h0 (by omega)]
  rw [Bool.eq_iff_iff, norm_empty g1]
  constructor
  · intro h
    rw [List.isEmpty_iff]
    apply List.eq_nil_iff_forall_not_mem.2
    intro x hx
    have h1 := p1 x hx
    have h2 := (p2 x.1).1 ⟨x, hx, by omega, by omega⟩
    exact h x.1 ((g2 _).2 ⟨(a2 _).2 (.inr ⟨h2.1, h2.2.1⟩), h2.2.2⟩)
  · intro h n hn
    rw [List.isEmpty_iff] at h
    obtain ⟨q1, q2⟩ := (g2 n).1 hn
    have q3 := ((a2 n).1 q1).resolve_left (inl_nil n)
    have := (p2 n).2 ⟨q3.1, q3.2, q2⟩
    rw [h] at this
    exact inl_nil n this

theorem gapR_len {E : Int} (hE : E ≤ EndS) : ∀ (L M : List Pr), NormL E M → (∀ r ∈ L, 0 ≤ r.1 ∧ r.1 < r.2 ∧ r.2 ≤ E) → (gapR L M).length ≤ M.length + L.length
  | [], M, _, _ => by simp [gapR]
  | r :: L, M, hM, hL => by
    have h0 := hL r (by simp)
    obtain ⟨d1, d2⟩ := dropS_in hM hE (f := r.1) (t := r.2) h0.1 h0.2.2 (by omega) (by omega)
    have h1 := gapR_len hE L (dropS M r.1 r.2) d1 (fun x hx => hL x (by simp [hx]))
    have h2 := dropS_len hM r.1 r.2
    show (gapR L (dropS M r.1 r.2)).length ≤ _
    simp only [List.length_cons]
    omega
set_option maxRecDepth 100000 in
set_option maxHeartbeats 2000000 in
theorem q_gaps {w : World} {s o : Nat} {tc : TypeId} {cs : Array Value} {v : Value} {L : List Pr} (h : SetIn w s o tc cs v L) (hN : NormL 225000000000000 L) (hlen : L.length ≤ 1073741824) (t : Nat) (ht : t ≤ 225000000000000) :
    Calls Try.prog 57 #[.pointer (some ⟨s, o, none⟩), .int .i64 0, .int .i64 (t : Int)] w fun e w' => ∃ A c, e = .returned (.slice A (gapR L (addS [] 0 t)).length c) ∧ Kp (fun _ => False) w w' := by
  have HN := Lib.hid hN
  have H := Lib.hid h
  have hsl := h.cell.lt
  have c0 := h.c0
  obtain ⟨A, cap, rfl⟩ : ∃ A cap, v = .slice A L.length cap := by
    rcases h.src.2.2 with ⟨h1, h2⟩ | ⟨a, c, h1, _⟩
    · exact ⟨none, 0, by rw [h1, h2]⟩
    · exact ⟨_, _, h1⟩
  have hb0 : bringS 0 = 0 := bringS_id (by omega) (by unfold EndS; omega)
  have hbt : bringS (t : Int) = (t : Int) := bringS_id (by omega) (by unfold EndS; omega)
  have B1 := Lib.hid (fun w' => within_bring 0 w')
  have B2 := Lib.hid (fun w' => within_bring (t : Int) w')
  rw [hb0] at B1
  rw [hbt] at B2
  clear h hN hb0 hbt
  generalize hm : L.length = m at *
  have Hm := Lib.hid hm
  clear hm
  have hka : Kp (fun _ => False) w (w.alloc (.cells #[.slice none 0 0] 55)) := (Kp.refl _ w).alloc _
  have hS1 : SetIn (w.alloc (.cells #[.slice none 0 0] 55)) w.heap.size 0 55 #[.slice none 0 0] (.slice none 0 0) [] := ⟨Whole.new _ _ _, rfl, ⟨by simp [encs], encP_one _, .inl ⟨rfl, rfl⟩⟩⟩
  have HA := Lib.hid (q_add hS1 (by simp) 0 (t : Int))
  have Hka := Lib.hid hka
  clear hka hS1
  go_enter Try.func57, Try.ntmps57
  go_wp2_with fail
  with_reducible refine (B1.out _).mono ?_
  rintro e w1 ⟨rfl, rfl⟩
  go_wp2_with fail
  with_reducible refine (B2.out _).mono ?_
  rintro e w1 ⟨rfl, rfl⟩
  go_wp2_with fail
  with_reducible refine (HA.out).mono ?_
  rintro e w2 ⟨rfl, v2, hs2, hk2, hv2⟩
  have HS2 : Hid (SetIn w2 w.heap.size 0 55 #[v2] v2 (gapR (L.take 0) (addS [] 0 (t : Int)))) := Lib.hid ⟨hs2.cell, rfl, hs2.src⟩
  have Hk2 : Hid (Kp (fun _ => False) w w2) := Lib.hid ((Hka.out.no.trans hk2).mono (S' := fun _ => False) (fun k hk e => by omega))
  clear hs2 hk2 HA Hka hv2
  go_wp2_with fail
  go_loopw [8] (fun vi wr => ∃ (i : Nat) (v3 : Value), i ≤ m ∧ vi = .int .i64 i ∧ Hid (SetIn wr w.heap.size 0 55 #[v3] v3 (gapR (L.take i) (addS [] 0 (t : Int)))) ∧ Hid (Kp (fun _ => False) w wr))
    (fun vi _ => m - (intOf vi).toNat)
  case atStart => exact ⟨0, v2, by omega, rfl, HS2, Hk2⟩
  case round =>
  obtain ⟨i, v3, him, rfl, HS, Hk⟩ := hrel
  have cw := (Hk.out.cell (p := ⟨s, o, none⟩) hsl (fun h => h)).trans c0
  have hslw := Nat.lt_of_lt_of_le hsl Hk.out.size
  have hNi := (gapR_in (E := 225000000000000) (by unfold EndS; omega) (L.take i) (addS [] 0 (t : Int)) (addS_in (NormL.nil _) (by unfold EndS; omega) (f := 0) (t := (t : Int)) (by omega) (by omega) (by omega) (by omega)).1 (HN.out.take10 i).run).1
  have hfew := gapR_len (E := 225000000000000) (by unfold EndS; omega) (L.take i) (addS [] 0 (t : Int)) (addS_in (NormL.nil _) (by unfold EndS; omega) (f := 0) (t := (t : Int)) (by omega) (by omega) (by omega) (by omega)).1 (HN.out.take10 i).run
  have hfew2 := addS_len [] 0 (t : Int)
  simp only [List.length_take, List.length_nil] at hfew hfew2
  by_cases hlt : i < m
  · have t0 : (i : Int) < (m : Int) := by omega
    obtain ⟨b, off, c', hv, hb, hc⟩ := Src.wide H.out.src (by rw [Hm.out]; omega) (by omega)
    cases hv
    obtain ⟨r, hri⟩ : ∃ r, L[i]? = some r := ⟨_, List.getElem?_eq_getElem (by rw [Hm.out]; exact hlt)⟩
    have e0 := hc (i * 2) _ (pp0 hri)
    have e1 := hc (i * 2 + 1) _ (pp1 hri)
    rw [← Hk.out.cell (p := ⟨b, _, none⟩) hb (fun h => h)] at e0 e1
    rw [← Nat.add_assoc] at e1
    have hbw := Nat.lt_of_lt_of_le hb Hk.out.size
    have Hnx := Lib.hid (gapR_snoc (addS [] 0 (t : Int)) hri)
    clear hc hri
    obtain ⟨r1, r2⟩ := r
    dsimp only at e0 e1 Hnx
    have hstb : ¬ s = w.heap.size := by omega
    have hbtb : ¬ b = w.heap.size := by omega
    have HD := Lib.hid (q_drop (SetIn.kp HS.out (Kp.drew (Kp.refl (fun _ => False) wr)) (fun h => h) (fun _ _ h => h)) (by omega) r1 r2)
    go_upto_region 8 with (fail)
    refine wp_region_held_drew (S := (fun w' => Kp (fun k => k = w.heap.size) wr w')) (by kernel_rfl) (Kp.drew (Kp.refl _ wr)) (fun hHeld => ?_)
    refine wpAnyH_take (i := 0) (oi := { dst := some 28, op := Op.move (.tmp 7), type := _, pos := _, after := _, guard := _ }) (v := ?_) rfl (by kernel_rfl) (by kernel_rfl) (by kernel_rfl) (fun _ _ _ h => h) (Or.inl ⟨by rfl, ?_⟩) hHeld ?_
    rotate_left
    · intro w99 hSw
      first | (go_simp; done) | (go_simp; with_reducible rfl)
    try simp only [Act.put, List.setIfInBounds_toArray, List.set_cons_zero, List.set_cons_succ]
    refine wpAnyH_take (i := 1) (oi := { dst := some 29, op := Op.move (.tmp 0), type := _, pos := _, after := _, guard := _ }) (v := ?_) rfl (by kernel_rfl) (by kernel_rfl) (by kernel_rfl) (fun _ _ _ h => h) (Or.inl ⟨by rfl, ?_⟩) hHeld ?_
    rotate_left
    · intro w99 hSw
      first | (go_simp; done) | (go_simp; with_reducible rfl)
    try simp only [Act.put, List.setIfInBounds_toArray, List.set_cons_zero, List.set_cons_succ]
    refine wpAnyH_take (i := 2) (oi := { dst := some 30, op := Op.nilCheck (.tmp 29), type := _, pos := _, after := _, guard := _ }) (v := ?_) rfl (by kernel_rfl) (by kernel_rfl) (by kernel_rfl) (fun _ _ _ h => h) (Or.inl ⟨by rfl, ?_⟩) hHeld ?_
    rotate_left
    · intro w99 hSw
      first | (go_simp; done) | (go_simp; with_reducible rfl)
    try simp only [Act.put, List.setIfInBounds_toArray, List.set_cons_zero, List.set_cons_succ]
    refine wpAnyH_take (i := 3) (oi := { dst := some 31, op := Op.fieldAddr 55 (.tmp 30) 0, type := _, pos := _, after := _, guard := _ }) (v := ?_) rfl (by kernel_rfl) (by kernel_rfl) (by kernel_rfl) (fun _ _ _ h => h) (Or.inl ⟨by rfl, ?_⟩) hHeld ?_
    rotate_left
    · intro w99 hSw
      first | (go_simp; done) | (go_simp; with_reducible rfl)
    try simp only [Act.put, List.setIfInBounds_toArray, List.set_cons_zero, List.set_cons_succ]
    refine wpAnyH_take (i := 4) (oi := { dst := some 32, op := Op.load 39 (.tmp 31), type := _, pos := _, after := _, guard := _ }) (v := ?_) rfl (by kernel_rfl) (by kernel_rfl) (by kernel_rfl) (fun _ _ _ h => h) (Or.inl ⟨by rfl, ?_⟩) hHeld ?_
    rotate_left
    · intro w99 hSw
      have cw9 := (hSw.cell (p := ⟨s, o, none⟩) hslw hstb).trans cw; first | (go_simp; done) | (go_simp; with_reducible rfl)
    try simp only [Act.put, List.setIfInBounds_toArray, List.set_cons_zero, List.set_cons_succ]
    refine wpAnyH_take (i := 5) (oi := { dst := some 33, op := Op.move (.tmp 8), type := _, pos := _, after := _, guard := _ }) (v := ?_) rfl (by kernel_rfl) (by kernel_rfl) (by kernel_rfl) (fun _ _ _ h => h) (Or.inl ⟨by rfl, ?_⟩) hHeld ?_
    rotate_left
    · intro w99 hSw
      first | (go_simp; done) | (go_simp; with_reducible rfl)
    try simp only [Act.put, List.setIfInBounds_toArray, List.set_cons_zero, List.set_cons_succ]
    refine wpAnyH_take (i := 6) (oi := { dst := some 34, op := Op.indexAddr 39 (.tmp 32) (.tmp 33), type := _, pos := _, after := _, guard := _ }) (v := ?_) rfl (by kernel_rfl) (by kernel_rfl) (by kernel_rfl) (fun _ _ _ h => h) (Or.inl ⟨by rfl, ?_⟩) hHeld ?_
    rotate_left
    · intro w99 hSw
      first | (go_simp; done) | (go_simp; with_reducible rfl)
    try simp only [Act.put, List.setIfInBounds_toArray, List.set_cons_zero, List.set_cons_succ]
    refine wpAnyH_take (i := 7) (oi := { dst := some 35, op := Op.indexAddr 63 (.tmp 34) (.const (.int .i64 0)), type := _, pos := _, after := _, guard := _ }) (v := ?_) rfl (by kernel_rfl) (by kernel_rfl) (by kernel_rfl) (fun _ _ _ h => h) (Or.inl ⟨by rfl, ?_⟩) hHeld ?_
    rotate_left
    · intro w99 hSw
      first | (go_simp; done) | (go_simp; with_reducible rfl)
    try simp only [Act.put, List.setIfInBounds_toArray, List.set_cons_zero, List.set_cons_succ]
    refine wpAnyH_take (i := 8) (oi := { dst := some 36, op := Op.load 3 (.tmp 35), type := _, pos := _, after := _, guard := _ }) (v := ?_) rfl (by kernel_rfl) (by kernel_rfl) (by kernel_rfl) (fun _ _ _ h => h) (Or.inl ⟨by rfl, ?_⟩) hHeld ?_
    rotate_left
    · intro w99 hSw
      have e09 := (hSw.cell (p := ⟨b, off + i * 2, none⟩) hbw hbtb).trans e0; first | (go_simp; done) | (go_simp; with_reducible rfl)
    try simp only [Act.put, List.setIfInBounds_toArray, List.set_cons_zero, List.set_cons_succ]
    refine wpAnyH_take (i := 9) (oi := { dst := some 37, op := Op.move (.tmp 0), type := _, pos := _, after := _, guard := _ }) (v := ?_) rfl (by kernel_rfl) (by kernel_rfl) (by kernel_rfl) (fun _ _ _ h => h) (Or.inl ⟨by rfl, ?_⟩) hHeld ?_
    rotate_left
    · intro w99 hSw
      first | (go_simp; done) | (go_simp; with_reducible rfl)
    try simp only [Act.put, List.setIfInBounds_toArray, List.set_cons_zero, List.set_cons_succ]
    refine wpAnyH_take (i := 10) (oi := { dst := some 38, op := Op.nilCheck (.tmp 37), type := _, pos := _, after := _, guard := _ }) (v := ?_) rfl (by kernel_rfl) (by kernel_rfl) (by kernel_rfl) (fun _ _ _ h => h) (Or.inl ⟨by rfl, ?_⟩) hHeld ?_
    rotate_left
    · intro w99 hSw
      first | (go_simp; done) | (go_simp; with_reducible rfl)
    try simp only [Act.put, List.setIfInBounds_toArray, List.set_cons_zero, List.set_cons_succ]
    refine wpAnyH_take (i := 11) (oi := { dst := some 39, op := Op.fieldAddr 55 (.tmp 38) 0, type := _, pos := _, after := _, guard := _ }) (v := ?_) rfl (by kernel_rfl) (by kernel_rfl) (by kernel_rfl) (fun _ _ _ h => h) (Or.inl ⟨by rfl, ?_⟩) hHeld ?_
    rotate_left
    · intro w99 hSw
      first | (go_simp; done) | (go_simp; with_reducible rfl)
    try simp only [Act.put, List.setIfInBounds_toArray, List.set_cons_zero, List.set_cons_succ]
    refine wpAnyH_take (i := 12) (oi := { dst := some 40, op := Op.load 39 (.tmp 39), type := _, pos := _, after := _, guard := _ }) (v := ?_) rfl (by kernel_rfl) (by kernel_rfl) (by kernel_rfl) (fun _ _ _ h => h) (Or.inl ⟨by rfl, ?_⟩) hHeld ?_
    rotate_left
    · intro w99 hSw
      have cw9 := (hSw.cell (p := ⟨s, o, none⟩) hslw hstb).trans cw; first | (go_simp; done) | (go_simp; with_reducible rfl)
    try simp only [Act.put, List.setIfInBounds_toArray, List.set_cons_zero, List.set_cons_succ]
    refine wpAnyH_take (i := 13) (oi := { dst := some 41, op := Op.move (.tmp 8), type := _, pos := _, after := _, guard := _ }) (v := ?_) rfl (by kernel_rfl) (by kernel_rfl) (by kernel_rfl) (fun _ _ _ h => h) (Or.inl ⟨by rfl, ?_⟩) hHeld ?_
    rotate_left
    · intro w99 hSw
      first | (go_simp; done) | (go_simp; with_reducible rfl)
    try simp only [Act.put, List.setIfInBounds_toArray, List.set_cons_zero, List.set_cons_succ]
    refine wpAnyH_take (i := 14) (oi := { dst := some 42, op := Op.indexAddr 39 (.tmp 40) (.tmp 41), type := _, pos := _, after := _, guard := _ }) (v := ?_) rfl (by kernel_rfl) (by kernel_rfl) (by kernel_rfl) (fun _ _ _ h => h) (Or.inl ⟨by rfl, ?_⟩) hHeld ?_
    rotate_left
    · intro w99 hSw
      first | (go_simp; done) | (go_simp; with_reducible rfl)
    try simp only [Act.put, List.setIfInBounds_toArray, List.set_cons_zero, List.set_cons_succ]
    refine wpAnyH_take (i := 15) (oi := { dst := some 43, op := Op.indexAddr 63 (.tmp 42) (.const (.int .i64 1)), type := _, pos := _, after := _, guard := _ }) (v := ?_) rfl (by kernel_rfl) (by kernel_rfl) (by kernel_rfl) (fun _ _ _ h => h) (Or.inl ⟨by rfl, ?_⟩) hHeld ?_
    rotate_left
    · intro w99 hSw
      first | (go_simp; done) | (go_simp; with_reducible rfl)
    try simp only [Act.put, List.setIfInBounds_toArray, List.set_cons_zero, List.set_cons_succ]
    refine wpAnyH_take (i := 16) (oi := { dst := some 44, op := Op.load 3 (.tmp 43), type := _, pos := _, after := _, guard := _ }) (v := ?_) rfl (by kernel_rfl) (by kernel_rfl) (by kernel_rfl) (fun _ _ _ h => h) (Or.inl ⟨by rfl, ?_⟩) hHeld ?_
    rotate_left
    · intro w99 hSw
      have e19 := (hSw.cell (p := ⟨b, off + i * 2 + 1, none⟩) hbw hbtb).trans e1; first | (go_simp; done) | (go_simp; with_reducible rfl)
    try simp only [Act.put, List.setIfInBounds_toArray, List.set_cons_zero, List.set_cons_succ]
    refine wpAnyH_ready (rs := [17]) (by kernel_rfl) (by simp) (AllReadyH.cons (o := { dst := some 45, op := Op.call { callee := Callee.value (Operand.func 59), args := #[(.tmp 28), (.tmp 36), (.tmp 44)], argTypes := #[74, 3, 3] }, type := _, pos := _, after := _, guard := _ }) rfl (fun K hK => ?_) AllReadyH.nil)
    go_simp
    with_reducible refine (HD.out).mono ?_
    rintro e w' ⟨rfl, v9, hs9, hk9, _⟩
    go_wp2_with fail
    have hx9 := Kp.trans hHeld hk9
    refine hK.out _ _ hx9 (fun _ => ?_)
    clear hK hHeld
    have hHeld := hx9
    clear hx9
    clear hk9
    generalize w' = wd17 at *
    try simp only [Act.put, List.setIfInBounds_toArray, List.set_cons_zero, List.set_cons_succ]
    refine wpAnyH_done (by kernel_rfl) ?_ _
    have HS9 : Hid (SetIn wd17 w.heap.size 0 55 #[v9] v9 (gapR (L.take (i + 1)) (addS [] 0 (t : Int)))) := Lib.hid (by rw [Hnx.out]; exact ⟨hs9.cell, rfl, hs9.src⟩)
    have Hk9 : Hid (Kp (fun _ => False) w wd17) := Lib.hid ((Hk.out.no.trans hHeld).mono (S' := fun _ => False) (fun k hk e => by omega))
    clear hs9 hHeld HD
    go_wp2_with fail
    go_roundw
    case rel => exact ⟨i + 1, v9, by omega, by go_num, HS9, Hk9⟩
    case measure => simp [intOf]; omega
  · obtain rfl : i = m := by omega
    rw [List.take_of_length_le (by rw [Hm.out]; omega)] at HS
    have t0 : ¬ (i : Int) < (i : Int) := by omega
    have d0 := HS.out.c0
    have dl := HS.out.cell.lt
    obtain ⟨A3, c3, hv3⟩ : ∃ A c, v3 = .slice A (gapR L (addS [] 0 (t : Int))).length c := by
      rcases HS.out.src.2.2 with ⟨h1, h2⟩ | ⟨a, c, h1, _⟩
      · exact ⟨none, 0, by rw [h1, h2]⟩
      · exact ⟨_, _, h1⟩
    have Hv3 := Lib.hid hv3
    clear hv3
    go_wp2_with fail
    go_ret
    exact ⟨⟨A3, c3, by rw [Hv3.out]; rfl⟩, Hk.out⟩
theorem q_all {w : World} {s o : Nat} {tc : TypeId} {cs : Array Value} {v : Value} {L : List Pr} (h : SetIn w s o tc cs v L) (hN : NormL 225000000000000 L) (hlen : L.length ≤ 1073741824) (t : Nat) (ht : t ≤ 225000000000000) :
    Calls Try.prog 49 #[.pointer (some ⟨s, o, none⟩), .int .i64 0, .int .i64 (t : Int)] w fun e w' => e = .returned (.bool (gapL L (bringS 0) (bringS (t : Int))).isEmpty) ∧ Kp (fun _ => False) w w' := by
  have he := gapR_all hN (by unfold EndS; omega) (t : Int) (by omega) (by omega)
  have HG := Lib.hid (q_gaps h hN hlen t ht)
  rw [← he]
  clear he
  generalize gapR L (addS [] 0 (t : Int)) = G at *
  have HGb : Hid (((G.length : Int) == 0) = G.isEmpty) := Lib.hid (by cases G <;> simp <;> omega)
  generalize G.length = gl at *
  generalize G.isEmpty = gb at *
  go_enter Try.func49, Try.ntmps49
  go_wp2_with fail
  refine (HG.out).mono ?_
  rintro e w2 ⟨A, c, rfl, hk⟩
  have hgb := HGb.out
  go_wp2_with fail
  go_ret
  exact ⟨by first | rfl | simp, hk⟩
end Go.Proofs.Ytbkpapdbidbhaaa
