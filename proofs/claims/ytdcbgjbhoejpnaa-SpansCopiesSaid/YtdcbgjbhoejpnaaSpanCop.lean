/-
  argosylaw3: SpansCopies.
-/
import Derived.Test.YtdcbgjbhoejpnaaSpanN
import Derived.Deep.RegionHeld3
import Derived.Deep.DeepCutAuto
namespace Go.Proofs.Ytdcbgjbhoejpnaa
open Go.RowKit

theorem infoIn : (Try.prog.info? 3).map (fun i => (i.zero, i.size, i.bytes)) = some (some (.int .i64 0), 1, 8) := by kernel_rfl
theorem rawInts_rd {W : World} {v : Value} (h : SlArg 22 W v) : RdSl W 8 [RdI] v := by
  have hB : Try.prog.bytesOf 3 = 8 := by kernel_rfl
  rw [← hB]
  exact h.rd Try.underlying22 fun H enc => fieldSl1 Try.underlying22 (by kernel_rfl) (fieldI Try.underlying3)
theorem of_norm : ∀ (xs : List Int) (L : List Pr), NormL ((90 : Nat) : Int) L → (∀ x ∈ xs, 0 ≤ x ∧ x < 90) → NormL ((90 : Nat) : Int) (xs.foldl ofStep L)
  | [], L, h, _ => h
  | x :: xs, L, h, hx => by
    have h1 := hx x (by simp)
    rw [List.foldl_cons]
    refine of_norm xs _ ?_ (fun y hy => hx y (by simp [hy]))
    unfold ofStep
    split
    · exact (addS_in h (by unfold EndS; omega) h1.1 (by omega) (by omega) (by omega)).1
    · exact h
/-- A row whose block is none of S, where S are blocks of pairs' like: it stands. -/
theorem src_ne {S : Nat → Prop} {w w' : World} {v : Value} {L : List Pr} (h : Src w 2 v L.length (encs encP L)) (hk : Kp S w w') (hS : ∀ k, v.ownBlock = some k → ¬ S k) : Src w' 2 v L.length (encs encP L) := hk.src h hS

set_option maxRecDepth 100000 in
set_option maxHeartbeats 4000000 in
theorem SpansCopies_any (W : World) (v0 : Value) (hv0 : SlArg 22 W v0) (v : Value) (hv : SlArg 23 W v) :
    Calls Try.prog 3 #[v0, v] W fun e w' => e = .returned (.bool true) ∧ Below W.heap.size W w' := by
  obtain ⟨A0, len0, cap0, rfl, hlc0, hcm0, hreach0, hcells0⟩ := rawInts_rd hv0
  obtain ⟨A, len, cap, rfl, hlc, hcm, hreach, hcells⟩ := rawS_rd hv
  unfold maxLen at hcm hcm0
  unfold reachBytes at hreach hreach0
  have Hc0 := Lib.hid hcells0
  have Hc := Lib.hid hcells
  clear hcells hv hcells0 hv0
  obtain ⟨i0, Hi0, Hz0⟩ : ∃ i0, Hid (Try.prog.info? 3 = some i0) ∧ Hid (i0.zero = some (.int .i64 0) ∧ i0.size = 1 ∧ i0.bytes = 8) := by
    have h := infoIn
    cases hi : Try.prog.info? 3 with
    | none => rw [hi] at h; cases h
    | some i =>
      rw [hi] at h
      have h := Option.some.inj h
      simp only [Prod.mk.injEq] at h
      exact ⟨i, Lib.hid rfl, Lib.hid h⟩
  go_enter Try.func3, Try.ntmps3
  go_wp2_with fail
  go_loopw [5, 22] (fun v5 vi wr => ∃ (i : Nat) (ds : List Int), i ≤ len0 ∧ vi = .int .i64 i ∧ Hid (RowAt wr W.heap.size 1 v5 i (encN ds)) ∧ Hid (ds.length = i) ∧ Hid (∀ x ∈ ds, 0 ≤ x ∧ x < 90) ∧ Kp (fun _ => False) W wr)
    (fun _ vi _ => len0 - (intOf vi).toNat)
  case atStart => exact ⟨0, [], by omega, rfl, Lib.hid (RowAt.nil _ _ _), Lib.hid rfl, Lib.hid (fun x hx => by cases hx), Kp.refl _ _⟩
  case round =>
    obtain ⟨i, ds, hi, rfl, Hrow, Hdl, Hds, hkp⟩ := hrel
    obtain ⟨Ax, cx, rfl⟩ := Hrow.out.form
    by_cases hlt : i < len0
    · rcases Hc0.out with h0 | ⟨blk, off, rfl, hbl, hcell⟩
      · omega
      · obtain ⟨u0, hu0, y0, rfl, l0, g0⟩ := hcell i hlt 0 RdI rfl
        clear hcell
        rw [← hkp.cell (p := ⟨blk, _, none⟩) hbl (fun h => h)] at hu0
        simp only [List.length_cons, List.length_nil, Nat.zero_add, Nat.add_zero, Nat.mul_one] at hu0
        have hblr := Nat.lt_of_lt_of_le hbl hkp.size
        have Hkp := Lib.hid hkp
        clear hkp
        go_wp2_with fail
        with_reducible refine (pick_nat _ _ _ (by omega) (by omega)).mono ?_
        rintro e w' ⟨q, hq, rfl, rfl⟩
        have HO : Hid (RowAt (wr.alloc (.cells #[.int .i64 q] 3)) W.heap.size 1 (.slice Ax i cx) i (encN ds)) := Lib.hid (RowAt.kp Hrow.out ((Kp.refl (fun _ => False) wr).alloc _) (fun _ _ h => h))
        have HS : Hid (Src (wr.alloc (.cells #[.int .i64 q] 3)) 1 (.slice (some ⟨wr.heap.size, 0, none⟩) 1 1) 1 [.int .i64 q]) := Lib.hid (srcW _ (Whole.new _ _ _) rfl (fun u hu => by simp at hu; subst hu; rfl))
        go_wp2_with (at_builtin; refine wpList_row rfl (.tmp 26) (.tmp 29) 22 rfl W.heap.size 3 i0 _ 1 8 Try.underlying22 Hi0.out Hz0.out.1 Hz0.out.2.1 Hz0.out.2.2 rfl (by decide) _ i _ rfl HO.out _ 1 _ rfl HS.out (by unfold maxLen; omega) (by omega) (by have := Hkp.out.size; simp only [World.size_alloc]; omega) ?_; intro v4 w4 hr5 hg5 hn5; have hk5 : Kp (fun _ => False) W w4 := (Hkp.out.alloc _).grown hg5 (fun j hj hlt => absurd (Hrow.out.lt j hj).1 (by omega)); have Hr4 := Lib.hid hr5; have Hk4 := Lib.hid hk5; clear hr5 hg5 hn5 hk5)
        go_roundw
        case rel => exact ⟨i + 1, ds ++ [(q : Int)], by omega, by go_num, Lib.hid (by have := Hr4.out; unfold encN at this ⊢; rw [List.map_append]; exact this), Lib.hid (by rw [List.length_append, Hdl.out]; rfl), Lib.hid (fun x hx => by
          rcases List.mem_append.1 hx with hx | hx
          · exact Hds.out x hx
          · simp only [List.mem_singleton] at hx; subst hx; omega), Hk4.out⟩
        case measure => simp [intOf]; omega
    · obtain rfl : i = len0 := by omega
      generalize wr = w1 at *
      have hcl := row_capL Hrow.out
      have hLn := of_norm ds [] (NormL.nil _) Hds.out
      have hLt : ∀ i, (ofL (ds.take i)).length ≤ 1048575 := fun j => by
        have := (of_norm (ds.take j) [] (NormL.nil _) (fun x hx => Hds.out x (List.mem_of_mem_take hx))).few (by omega)
        unfold ofL
        omega
      have hof := s_of (w := w1) (A := Ax) (cap := cx) (xs := ds) (by have := Hrow.out.src (encN_one ds); rw [← Hdl.out] at this; exact this) hLt (by rw [Hdl.out]; omega)
      rw [Hdl.out] at hof
      obtain ⟨L, hL⟩ : ∃ L, L = ofL ds := ⟨_, rfl⟩
      rw [← hL] at hof
      have hLn2 : NormL ((90 : Nat) : Int) L := by rw [hL]; exact hLn
      have Hof := Lib.hid hof
      have HLn := Lib.hid hLn2
      have hxlt : ∀ k, (Value.slice Ax i cx).ownBlock = some k → W.heap.size ≤ k ∧ k < w1.heap.size := Hrow.out.lt
      have Hxlt := Lib.hid hxlt
      have Hk1 := Lib.hid hkp
      clear hLt hLn hof hL hLn2 hxlt hkp Hds Hdl Hc0
      go_wp2_with fail
      with_reducible refine (Hof.out).mono ?_
      rintro e w2 ⟨vs, rfl, hs2, hv2, hk2⟩
      obtain ⟨As, cs, rfl⟩ := src_formS hs2
      have hSb := set_made hs2
      have hk3 := hk2.alloc (.cells #[.slice As L.length cs] 27)
      have hw12 := hk2.size
      have Hv2 := Lib.hid hv2
      clear hs2 hv2 hk2 Hof
      go_upto_region 8 with (fail)
      generalize w2.alloc (.cells #[.slice As L.length cs] 27) = w3 at *
      generalize w2.heap.size = s at *
      have hsW : W.heap.size ≤ s := by have := Hk1.out.size; omega
      have hsl := hSb.cell.lt
      have hL90 := HLn.out.few (by omega)
      have Hsp := Lib.hid (s_spans hSb (by omega))
      have HSb := Lib.hid hSb
      have Hk3 := Lib.hid hk3
      clear hSb hk3
      go_wp2_with fail
      with_reducible refine (Hsp.out).mono ?_
      rintro e w4 ⟨Aw, rfl, hrw, hk4⟩
      have HS4 := Lib.hid (HSb.out.no hk4)
      have Hwlt := Lib.hid hrw.lt
      have Hw4 := Lib.hid (hrw.src (encP_one _))
      have Hx4 := Lib.hid (RowAt.kp (RowAt.kp Hrow.out Hk3.out (fun _ _ h => h)) hk4 (fun _ _ h => h))
      have Hk4 := Lib.hid ((Hk1.out.trans Hk3.out).trans hk4)
      have hw34 := hk4.size
      clear hrw hk4 HSb Hsp Hrow Hk1 Hk3
      generalize hl2 : L.length = ln at *
      have Hl2 := Lib.hid hl2
      clear hl2
      go_wp2_with fail
      go_loopw [37] (fun vi wr => ∃ (j : Nat) (xs : List Value), j ≤ i ∧ vi = .int .i64 j ∧ Hid (RowAt wr W.heap.size 1 (.slice Ax i cx) i xs) ∧ Kp (fun k => (Value.slice Ax i cx).ownBlock = some k) w4 wr)
        (fun vi _ => i - (intOf vi).toNat)
      case atStart => exact ⟨0, _, by omega, rfl, Hx4, Kp.refl _ _⟩
      case round =>
        obtain ⟨j, xs, hj, rfl, Hrow, hkj⟩ := hrel
        by_cases hlt2 : j < i
        · obtain ⟨g, xoff, xcap, hxv, hB, hg, hnc, hcm2, hfr, hxc⟩ := Hrow.out.full (by omega)
          cases hxv
          have hxl : xs.length = i * 1 := Hrow.out.1
          have x0 := hxc j xs[j] (List.getElem?_eq_getElem (by omega))
          have f0 := hfr (xoff + j)
          have hset := Hrow.out.set j (.int .i64 95) (by omega)
          have hk2 := hkj.set (p := ⟨g, xoff + j, none⟩) (.inl rfl) (.int .i64 95)
          have Hset := Lib.hid hset
          have Hk2 := Lib.hid hk2
          clear hset hk2 hkj hxc hfr
          go_wp2_with fail
          go_roundw
          case rel => exact ⟨j + 1, _, by omega, by go_num, Hset, Hk2.out⟩
          case measure => simp [intOf]; omega
        · obtain rfl : j = i := by omega
          generalize wr = w5 at *
          have hsx : ¬ (Value.slice Ax j cx).ownBlock = some s := fun e => by have := Hxlt.out s e; omega
          have hs5 : SetAt w5 s (.slice As ln cs) L := HS4.out.kp hkj hsx (fun k h1 h2 => by have := Hxlt.out k h2; have := Hv2.out k h1; omega)
          have hw5 : Src w5 2 (.slice Aw ln ln) ln (encs encP L) := hkj.src Hw4.out (fun k h1 h2 => by have := Hxlt.out k h2; have := Hwlt.out k h1; omega)
          have hk5 : Kp (fun _ => False) W w5 := (Hk4.out.no.trans hkj).mono (fun k hk e => by have := Hxlt.out k e; omega)
          have hsl5 := hs5.cell.lt
          have qs : w5.cell? ⟨s, 0, none⟩ = some (.slice As ln cs) := by rw [hs5.cell.cell]; rfl
          have ps : Src w5 2 (.slice As ln cs) L.length (encs encP L) := hs5.src
          have hT := HasSet.copy ps
          have hkT : Kp (fun _ => False) w5 (w5.alloc (.cells #[.slice As ln cs] 27)) := (Kp.refl _ w5).alloc _
          have HS6 := Lib.hid (hs5.no hkT)
          have HT6 := Lib.hid hT
          have Hw6 := Lib.hid (hkT.src hw5 (fun _ _ h => h))
          have HK6 := Lib.hid (hk5.trans hkT)
          have Hp6 := Lib.hid (hkT.src ps (fun _ _ h => h))
          have hWs : W.heap.size ≤ w5.heap.size := hk5.size
          clear HS4 Hw4 Hx4 Hk4 Hrow hkj hs5 hw5 hk5 ps hT hkT Hxlt Hv2 Hwlt hsx
          go_upto_region 15 with (fail)
          generalize w5.alloc (.cells #[.slice As ln cs] 27) = w6 at *
          have hst : s ≠ w5.heap.size := by omega
          generalize w5.heap.size = tb at *
          have htl := HT6.out.lt
          have hsl6 := HS6.out.cell.lt
          have qs6 : w6.cell? ⟨s, 0, none⟩ = some (.slice As ln cs) := by rw [HS6.out.cell.cell]; rfl
          obtain ⟨At, ct, qt, pt⟩ := HT6.out.read
          rw [Hl2.out] at qt
          have pt2 : Src w6 2 (.slice At ln ct) L.length (encs encP L) := by
            have h := pt
            rw [Hl2.out] at h ⊢
            exact h
          have hkb : Kp (fun _ => False) w6 (w6.alloc (.cells #[.slice As ln cs, .slice At ln ct] 27)) := (Kp.refl _ w6).alloc _
          have hB7 : Whole (w6.alloc (.cells #[.slice As ln cs, .slice At ln ct] 27)) w6.heap.size 27 #[.slice As ln cs, .slice At ln ct] := Whole.new _ _ _
          have hun := union2 (E := 90) hB7 (hkb.src Hp6.out (fun _ _ h => h)) (hkb.src pt2 (fun _ _ h => h)) (by omega) HLn.out HLn.out
          have Hun := Lib.hid hun
          have HB7 := Lib.hid hB7
          have HS7 := Lib.hid (show HasSet _ s L from ⟨_, HS6.out.no hkb⟩)
          have HT7 := Lib.hid (HT6.out.no hkb)
          have Hw7 := Lib.hid (hkb.src Hw6.out (fun _ _ h => h))
          have Hp7 := Lib.hid (hkb.src Hp6.out (fun _ _ h => h))
          have HK7 := Lib.hid (HK6.out.trans hkb)
          have hWt : W.heap.size ≤ tb := by omega
          clear hun hB7 hkb pt pt2 HS6 HT6 Hw6 Hp6 HK6 qs
          go_upto_region 16 with (fail)
          generalize w6.alloc (.cells #[.slice As ln cs, .slice At ln ct] 27) = w7 at *
          have hsb : s ≠ w6.heap.size := by omega
          have htb : tb ≠ w6.heap.size := by omega
          have hbW : W.heap.size ≤ w6.heap.size := by omega
          generalize w6.heap.size = sb at *
          have hsl7 := HS7.out.lt
          have htl7 := HT7.out.lt
          have hbl7 := HB7.out.lt
          go_wp2_with fail
          with_reducible refine (Hun.out).mono ?_
          rintro e w8 ⟨Au, lu, cu, U0, rfl, hsu, hNu, _, _, hk8⟩
          have hU9 := HasSet.copy hsu
          have hk9 := hk8.alloc (.cells #[.slice Au lu cu] 27)
          have hw78 := hk8.size
          clear hsu hk8 Hun qt qs6
          go_upto_region 17 with (fail)
          generalize w8.alloc (.cells #[.slice Au lu cu] 27) = w9 at *
          have hsu : s ≠ w8.heap.size := by omega
          have htu : tb ≠ w8.heap.size := by omega
          have hbu : sb ≠ w8.heap.size := by omega
          have huW : W.heap.size ≤ w8.heap.size := by omega
          generalize w8.heap.size = ub at *
          have HU9 := Lib.hid hU9
          have HS9 := Lib.hid (HS7.out.no hk9)
          have HT9 := Lib.hid (HT7.out.no hk9)
          have HB9 := Lib.hid (hk9.whole HB7.out (fun h => h))
          have Hw9 := Lib.hid (hk9.src Hw7.out (fun _ _ h => h))
          have Hp9 := Lib.hid (hk9.src Hp7.out (fun _ _ h => h))
          have HK9 := Lib.hid (HK7.out.trans hk9)
          have HN0 := Lib.hid (hNu.up (F := ((100 : Nat) : Int)) (by omega))
          have HL100 := Lib.hid (HLn.out.up (F := ((100 : Nat) : Int)) (by omega))
          clear hU9 hk9 HS7 HT7 HB7 Hw7 Hp7 HK7 hNu
          go_wp2_with fail
          go_loopw [52] (fun vi wr => ∃ (k : Nat) (T U : List Pr), k ≤ len ∧ vi = .int .i64 k ∧ Hid (HasSet wr tb T) ∧ Hid (NormL ((100 : Nat) : Int) T) ∧ Hid (HasSet wr ub U) ∧ Hid (NormL ((100 : Nat) : Int) U) ∧ Kp (fun k => k = tb ∨ k = ub) w9 wr)
            (fun vi _ => len - (intOf vi).toNat)
          case atStart => exact ⟨0, L, U0, by omega, rfl, HT9, HL100, HU9, HN0, Kp.refl _ _⟩
          case round =>
            obtain ⟨k, T, U, hk, rfl, HT, HTN, HU, HUN, hkj⟩ := hrel
            have hkW : Kp (fun _ => False) W wr := (HK9.out.no.trans hkj).mono (fun k hk e => by omega)
            by_cases hlt : k < len
            · rcases Hc.out with h0 | ⟨blk, off, rfl, hbl, hcell⟩
              · omega
              · obtain ⟨u0, hu0, y0, rfl, l0, g0⟩ := hcell k hlt 0 RdI rfl
                obtain ⟨u1, hu1, y1, rfl, l1, g1⟩ := hcell k hlt 1 RdI rfl
                obtain ⟨u2, hu2, y2, rfl, l2, g2⟩ := hcell k hlt 2 RdI rfl
                clear hcell
                rw [← hkW.cell (p := ⟨blk, _, none⟩) hbl (fun h => h)] at hu0 hu1 hu2
                simp only [List.length_cons, List.length_nil, Nat.zero_add, Nat.add_zero, Nat.reduceAdd] at hu0 hu1 hu2
                have hblr := Nat.lt_of_lt_of_le hbl hkW.size
                obtain ⟨p1, hp1⟩ := Int.eq_ofNat_of_zero_le (pickF_lo y1 90 (by omega))
                obtain ⟨q1, hq1⟩ := Int.eq_ofNat_of_zero_le (pickF_lo y2 99 (by omega))
                obtain ⟨p2, hp2⟩ := Int.eq_ofNat_of_zero_le (pickF_lo y2 90 (by omega))
                obtain ⟨q2, hq2⟩ := Int.eq_ofNat_of_zero_le (pickF_lo y1 99 (by omega))
                have b1 := pickF_hi y1 90 (by omega)
                have b2 := pickF_hi y2 99 (by omega)
                have b3 := pickF_hi y2 90 (by omega)
                have b4 := pickF_hi y1 99 (by omega)
                have m1 : p1 ≤ 100 := by omega
                have m2 : q1 ≤ 100 := by omega
                have m3 : p2 ≤ 100 := by omega
                have m4 : q2 ≤ 100 := by omega
                have P1 := Lib.hid (fun w => pick_any y1 90 w (by omega) (by omega))
                have P2 := Lib.hid (fun w => pick_any y2 99 w (by omega) (by omega))
                have P3 := Lib.hid (fun w => pick_any y2 90 w (by omega) (by omega))
                have P4 := Lib.hid (fun w => pick_any y1 99 w (by omega) (by omega))
                rw [hp1] at P1
                rw [hq1] at P2
                rw [hp2] at P3
                rw [hq2] at P4
                clear hp1 hq1 hp2 hq2 b1 b2 b3 b4
                have hX := Whole.new wr 33 #[.int .i64 y0, .int .i64 y1, .int .i64 y2]
                have hkx : Kp (fun _ => False) wr (wr.alloc (.cells #[.int .i64 y0, .int .i64 y1, .int .i64 y2] 33)) := (Kp.refl _ wr).alloc _
                have HT1 := Lib.hid (HT.out.no hkx)
                have HU1 := Lib.hid (HU.out.no hkx)
                have Hk1 := Lib.hid (hkj.trans hkx.no)
                have htx := HT.out.lt
                have hux := HU.out.lt
                clear hkx HT HU hkj hkW
                go_upto_region 20 with (fail)
                generalize wr.alloc (.cells #[.int .i64 y0, .int .i64 y1, .int .i64 y2] 33) = w10 at *
                have bxtb : wr.heap.size ≠ tb := by omega
                have bxub : wr.heap.size ≠ ub := by omega
                generalize wr.heap.size = bx at *
                have bxl := hX.lt
                have c1 := hX.cell 1
                have c2 := hX.cell 2
                simp at c1 c2
                clear hX hu0 hu1 hu2
                have Hadd := Lib.hid (g_add (w := w10.drew) (E := 100) (HT1.out.no (Kp.drew (Kp.refl _ _))) HTN.out (by omega) p1 q1 (by omega) (by omega))
                go_cut [] (fun wx => Hid (Chg w10 wx tb 100 (fun n => InL T n ∨ ((p1 : Int) ≤ n ∧ n < (q1 : Int)))))
                case first =>
                  go_region_held3 (fun w' => w'.cell? ⟨bx, 1, none⟩ = some (.int .i64 y1) ∧ w'.cell? ⟨bx, 2, none⟩ = some (.int .i64 y2) ∧ Kp (fun k => k = tb) w10 w') (exact kkA bxl bxtb c1 c2 (by first | assumption | exact (Kp.refl _ _).drew))
                    (first
                      | (go_at_call 11; (with_reducible refine (P1.out _).mono ?_); rintro e w' ⟨rfl, rfl⟩)
                      | (go_at_call 11; (with_reducible refine (P2.out _).mono ?_); rintro e w' ⟨rfl, rfl⟩)
                      | (go_at_call 15; (with_reducible refine (Hadd.out).mono ?_); rintro e w' ⟨rfl, hch⟩; have hchd := Lib.hid hch.drew; have hx4 := Chg.kp hch.drew; clear hch))
                  all_goals
                    go_wp2_with fail
                    go_meet
                    case rel => exact hchd
                case rest =>
                obtain ⟨T1, hT2, hTN2, _, hk11⟩ := hcut.out
                generalize wc = w11 at *
                have HT2 := Lib.hid hT2
                have HTN2 := Lib.hid hTN2
                have HU2 := Lib.hid (HU1.out.other HT1.out hk11 htu.symm)
                have Hk2 := Lib.hid (Hk1.out.trans (hk11.mono (S' := fun k => k = tb ∨ k = ub) (fun k _ e => .inl e)))
                have d1 := (hk11.cell (p := ⟨bx, 1, none⟩) bxl bxtb).trans c1
                have d2 := (hk11.cell (p := ⟨bx, 2, none⟩) bxl bxtb).trans c2
                have bxl2 := Nat.lt_of_lt_of_le bxl hk11.size
                clear hcut hT2 hTN2 hk11 Hadd HT1 HU1 Hk1 c1 c2 bxl
                have c1 := d1
                have c2 := d2
                have bxl := bxl2
                clear d1 d2 bxl2
                have Hdrop := Lib.hid (g_drop (w := w11.drew) (E := 100) (HU2.out.no (Kp.drew (Kp.refl _ _))) HUN.out (by omega) p2 q2 (by omega) (by omega))
                go_upto_region 21 with (fail)
                go_region_held3 (fun w' => w'.cell? ⟨bx, 1, none⟩ = some (.int .i64 y1) ∧ w'.cell? ⟨bx, 2, none⟩ = some (.int .i64 y2) ∧ Kp (fun k => k = ub) w11 w') (exact kkA bxl bxub c1 c2 (by first | assumption | exact (Kp.refl _ _).drew))
                  (first
                    | (go_at_call 11; (with_reducible refine (P3.out _).mono ?_); rintro e w' ⟨rfl, rfl⟩)
                    | (go_at_call 11; (with_reducible refine (P4.out _).mono ?_); rintro e w' ⟨rfl, rfl⟩)
                    | (go_at_call 16; (with_reducible refine (Hdrop.out).mono ?_); rintro e w' ⟨rfl, hch⟩; have hchd := Lib.hid hch.drew; have hx4 := Chg.kp hch.drew; clear hch))
                all_goals
                  obtain ⟨U1, hU3, hUN3, _, hk12⟩ := hchd.out
                  have HT3 := Lib.hid (HT2.out.other HU2.out hk12 htu)
                  have HU3 := Lib.hid hU3
                  have HUN3 := Lib.hid hUN3
                  have Hk3 := Lib.hid (Hk2.out.trans (hk12.mono (S' := fun k => k = tb ∨ k = ub) (fun k _ e => .inr e)))
                  generalize w' = w12 at *
                  clear hchd hx4 hU3 hUN3 hk12 Hdrop HT2 HU2 Hk2
                  go_wp2_with fail
                  go_roundw
                  case rel => exact ⟨k + 1, T1, U1, by omega, by go_num, HT3, HTN2, HU3, HUN3, Hk3.out⟩
                  case measure => simp [intOf]; omega
            · obtain rfl : k = len := by omega
              generalize wr = w13 at *
              have hpr : ∀ k, (k = tb ∨ k = ub) → (∃ t cs, Whole w9 k t cs ∧ NoPair cs) ∨ w9.heap.size ≤ k := fun k e => by
                rcases e with rfl | rfl
                · exact .inl HT9.out.one
                · exact .inl HU9.out.one
              have GS13 := Lib.hid (HS9.out.tr hkj (fun e => by omega) hpr)
              have GT13 := HT
              have GP13 := Lib.hid (src_tr (by rw [Hl2.out]; rw [Hl2.out] at Hp9; exact Hp9.out) hkj hpr)
              have GW13 := Lib.hid (src_tr (v := .slice Aw ln ln) (L := L) (by rw [Hl2.out]; exact Hw9.out) hkj hpr)
              have GB13 := Lib.hid (hkj.whole HB9.out (fun e => by omega))
              have GK13 := Lib.hid hkW
              have hlbt := HTN.out.few (by omega)
              clear hpr HS9 HT9 HU9 HB9 Hw9 Hp9 HK9 HT hkj hkW HU HUN HN0
              have hc := f_spans GT13.out (by omega)
              have Hc9 := Lib.hid hc
              clear hc
              go_wp2_with fail
              with_reducible refine (Hc9.out).mono ?_
              rintro e w14 ⟨An, rfl, hrow, hk⟩
              clear Hc9
              have GS14 := Lib.hid (GS13.out.no hk)
              have GT14 := Lib.hid (GT13.out.no hk)
              have GP14 := Lib.hid (hk.src GP13.out (fun _ _ h => h))
              have GW14 := Lib.hid (hk.src GW13.out (fun _ _ h => h))
              have GB14 := Lib.hid (hk.whole GB13.out (fun h => h))
              have GK14 := Lib.hid (GK13.out.trans hk)
              clear hk GS13 GT13 GP13 GW13 GB13 GK13
              have GN14 := Lib.hid (hrow.src (encP_one _))
              clear hrow
              have hc := g_addI (E := 100) GS14.out HL100.out (by omega) 91 94 (by omega) (by omega) (by omega) (by omega)
              have Hc9 := Lib.hid hc
              clear hc
              go_wp2_with fail
              with_reducible refine (Hc9.out).mono ?_
              rintro e w15 ⟨rfl, L1, hS, hN, hI, hk⟩
              clear Hc9
              dsimp only at hI
              have hpr : ∀ k, k = s → (∃ t cs, Whole w14 k t cs ∧ NoPair cs) ∨ w14.heap.size ≤ k := fun k e => by subst e; exact .inl GS14.out.one
              have GT15 := Lib.hid (GT14.out.other GS14.out hk hst.symm)
              have GP15 := Lib.hid (src_tr GP14.out hk hpr)
              have GW15 := Lib.hid (by have h := GW14.out; rw [← Hl2.out] at h; have h2 := src_tr h hk hpr; rw [Hl2.out] at h2; exact h2)
              have GN15 := Lib.hid (src_tr GN14.out hk hpr)
              have GB15 := Lib.hid (hk.whole GB14.out (fun e => hsb e.symm))
              have GK15 := Lib.hid ((GK14.out.no.trans hk).mono (S' := fun _ => False) (fun k hk e => by omega))
              have GS15 := Lib.hid hS
              have HL1N := Lib.hid hN
              have HL1I := Lib.hid hI
              clear hpr hS hN hI hk GS14 GT14 GP14 GW14 GN14 GB14 GK14
              have hc := g_dropI (E := 100) GS15.out HL1N.out (by omega) 0 5 (by omega) (by omega) (by omega) (by omega)
              have Hc9 := Lib.hid hc
              clear hc
              go_wp2_with fail
              with_reducible refine (Hc9.out).mono ?_
              rintro e w16 ⟨rfl, L2, hS, hN, hI, hk⟩
              clear Hc9
              dsimp only at hI
              have hpr : ∀ k, k = s → (∃ t cs, Whole w15 k t cs ∧ NoPair cs) ∨ w15.heap.size ≤ k := fun k e => by subst e; exact .inl GS15.out.one
              have GT16 := Lib.hid (GT15.out.other GS15.out hk hst.symm)
              have GP16 := Lib.hid (src_tr GP15.out hk hpr)
              have GW16 := Lib.hid (by have h := GW15.out; rw [← Hl2.out] at h; have h2 := src_tr h hk hpr; rw [Hl2.out] at h2; exact h2)
              have GN16 := Lib.hid (src_tr GN15.out hk hpr)
              have GB16 := Lib.hid (hk.whole GB15.out (fun e => hsb e.symm))
              have GK16 := Lib.hid ((GK15.out.no.trans hk).mono (S' := fun _ => False) (fun k hk e => by omega))
              have GS16 := Lib.hid hS
              have HL2N := Lib.hid hN
              have HL2I := Lib.hid hI
              clear hpr hS hN hI hk GS15 GT15 GP15 GW15 GN15 GB15 GK15
              have hL2 := HL2N.out.few (by omega)
              have hc := f_spans GS16.out (by omega)
              have Hc9 := Lib.hid hc
              clear hc
              generalize hl3 : L2.length = l3 at *
              have Hl3 := Lib.hid hl3
              clear hl3
              go_wp2_with fail
              with_reducible refine (Hc9.out).mono ?_
              rintro e w17 ⟨Ao, rfl, hrow, hk⟩
              clear Hc9
              have Hrow17 := Lib.hid hrow
              have Hk17 := Lib.hid hk
              clear hrow hk
              go_wp2_with fail
              go_loopw [77] (fun vi wr => ∃ (j : Nat) (xs : List Value), j ≤ l3 ∧ vi = .int .i64 j ∧ Hid (RowAt wr w16.heap.size 2 (.slice Ao l3 l3) l3 xs) ∧ Kp (fun _ => False) w16 wr)
                (fun vi _ => l3 - (intOf vi).toNat)
              case atStart => exact ⟨0, _, by omega, rfl, Hrow17, Hk17.out⟩
              case round =>
                obtain ⟨j, xs, hj, rfl, Hrow, hkj⟩ := hrel
                by_cases hlt2 : j < l3
                · obtain ⟨g, xoff, xcap, hxv, hB, hg, hnc, hcm2, hfr, hxc⟩ := Hrow.out.full (by omega)
                  cases hxv
                  have hxl : xs.length = l3 * 2 := Hrow.out.1
                  have x0 := hxc (j * 2) xs[j * 2] (List.getElem?_eq_getElem (by omega))
                  have x1 := hxc (j * 2 + 1) xs[j * 2 + 1] (List.getElem?_eq_getElem (by omega))
                  rw [← Nat.add_assoc] at x1
                  have f0 := hfr (xoff + j * 2)
                  have f1 := hfr (xoff + j * 2 + 1)
                  have hset := (Hrow.out.set (j * 2) (.int .i64 7) (by omega)).set (j * 2 + 1) (.int .i64 8) (by omega)
                  rw [← Nat.add_assoc] at hset
                  have hk2 := (hkj.set (p := ⟨g, xoff + j * 2, none⟩) (.inr hB) (.int .i64 7)).set (p := ⟨g, xoff + j * 2 + 1, none⟩) (.inr hB) (.int .i64 8)
                  have Hset := Lib.hid hset
                  have Hk2 := Lib.hid hk2
                  clear hset hk2 hkj hxc hfr
                  go_wp2_with fail
                  go_roundw
                  case rel => exact ⟨j + 1, _, by omega, by go_num, Hset, Hk2.out⟩
                  case measure => simp [intOf]; omega
                · obtain rfl : j = l3 := by omega
                  generalize wr = w17b at *
                  have hk := hkj
                  clear hkj
                  have GS17 := Lib.hid (GS16.out.no hk)
                  have GT17 := Lib.hid (GT16.out.no hk)
                  have GP17 := Lib.hid (hk.src GP16.out (fun _ _ h => h))
                  have GW17 := Lib.hid (hk.src GW16.out (fun _ _ h => h))
                  have GN17 := Lib.hid (hk.src GN16.out (fun _ _ h => h))
                  have GB17 := Lib.hid (hk.whole GB16.out (fun h => h))
                  have GK17 := Lib.hid (GK16.out.trans hk)
                  clear hk GS16 GT16 GP16 GW16 GN16 GB16 GK16
                  have hsl17 := GS17.out.lt
                  have q17 : w17b.cell? ⟨sb, 0, none⟩ = some (.slice As ln cs) := by rw [GB17.out.cell]; rfl
                  have hbl17 := GB17.out.lt
                  have hV := HasSet.copy GP17.out
                  have hk : Kp (fun _ => False) w17b (w17b.alloc (.cells #[.slice As ln cs] 27)) := (Kp.refl _ w17b).alloc _
                  have GS18 := Lib.hid (GS17.out.no hk)
                  have GT18 := Lib.hid (GT17.out.no hk)
                  have GP18 := Lib.hid (hk.src GP17.out (fun _ _ h => h))
                  have GW18 := Lib.hid (hk.src GW17.out (fun _ _ h => h))
                  have GN18 := Lib.hid (hk.src GN17.out (fun _ _ h => h))
                  have GB18 := Lib.hid (hk.whole GB17.out (fun h => h))
                  have GK18 := Lib.hid (GK17.out.trans hk)
                  clear hk GS17 GT17 GP17 GW17 GN17 GB17 GK17
                  go_upto_region 33 with (fail)
                  generalize w17b.alloc (.cells #[.slice As ln cs] 27) = w18 at *
                  generalize w17b.heap.size = vb at *
                  have GV18 := Lib.hid hV
                  clear hV q17
                  have hc := known_c w18
                  have Hc9 := Lib.hid hc
                  clear hc
                  go_wp2_with fail
                  with_reducible refine (Hc9.out).mono ?_
                  rintro e w19 ⟨rfl, hk⟩
                  clear Hc9
                  have GS19 := Lib.hid (GS18.out.no hk)
                  have GT19 := Lib.hid (GT18.out.no hk)
                  have GV19 := Lib.hid (GV18.out.no hk)
                  have GP19 := Lib.hid (hk.src GP18.out (fun _ _ h => h))
                  have GW19 := Lib.hid (hk.src GW18.out (fun _ _ h => h))
                  have GN19 := Lib.hid (hk.src GN18.out (fun _ _ h => h))
                  have GB19 := Lib.hid (hk.whole GB18.out (fun h => h))
                  have GK19 := Lib.hid (GK18.out.trans hk)
                  clear hk GS18 GT18 GV18 GP18 GW18 GN18 GB18 GK18
                  have hc := f_spans GV19.out (by rw [Hl2.out]; omega)
                  have Hc9 := Lib.hid hc
                  clear hc
                  go_wp2_with fail
                  with_reducible refine (Hc9.out).mono ?_
                  rintro e w20 ⟨Av, rfl, hrow, hk⟩
                  clear Hc9
                  have GS20 := Lib.hid (GS19.out.no hk)
                  have GT20 := Lib.hid (GT19.out.no hk)
                  have GV20 := Lib.hid (GV19.out.no hk)
                  have GP20 := Lib.hid (hk.src GP19.out (fun _ _ h => h))
                  have GW20 := Lib.hid (hk.src GW19.out (fun _ _ h => h))
                  have GN20 := Lib.hid (hk.src GN19.out (fun _ _ h => h))
                  have GB20 := Lib.hid (hk.whole GB19.out (fun h => h))
                  have GK20 := Lib.hid (GK19.out.trans hk)
                  clear hk GS19 GT19 GV19 GP19 GW19 GN19 GB19 GK19
                  have GX20 := Lib.hid (hrow.src (encP_one _))
                  clear hrow
                  have hc := same_yes GX20.out (show Src _ 2 (.slice Aw ln ln) L.length (encs encP L) by rw [Hl2.out]; exact GW20.out) (by rw [Hl2.out]; omega)
                  have Hc9 := Lib.hid hc
                  clear hc
                  go_wp2_with fail
                  with_reducible refine (Hc9.out).mono ?_
                  rintro e w21 ⟨rfl, hk⟩
                  clear Hc9
                  have GS21 := Lib.hid (GS20.out.no hk)
                  have GT21 := Lib.hid (GT20.out.no hk)
                  have GV21 := Lib.hid (GV20.out.no hk)
                  have GP21 := Lib.hid (hk.src GP20.out (fun _ _ h => h))
                  have GW21 := Lib.hid (hk.src GW20.out (fun _ _ h => h))
                  have GN21 := Lib.hid (hk.src GN20.out (fun _ _ h => h))
                  have GX21 := Lib.hid (hk.src GX20.out (fun _ _ h => h))
                  have GB21 := Lib.hid (hk.whole GB20.out (fun h => h))
                  have GK21 := Lib.hid (GK20.out.trans hk)
                  clear hk GS20 GT20 GV20 GP20 GW20 GN20 GX20 GB20 GK20
                  have hc := f_spans GT21.out (by omega)
                  have Hc9 := Lib.hid hc
                  clear hc
                  go_wp2_with fail
                  with_reducible refine (Hc9.out).mono ?_
                  rintro e w22 ⟨Ay, rfl, hrow, hk⟩
                  clear Hc9
                  have GS22 := Lib.hid (GS21.out.no hk)
                  have GT22 := Lib.hid (GT21.out.no hk)
                  have GV22 := Lib.hid (GV21.out.no hk)
                  have GP22 := Lib.hid (hk.src GP21.out (fun _ _ h => h))
                  have GW22 := Lib.hid (hk.src GW21.out (fun _ _ h => h))
                  have GN22 := Lib.hid (hk.src GN21.out (fun _ _ h => h))
                  have GX22 := Lib.hid (hk.src GX21.out (fun _ _ h => h))
                  have GB22 := Lib.hid (hk.whole GB21.out (fun h => h))
                  have GK22 := Lib.hid (GK21.out.trans hk)
                  clear hk GS21 GT21 GV21 GP21 GW21 GN21 GX21 GB21 GK21
                  have GY22 := Lib.hid (hrow.src (encP_one _))
                  clear hrow
                  have hc := same_yes GY22.out GN22.out (by omega)
                  have Hc9 := Lib.hid hc
                  clear hc
                  go_wp2_with fail
                  with_reducible refine (Hc9.out).mono ?_
                  rintro e w23 ⟨rfl, hk⟩
                  clear Hc9
                  have GS23 := Lib.hid (GS22.out.no hk)
                  have GT23 := Lib.hid (GT22.out.no hk)
                  have GV23 := Lib.hid (GV22.out.no hk)
                  have GP23 := Lib.hid (hk.src GP22.out (fun _ _ h => h))
                  have GW23 := Lib.hid (hk.src GW22.out (fun _ _ h => h))
                  have GN23 := Lib.hid (hk.src GN22.out (fun _ _ h => h))
                  have GX23 := Lib.hid (hk.src GX22.out (fun _ _ h => h))
                  have GY23 := Lib.hid (hk.src GY22.out (fun _ _ h => h))
                  have GB23 := Lib.hid (hk.whole GB22.out (fun h => h))
                  have GK23 := Lib.hid (GK22.out.trans hk)
                  clear hk GS22 GT22 GV22 GP22 GW22 GN22 GX22 GY22 GB22 GK22
                  have i95 : InL L2 95 ↔ false = true := by rw [HL2I.out, HL1I.out]; exact ⟨fun h => h.1.elim (fun ⟨x, hx, h1, h2⟩ => by have := HLn.out.run x hx; omega) (fun h => by omega), fun h => by cases h⟩
                  have i92 : InL L2 92 ↔ true = true := by rw [HL2I.out, HL1I.out]; exact ⟨fun _ => rfl, fun _ => ⟨.inr (by omega), by omega⟩⟩
                  have I95 := Lib.hid i95
                  have I92 := Lib.hid i92
                  clear i95 i92
                  have hc := f_hasN GS23.out HL2N.out (by omega) 95 false I95.out
                  have Hc9 := Lib.hid hc
                  clear hc
                  go_wp2_with fail
                  with_reducible refine (Hc9.out).mono ?_
                  rintro e w24 ⟨rfl, hk⟩
                  clear Hc9
                  have GS24 := Lib.hid (GS23.out.no hk)
                  have GT24 := Lib.hid (GT23.out.no hk)
                  have GV24 := Lib.hid (GV23.out.no hk)
                  have GP24 := Lib.hid (hk.src GP23.out (fun _ _ h => h))
                  have GW24 := Lib.hid (hk.src GW23.out (fun _ _ h => h))
                  have GN24 := Lib.hid (hk.src GN23.out (fun _ _ h => h))
                  have GX24 := Lib.hid (hk.src GX23.out (fun _ _ h => h))
                  have GY24 := Lib.hid (hk.src GY23.out (fun _ _ h => h))
                  have GB24 := Lib.hid (hk.whole GB23.out (fun h => h))
                  have GK24 := Lib.hid (GK23.out.trans hk)
                  clear hk GS23 GT23 GV23 GP23 GW23 GN23 GX23 GY23 GB23 GK23
                  have hc := f_hasN GS24.out HL2N.out (by omega) 92 true (by rw [I92.out]; simp)
                  have Hc9 := Lib.hid hc
                  clear hc
                  go_wp2_with fail
                  with_reducible refine (Hc9.out).mono ?_
                  rintro e w25 ⟨rfl, hk⟩
                  clear Hc9
                  have GS25 := Lib.hid (GS24.out.no hk)
                  have GT25 := Lib.hid (GT24.out.no hk)
                  have GV25 := Lib.hid (GV24.out.no hk)
                  have GP25 := Lib.hid (hk.src GP24.out (fun _ _ h => h))
                  have GW25 := Lib.hid (hk.src GW24.out (fun _ _ h => h))
                  have GN25 := Lib.hid (hk.src GN24.out (fun _ _ h => h))
                  have GX25 := Lib.hid (hk.src GX24.out (fun _ _ h => h))
                  have GY25 := Lib.hid (hk.src GY24.out (fun _ _ h => h))
                  have GB25 := Lib.hid (hk.whole GB24.out (fun h => h))
                  have GK25 := Lib.hid (GK24.out.trans hk)
                  clear hk GS24 GT24 GV24 GP24 GW24 GN24 GX24 GY24 GB24 GK24
                  go_wp2_with fail
                  go_ret
                  exact ⟨rfl, GK25.out.below (Nat.le_refl _) (fun _ h => h.elim)⟩
end Go.Proofs.Ytdcbgjbhoejpnaa
