/-
  argosylaw19: FragsAll.
-/
import Derived.Test.YtdcbgjbhoejpnaaFragP
import Derived.Test.YtdcbgjbhoejpnaaTxt
import Derived.Laws.IdiomStrings
namespace Go.Proofs.Ytdcbgjbhoejpnaa
open Go.RowKit

theorem kk1F {w w' : World} {b o : Nat} {x : Value} (hb : b < w.heap.size) (c1 : w.cell? ⟨b, o, none⟩ = some x) (h : Kp (fun _ => False) w w') : w'.cell? ⟨b, o, none⟩ = some x ∧ Kp (fun _ => False) w w' :=
  ⟨by rw [h.cell (p := ⟨b, o, none⟩) hb (fun h => h)]; exact c1, h⟩
/-- 'string(..)' of a row that holds the bytes d. -/
theorem conv_row {w : World} {g off c n : Nat} {d : List UInt8} (hn : d.length = n) (h : ∀ j u, (encB d)[j]? = some u → w.cell? ⟨g, off + j, none⟩ = some u) :
    (convert 54 9 (.slice (some ⟨g, off, none⟩) n c)).run Try.prog w = .ok (.string ⟨d.toArray⟩) w := by
  subst hn
  exact run_convert_bytes_back (P := Try.prog) w 54 9 5 ⟨g, off, none⟩ c d Try.underlying54 Try.underlying5 Try.underlying9 (fun j hj => by
    rw [Addr.add_lit]
    exact h j _ (by simp [encB, List.getElem?_eq_getElem hj]))
theorem conv_src {w : World} {A : Option Addr} {c n : Nat} {d : List UInt8} (hn : d.length = n) (h1 : 1 ≤ n) (h : Src w 1 (.slice A n c) n (encB d)) :
    (convert 54 9 (.slice A n c)).run Try.prog w = .ok (.string ⟨d.toArray⟩) w := by
  obtain ⟨b, off, c', hv, hb, hc⟩ := Src.wide h (by omega) (by omega)
  cases hv
  exact conv_row hn hc
theorem kk2 {w w' : World} {P : Nat → Prop} {b o c p : Nat} {x y : Value} (hb : b < w.heap.size) (hn : ¬ P b) (c1 : w.cell? ⟨b, o, none⟩ = some x) (hc : c < w.heap.size) (hn2 : ¬ P c) (c2 : w.cell? ⟨c, p, none⟩ = some y) (h : Kp P w w') :
    w'.cell? ⟨b, o, none⟩ = some x ∧ w'.cell? ⟨c, p, none⟩ = some y ∧ Kp P w w' :=
  ⟨by rw [h.cell (p := ⟨b, o, none⟩) hb hn]; exact c1, by rw [h.cell (p := ⟨c, p, none⟩) hc hn2]; exact c2, h⟩

set_option maxRecDepth 100000 in
set_option maxHeartbeats 4000000 in
theorem FragsAll_any (W : World) (x0 : Int) (_l0 : -9223372036854775808 ≤ x0) (_h0 : x0 ≤ 9223372036854775807) (x1 : Int) (l1 : -9223372036854775808 ≤ x1) (h1 : x1 ≤ 9223372036854775807) (x2 : Int) (_l2 : -9223372036854775808 ≤ x2) (_h2 : x2 ≤ 9223372036854775807)
    (v3 : Value) (hv3 : SlArg 54 W v3) (v4 : Value) (hv4 : SlArg 22 W v4) :
    Calls Try.prog 9 #[.int .i64 x0, .int .i64 x1, .int .i64 x2, v3, v4] W fun e w' => e = .returned (.bool true) ∧ Below W.heap.size W w' := by
  obtain ⟨Ap, pd, capp, rfl, hpb, _, _, _, _, hpr⟩ := bytes_rd hv3
  obtain ⟨A, len, cap, rfl, hlc, hcm, hreach, hcells⟩ := rawInts_rd hv4
  unfold maxLen at hcm
  unfold reachBytes at hreach hpr
  have Hc := Lib.hid hcells
  have Hpb := Lib.hid hpb
  have HH := Lib.hid (head0_any x0 x1 x2 l1 h1 W)
  clear hcells hv3 hv4 hpb l1 h1
  generalize hpl : pd.length = pl at *
  have Hpl := Lib.hid hpl
  clear hpl
  go_enter Try.func9, Try.ntmps9
  go_wp2_with fail
  with_reducible refine (HH.out).mono ?_
  rintro e w1 ⟨pid, mdl, n, hr, rfl, hk1⟩
  have hr0 := rightB_iff0.1 hr
  obtain ⟨ct, hct⟩ : ∃ ct : Nat, (ct : Int) = cntH (n : Int) := ⟨(cntH (n : Int)).toNat, by have := cnt_lo (sz := (n : Int)) (by omega); omega⟩
  rw [← hct] at hr ⊢
  have hct1 : 1 ≤ ct := by have := cnt_lo (sz := (n : Int)) (by omega); omega
  have hct8 : ct ≤ 8 := by have := cnt_hi (sz := (n : Int)) (by omega); omega
  have hn1 : 1 ≤ n := by omega
  have hn6 : n ≤ 600 := by omega
  have hctn : ∀ k : Nat, k < ct ↔ k * 80 < n := fun k => by unfold cntH at hct; omega
  have Hctn := Lib.hid hctn
  have hrk : ∀ k : Nat, k < ct → rightB pid mdl (ct : Int) (k : Int) (n : Int) = true := fun k hk => rightB_iff0.2 (by omega)
  have Hrk := Lib.hid hrk
  have Hr := Lib.hid hr
  have hd := HdAt.new w1 pid mdl ct 0 n
  have hk2 := hk1.alloc (.cells #[.int .i64 pid, .int .i64 mdl, .int .i64 ct, .int .i64 0, .int .i64 n] 49)
  have hwW := hk1.size
  clear hr hr0 hct hctn hrk hk1 HH
  go_upto_region 2 with (fail)
  generalize w1.alloc (.cells #[.int .i64 pid, .int .i64 mdl, .int .i64 ct, .int .i64 0, .int .i64 n] 49) = w2 at *
  generalize w1.heap.size = hb at *
  obtain ⟨c0, c1, c2, c3, c4, hbl, _⟩ := hd.cells
  have hpb2 : Bs W (.slice Ap pd.length capp) pd := by rw [Hpl.out]; exact Hpb.out
  have htx := text_any (bs_kp hpb2 hk2) (by rw [Hpl.out]; omega) n (by omega)
  rw [Hpl.out] at htx
  have Htx := Lib.hid htx
  have Hd := Lib.hid hd
  have Hk2 := Lib.hid hk2
  clear hd hk2 htx hpb2
  go_wp2_with fail
  with_reducible refine (Htx.out).mono ?_
  rintro e w3 ⟨vb, B, rfl, hBl, hrow, hk3⟩
  obtain ⟨Ab, cb0, rfl⟩ := hrow.form
  have hcapb := row_capL hrow
  have Hrow := Lib.hid hrow
  have HBs := Lib.hid (hrow.src (encB_one _))
  have HBl := Lib.hid hBl
  have Hd3 := Lib.hid (Hd.out.kp hk3 (fun h => h))
  have Hk3 := Lib.hid (Hk2.out.trans hk3)
  have hw23 := hk3.size
  clear hBl hrow hk3 c0 c1 c2 c3 c4 Hd Hk2 Htx
  obtain ⟨c0, c1, c2, c3, c4, hbl3, _⟩ := Hd3.out.cells
  have Hnew := Lib.hid (r_new [hb] pid mdl ct 0 n w3 (fun x hx => by simp at hx; subst hx; exact hbl3) Hr.out)
  go_wp2_with fail
  with_reducible refine (Hnew.out).mono ?_
  rintro e w4 ⟨g, gb, rfl, hF, hg, hgb, hk4⟩
  have Hd4 := Lib.hid (Hd3.out.kp hk4 (fun h => h))
  have HF4 := Lib.hid hF
  have HB4 := Lib.hid (hk4.src HBs.out (fun _ _ h => h))
  have Hk4 := Lib.hid (Hk3.out.trans hk4)
  have hgW : W.heap.size ≤ g := by have := Hk3.out.size; omega
  have hgbW : W.heap.size ≤ gb := by have := Hk3.out.size; omega
  have hAbg : ∀ k, (Value.slice Ab n cb0).ownBlock = some k → k < g ∧ k < gb := fun k hk => by have := (Hrow.out.lt k hk).2; omega
  have HAbg := Lib.hid hAbg
  have hbg : hb < g ∧ hb < gb := by omega
  clear hF hk4 c0 c1 c2 c3 c4 hAbg Hnew Hd3 HBs Hk3 Hrow hg hgb
  have Hkn := Lib.hid (known19 w4)
  go_wp2_with fail
  with_reducible refine (Hkn.out).mono ?_
  rintro e w5 ⟨rfl, hk5⟩
  have hmk := fun w => make_bo ct (by omega) w
  have Hd5 := Lib.hid (Hd4.out.kp hk5 (fun h => h))
  have HF5 := Lib.hid (HF4.out.no hk5)
  have HB5 := Lib.hid (hk5.src HB4.out (fun _ _ h => h))
  have Hk5 := Lib.hid (Hk4.out.trans hk5)
  clear hk5 Hd4 HF4 HB4 Hk4 Hkn
  obtain ⟨c0, c1, c2, c3, c4, hbl5, _⟩ := Hd5.out.cells
  have hka : Kp (fun _ => False) w5 (w5.alloc (.cells (boolA (List.replicate ct false)) 4)) := (Kp.refl _ w5).alloc _
  have hcw : Whole (w5.alloc (.cells (boolA (List.replicate ct false)) 4)) w5.heap.size 4 (boolA (List.replicate ct false)) := Whole.new _ _ _
  have HF6 := Lib.hid (HF5.out.alloc (.cells (boolA (List.replicate ct false)) 4))
  have Hd6 := Lib.hid (Hd5.out.kp hka (fun h => h))
  have HB6 := Lib.hid (hka.src HB5.out (fun _ _ h => h))
  have Hk6 := Lib.hid (Hk5.out.trans hka)
  have HC6 := Lib.hid hcw
  have hgl := HF5.out.lt
  have hlt5 := HB5.out
  clear hka hcw hlt5
  obtain ⟨b0, hb0⟩ : ∃ b0, b0 = List.replicate ct false := ⟨_, rfl⟩
  rw [← hb0] at HF6 Hd6 HB6 Hk6 HC6
  simp only [← hb0] at hmk
  have Hb0 := Lib.hid hb0
  clear hb0
  go_upto_region 7 with (fail)
  generalize w5.alloc (.cells (boolA b0) 4) = w6 at *
  have hhc : hb < w5.heap.size ∧ g < w5.heap.size ∧ gb < w5.heap.size := ⟨hbl5, hgl.1, hgl.2.1⟩
  have hcW : W.heap.size ≤ w5.heap.size := Hk5.out.size
  generalize w5.heap.size = cb at *
  clear c0 c1 c2 c3 c4 hbl5 hgl hmk HF5 HB5 Hd5 Hk5 hbl3 hbl
  go_wp2_with fail
  go_loopw [15, 16] (fun vn vi wr => ∃ (i c : Nat) (bs : List Bool) (L : List Pr) (d : List UInt8), i ≤ len + ct ∧ vi = .int .i64 i ∧ vn = .int .i64 c ∧ c ≤ 8 ∧ Hid (bs.length = ct) ∧ Hid (cB (fun k => L.any (hasP (k : Int))) 8 = c) ∧ Hid (∀ k : Nat, InL L (k : Int) ↔ bs[k]? = some true) ∧ Hid (Good B d n L) ∧ Hid (∀ k : Nat, len + k < i → InL L (k : Int)) ∧
      Hid (HasFr wr [cb, hb] g gb pid mdl ct n L d) ∧ Hid (Whole wr cb 4 (boolA bs)) ∧ Hid (HdAt wr hb pid mdl ct 0 n) ∧ Hid (Src wr 1 (.slice Ab n cb0) n (encB B)) ∧ Kp (fun _ => False) W wr)
    (fun _ vi _ => len + ct - (intOf vi).toNat)
  case atStart =>
    exact ⟨0, 0, b0, [], zeros n, by omega, rfl, rfl, by omega, Lib.hid (by rw [Hb0.out]; simp), Lib.hid (by decide), Lib.hid (fun k => ⟨fun h => absurd h (inl_nil _), fun h => absurd h (by rw [Hb0.out, List.getElem?_replicate]; split <;> simp)⟩), Lib.hid (good_nil _ _ _), Lib.hid (fun k h => by omega), HF6, HC6, Hd6, HB6, Hk6.out⟩
  case round =>
    obtain ⟨i, c, bs, L, d, hi, rfl, rfl, hc8, Hbl, Hcc, HI, HG, Hdone, HF, HC, HD, HB, hkp⟩ := hrel
    obtain ⟨c0, c1, c2, c3, c4, hbl, _⟩ := HD.out.cells
    by_cases hlt : i < len + ct
    · have t0 : (i : Int) < (len : Int) + (ct : Int) := by omega
      have hx := HdAt.new wr pid mdl ct 0 n
      have hkx : Kp (fun _ => False) wr (wr.alloc (.cells #[.int .i64 pid, .int .i64 mdl, .int .i64 ct, .int .i64 0, .int .i64 n] 49)) := (Kp.refl _ wr).alloc _
      have HF7 := Lib.hid (HF.out.alloc (.cells #[.int .i64 pid, .int .i64 mdl, .int .i64 ct, .int .i64 0, .int .i64 n] 49))
      have HC7 := Lib.hid (hkx.whole HC.out (fun h => h))
      have HD7 := Lib.hid (HD.out.kp hkx (fun h => h))
      have HB7 := Lib.hid (hkx.src HB.out (fun _ _ h => h))
      have Hk7 := Lib.hid (hkp.trans hkx)
      have HX7 := Lib.hid hx
      have HFd := Lib.hid HF.out.len
      have hcl := HC.out.lt
      have hWr := hkp.size
      clear hx hkx HF HC HD HB hkp
      go_upto_region 12 with (fail)
      generalize wr.alloc (.cells #[.int .i64 pid, .int .i64 mdl, .int .i64 ct, .int .i64 0, .int .i64 n] 49) = w7 at *
      have hxc : cb < wr.heap.size ∧ hb < wr.heap.size := ⟨hcl, hbl⟩
      generalize wr.heap.size = xb at *
      clear c0 c1 c2 c3 c4 hbl
      obtain ⟨c0, c1, c2, c3, c4, hbl, _⟩ := HD7.out.cells
      obtain ⟨x0', x1', x2', x3', x4', hxl, xf⟩ := HX7.out.cells
      go_upto_if 50 with (fail)
      go_cut [] (fun wx => ∃ k : Nat, k < ct ∧ Hid (len ≤ i → i = len + k) ∧ Hid (HdAt wx xb pid mdl ct k n) ∧ Hid (Kp (fun j => j = xb) w7 wx))
      case first =>
        by_cases hil : i < len
        · rcases Hc.out with h0 | ⟨blk, off, rfl, hblk, hcell⟩
          · omega
          · obtain ⟨u0, hu0, y, rfl, l0, g0⟩ := hcell i hil 0 RdI rfl
            clear hcell
            rw [← Hk7.out.cell (p := ⟨blk, _, none⟩) hblk (fun h => h)] at hu0
            simp only [List.length_cons, List.length_nil, Nat.zero_add, Nat.add_zero, Nat.mul_one] at hu0
            have hblr := Nat.lt_of_lt_of_le hblk Hk7.out.size
            obtain ⟨k, hk⟩ := Int.eq_ofNat_of_zero_le (pickF_lo y (ct : Int) (by omega))
            have hk2 := pickF_hi y (ct : Int) (by omega)
            have HP := Lib.hid (fun w => pick_any y (ct : Int) w (by omega) (by omega))
            rw [hk] at HP
            have hkc : k < ct := by omega
            have tl0 : (0 : Int) ≤ (i : Int) := by omega
            have tl1 : (i : Int) < (len : Int) := by omega
            have hblr7 := Nat.lt_of_lt_of_le hblk Hk7.out.size
            have ne1 : blk ≠ xb := by omega
            have ne2 : hb ≠ xb := by omega
            clear hk hk2
            go_wp2_with fail
            go_region_held3 (fun w' => w'.cell? ⟨blk, off + i, none⟩ = some (.int .i64 y) ∧ w'.cell? ⟨hb, 2, none⟩ = some (.int .i64 ct) ∧ Kp (fun j => j = xb) w7 w') (exact kk2 hblr7 ne1 hu0 hbl ne2 c2 (by ((repeat (first | assumption | (with_reducible exact Kp.refl _ _) | with_reducible apply Kp.drew | refine Kp.set (S := fun j => j = xb) ?_ (p := ⟨xb, 3, none⟩) (.inl rfl) _)); done)))
              (first | (go_at_call 11; (with_reducible refine (HP.out _).mono ?_); rintro e w' ⟨rfl, rfl⟩))
            all_goals
              go_wp2_with fail
              go_meet
              case rel => exact ⟨k, hkc, Lib.hid (fun h => by omega), Lib.hid (Whole.drew (HX7.out.ix _)), Lib.hid (Kp.drew (Kp.set (S := fun j => j = xb) (Kp.refl _ w7) (p := ⟨xb, 3, none⟩) (.inl rfl) _))⟩
        · have tl : ¬ (i : Int) < (len : Int) := by omega
          go_wp2_with fail
          go_meet
          case rel =>
            refine ⟨i - len, by omega, Lib.hid (fun h => by omega), Lib.hid ?_, Lib.hid (Kp.set (S := fun j => j = xb) (Kp.refl _ w7) (p := ⟨xb, 3, none⟩) (.inl rfl) _)⟩
            rw [show (i : Int) - (len : Int) = ((i - len : Nat) : Int) by omega]
            exact HX7.out.ix _
      case rest =>
      obtain ⟨k, hkc, Hik, HX8, Hkx⟩ := hcut
      generalize wc = w8 at *
      have hAb : ∀ j, (Value.slice Ab n cb0).ownBlock = some j → j ≠ xb ∧ j ≠ cb := fun j hj => by have := HAbg.out j hj; omega
      have HF8 := Lib.hid (HF7.out.beside (Hkx.out.mono (S' := fun j => j ∈ [xb, cb, hb]) (fun j _ e => by simp [e])))
      have HC8 := Lib.hid (Hkx.out.whole HC7.out (show ¬ cb = xb by omega))
      have HD8 := Lib.hid (HD7.out.kp Hkx.out (show ¬ hb = xb by omega))
      have HB8 := Lib.hid (Hkx.out.src HB7.out (fun j hj e => (hAb j hj).1 e))
      have Hk8 := Lib.hid ((Hk7.out.no.trans Hkx.out).mono (S' := fun _ => False) (fun j hj e => by omega))
      have HAb := Lib.hid hAb
      clear HF7 HC7 HD7 HB7 Hk7 HX7 Hkx c0 c1 c2 c3 c4 hbl x0' x1' x2' x3' x4' hxl xf hAb
      obtain ⟨x0', x1', x2', x3', x4', hxl, xf⟩ := HX8.out.cells
      obtain ⟨m, hm⟩ : ∃ m : Nat, m = min 80 (n - k * 80) := ⟨_, rfl⟩
      have hkn := (Hctn.out k).1 hkc
      have hm1 : 1 ≤ m := by omega
      have hpart := fun (w' : World) (hk' : Kp (fun _ => False) w8 w') => part_yes (Hrk.out k hkc) (hk'.src HB8.out (fun _ _ h => h)) hcapb.1 hcapb.2 hm
      have Hpart := Lib.hid hpart
      obtain ⟨dd, hdd⟩ : ∃ dd, dd = (if L.any (hasP (k : Int)) = true then d else putD d (k * 80) (pieceD B k m)) := ⟨_, rfl⟩
      have hput := fun (w' : World) (hk' : Kp (fun _ => False) w8 w') (A' : Option Addr) (hs : Src w' 1 (.slice A' m m) m (encB (pieceD B k m))) (hA : A' ≠ none) => r_put (HF8.out.no hk') k (by omega) hs (by omega) hA
      rw [← hdd] at hput
      have Hput := Lib.hid hput
      have Hdd := Lib.hid hdd
      have Hm := Lib.hid hm
      clear hpart hput hdd hm
      have hkd : Kp (fun _ => False) w8 w8.drew := (Kp.refl _ w8).drew
      have ngx : xb ≠ g := by omega
      have ngx2 : xb ≠ gb := by omega
      go_upto_region 15 with (fail)
      go_cut [70] (fun v70 wx => v70 = .bool false ∧ ∃ L', Hid (HasFr wx [xb, cb, hb] g gb pid mdl ct n L' dd) ∧ Hid (∀ j, InL L' j ↔ InL L j ∨ j = k) ∧ Hid (Kp (fun j => j = g ∨ j = gb) w8 wx))
      case first =>
        go_region_held3 (fun w' => w'.cell? ⟨xb, 0, none⟩ = some (.int .i64 pid) ∧ w'.cell? ⟨xb, 1, none⟩ = some (.int .i64 mdl) ∧ w'.cell? ⟨xb, 2, none⟩ = some (.int .i64 ct) ∧ w'.cell? ⟨xb, 3, none⟩ = some (.int .i64 k) ∧ w'.cell? ⟨xb, 4, none⟩ = some (.int .i64 n)) (first | go_keep | exact (HX8.out.kp (S := fun j => j = g ∨ j = gb) (by assumption) (fun e => e.elim ngx ngx2)).five | exact (HX8.out.kp (S := fun _ => False) (by assumption) (fun e => e)).five)
          (first
            | (go_at_call 40; (with_reducible refine (Hpart.out _ (by ((repeat (first | assumption | (with_reducible exact Kp.refl _ _) | with_reducible apply Kp.drew)); done))).mono ?_); rintro e w' ⟨A', rfl, hrp, hkp⟩; obtain ⟨rg, roff, rcap, hrv, _, _, _, _, _, _⟩ := hrp.full hm1; cases hrv; have hsp := hrp.src (encB_one _); have hkq : Kp (fun _ => False) w8 w' := Kp.trans (by ((repeat (first | assumption | (with_reducible exact Kp.refl _ _) | with_reducible apply Kp.drew)); done)) hkp; clear hrp hkp)
            | (go_at_call 28; (with_reducible refine (Hput.out _ (by ((repeat (first | assumption | (with_reducible exact Kp.refl _ _) | with_reducible apply Kp.drew)); done)) _ hsp (by simp)).mono ?_); rintro e w' ⟨rfl, L', hF9, hI9, hk9⟩; have hkr : Kp (fun j => j = g ∨ j = gb) w8 w' := Kp.trans (Kp.no (by ((repeat (first | assumption | (with_reducible exact Kp.refl _ _) | with_reducible apply Kp.drew)); done))) hk9; clear hk9))
        all_goals
          go_wp2_with fail
          go_meet
          case rel => exact ⟨rfl, L', Lib.hid hF9, Lib.hid hI9, Lib.hid hkr⟩
      case rest =>
      obtain ⟨rfl, L', HF9, HI9, Hkr⟩ := hcut
      generalize wc = w9 at *
      have hF9 := HF9.out.mono (F' := [cb, hb]) (fun x hx => by simp at hx ⊢; exact .inr hx)
      have ncg : ¬ (cb = g ∨ cb = gb) := by omega
      have nhg : ¬ (hb = g ∨ hb = gb) := by omega
      have HC9 := Lib.hid (Hkr.out.whole HC8.out ncg)
      have HD9 := Lib.hid (HD8.out.kp Hkr.out nhg)
      have HX9 := Lib.hid (HX8.out.kp Hkr.out (fun e => e.elim ngx ngx2))
      have HB9 := Lib.hid (Hkr.out.src HB8.out (fun j hj e => by have := HAbg.out j hj; rcases e with e | e <;> omega))
      have Hk9 := Lib.hid ((Hk8.out.no.trans Hkr.out).mono (S' := fun _ => False) (fun j hj e => by rcases e with e | e <;> omega))
      have HFm := Lib.hid hF9
      have HFd' := Lib.hid hF9.len
      have hG9 : Good B dd n L' := by
        rw [Hdd.out]
        exact good_put HG.out HFd.out HBl.out hkn Hm.out HI9.out
      have HG9 := Lib.hid hG9
      clear HF8 HC8 HD8 HB8 Hk8 HX8 Hkr hF9 hG9 HF9 hkd x0' x1' x2' x3' x4' hxl xf Hpart Hput
      obtain ⟨x0', x1', x2', x3', x4', hxl, xf⟩ := HX9.out.cells
      obtain ⟨x, hx⟩ : ∃ x, bs[k]? = some x := ⟨_, List.getElem?_eq_getElem (by rw [Hbl.out]; exact hkc)⟩
      have y0 := HC9.out.cell k
      rw [boolA_get, hx] at y0
      simp only [Option.map_some] at y0
      have hcl9 := HC9.out.lt
      have fc := HC9.out.frozen k
      have hkI : (k : Int) < (ct : Int) := by omega
      -- the count behind it
      obtain ⟨c', hc', hcc'⟩ : ∃ c' : Nat, cB (fun k => L'.any (hasP (k : Int))) 8 = c' ∧ c' = (if x = true then c else c + 1) := by
        refine ⟨_, rfl, ?_⟩
        cases x with
        | true =>
          rw [if_pos rfl, ← Hcc.out]
          refine cB_congr 8 (fun j _ => ?_)
          rw [Bool.eq_iff_iff, has_iff, has_iff, HI9.out]
          exact ⟨fun h => h.elim (fun h => h) (fun h => by rw [h]; exact (HI.out k).2 hx), .inl⟩
        | false =>
          rw [if_neg (by simp), ← Hcc.out]
          have hpk : L.any (hasP (k : Int)) = false := by
            rw [Bool.eq_false_iff]
            intro h
            have := (HI.out k).1 ((has_iff L _).1 h)
            rw [hx] at this
            cases this
          rw [cB_insert (p := fun k => L.any (hasP (k : Int))) (k := k) (fun j => by
            rw [Bool.eq_iff_iff, has_iff, HI9.out]
            simp only [Bool.or_eq_true, decide_eq_true_eq, has_iff]
            constructor <;> rintro (h | h)
            · exact .inl h
            · exact .inr (by omega)
            · exact .inl h
            · exact .inr (by omega)) hpk 8, if_pos (by omega)]
      have hI' : ∀ j : Nat, InL L' (j : Int) ↔ (bs.set k true)[j]? = some true := fun j => by
        rw [HI9.out, List.getElem?_set]
        by_cases hjk : k = j
        · subst hjk
          rw [if_pos rfl, if_pos (by rw [Hbl.out]; exact hkc)]
          exact ⟨fun _ => rfl, fun _ => .inr rfl⟩
        · rw [if_neg hjk, HI.out]
          exact ⟨fun h => h.elim (fun h => h) (fun h => by omega), .inl⟩
      have hbl' : (bs.set k true).length = ct := by rw [List.length_set]; exact Hbl.out
      have hcf := count_full (L := L') (bs := bs.set k true) (HFm.out.norm) (by omega) hbl' hI'
      rw [hc'] at hcf
      have hc8' : c' ≤ 8 := by rw [← hc']; exact cB_le _ 8
      have Hcf := Lib.hid hcf
      have HI' := Lib.hid hI'
      have Hbl' := Lib.hid hbl'
      have Hc' := Lib.hid hc'
      have Hcc' := Lib.hid hcc'
      have Hx := Lib.hid hx
      clear hcf hI' hbl' hc' hcc' hx
      go_upto_if 76 with (fail)
      go_cut [15] (fun v15 wx => v15 = .int .i64 c' ∧ wx = w9)
      case first =>
        cases x with
        | true =>
          have hcx : c' = c := by rw [Hcc'.out]; rfl
          go_wp2_with fail
          go_meet
          case rel => exact ⟨by rw [hcx], rfl⟩
        | false =>
          have hcx : c' = c + 1 := by rw [Hcc'.out]; rfl
          have HCX := Lib.hid hcx
          clear hcx
          go_wp2_with fail
          go_meet
          case rel => exact ⟨by rw [HCX.out]; go_num, rfl⟩
      case rest =>
      obtain ⟨rfl, rfl⟩ := hcut
      have hC10 := HC9.out.set k (.bool true)
      rw [boolA_set] at hC10
      have hks : Kp (fun j => j = cb) wc (wc.setCell ⟨cb, k, none⟩ (.bool true)) := Kp.set (S := fun j => j = cb) (Kp.refl _ wc) (p := ⟨cb, k, none⟩) (.inl rfl) _
      have HF10 := Lib.hid (HFm.out.beside (hks.mono (S' := fun j => j ∈ [cb, hb]) (fun j _ e => by simp [e])))
      have HD10 := Lib.hid (HD9.out.kp hks (show ¬ hb = cb by omega))
      have HB10 := Lib.hid (hks.src HB9.out (fun j hj e => (HAb.out j hj).2 e))
      have Hk10 := Lib.hid ((Hk9.out.no.trans hks).mono (S' := fun _ => False) (fun j hj e => by omega))
      have HC10 := Lib.hid hC10
      clear hC10 hks HFm HD9 HB9 Hk9 HC9 HX9
      go_upto_region 20 with (fail)
      generalize wc.setCell ⟨cb, k, none⟩ (.bool true) = w10 at *
      clear x0' x1' x2' x3' x4' hxl xf y0 fc hcl9
      obtain ⟨c0, c1, c2, c3, c4, hbl, _⟩ := HD10.out.cells
      have hcnt := fun (w' : World) (h : Kp (fun _ => False) w10 w') => r_count (HF10.out.no h)
      rw [Hc'.out] at hcnt
      have HCnt := Lib.hid hcnt
      have hcfe := Hcf.out
      have HCv := Lib.hid (fun (w' : World) (h : Kp (fun _ => False) w10 w') => conv_src HBl.out hn1 (h.src HB10.out (fun _ _ h => h)))
      have hkd : Kp (fun _ => False) w10 w10.drew := (Kp.refl _ w10).drew
      have hk0' := Kp.refl (fun _ => False) w10
      clear hcnt c0 c1 c3 c4
      go_cut [120] (fun v120 wx => v120 = .bool false ∧ Hid (Kp (fun _ => False) w10 wx))
      case first =>
        cases hf : fullB L' (ct : Int) with
        | true =>
          rw [hf] at hcfe
          have HFull := Lib.hid (fun (w' : World) (h : Kp (fun _ => False) w10 w') => r_full (HF10.out.no h) true hf)
          have hdB : dd = B := good_all HG9.out HFd'.out HBl.out (fun j hj => (full_iff HF10.out.norm (by omega) (by omega)).1 hf j (by have := (Hctn.out j).2 hj; omega))
          have hbyt := fun (w' : World) (h : Kp (fun _ => False) w10 w') => r_bytesY (HF10.out.no h) hf
          rw [hdB] at hbyt
          have HByt := Lib.hid hbyt
          clear hbyt hdB hf
          obtain ⟨sB, hsB⟩ : ∃ sB : ByteArray, (⟨B.toArray⟩ : ByteArray) = sB := ⟨_, rfl⟩
          rw [hsB] at HCv
          refine wp_region_held_drew (S := (fun w' => w'.cell? ⟨hb, 2, none⟩ = some (.int .i64 ct) ∧ Kp (fun _ => False) w10 w')) (by kernel_rfl) (kk1F hbl c2 hkd) (fun hHeld => ?_)
          refine wpAnyH_take (i := 0) (oi := { dst := some 83, op := Op.move (.tmp 13), type := _, pos := _, after := _, guard := _ }) (v := ?_) rfl (by kernel_rfl) (by kernel_rfl) (by kernel_rfl) (fun _ _ _ h => h) (Or.inl ⟨by rfl, ?_⟩) hHeld ?_
          rotate_left
          · intro w99 hSw
            first | (go_simp; done) | (go_simp; with_reducible rfl)
          try simp only [Act.put, List.setIfInBounds_toArray, List.set_cons_zero, List.set_cons_succ]
          refine wpAnyH_take (i := 2) (oi := { dst := some 85, op := Op.move (.tmp 15), type := _, pos := _, after := _, guard := _ }) (v := ?_) rfl (by kernel_rfl) (by kernel_rfl) (by kernel_rfl) (fun _ _ _ h => h) (Or.inl ⟨by rfl, ?_⟩) hHeld ?_
          rotate_left
          · intro w99 hSw
            first | (go_simp; done) | (go_simp; with_reducible rfl)
          try simp only [Act.put, List.setIfInBounds_toArray, List.set_cons_zero, List.set_cons_succ]
          refine wpAnyH_take (i := 3) (oi := { dst := some 86, op := Op.fieldAddr 49 (.tmp 11) 2, type := _, pos := _, after := _, guard := _ }) (v := ?_) rfl (by kernel_rfl) (by kernel_rfl) (by kernel_rfl) (fun _ _ _ h => h) (Or.inl ⟨by rfl, ?_⟩) hHeld ?_
          rotate_left
          · intro w99 hSw
            first | (go_simp; done) | (go_simp; with_reducible rfl)
          try simp only [Act.put, List.setIfInBounds_toArray, List.set_cons_zero, List.set_cons_succ]
          refine wpAnyH_take (i := 4) (oi := { dst := some 87, op := Op.load 3 (.tmp 86), type := _, pos := _, after := _, guard := _ }) (v := ?_) rfl (by kernel_rfl) (by kernel_rfl) (by kernel_rfl) (fun _ _ _ h => h) (Or.inl ⟨by rfl, ?_⟩) hHeld ?_
          rotate_left
          · intro w99 hSw
            first | (go_simp; done) | (go_simp; with_reducible rfl)
          try simp only [Act.put, List.setIfInBounds_toArray, List.set_cons_zero, List.set_cons_succ]
          refine wpAnyH_take (i := 5) (oi := { dst := some 88, op := Op.binOp BinOp.eql 3 (.tmp 85) (.tmp 87) 3, type := _, pos := _, after := _, guard := _ }) (v := ?_) rfl (by kernel_rfl) (by kernel_rfl) (by kernel_rfl) (fun _ _ _ h => h) (Or.inl ⟨by rfl, ?_⟩) hHeld ?_
          rotate_left
          · intro w99 hSw
            first | (go_simp; done) | (go_simp; with_reducible rfl)
          try simp only [Act.put, List.setIfInBounds_toArray, List.set_cons_zero, List.set_cons_succ]
          refine wpAnyH_ready (rs := [1]) (by kernel_rfl) (by simp) (AllReadyH.cons (o := { dst := some 84, op := Op.call { callee := Callee.value (Operand.func 37), args := #[(.tmp 83)], argTypes := #[51] }, type := _, pos := _, after := _, guard := _ }) rfl (fun K hK => ?_) AllReadyH.nil)
          go_simp
          with_reducible refine (HFull.out _ hHeld.2).mono ?_
          rintro e w' ⟨rfl, hkh⟩
          go_wp2_with fail
          have hx9 := kk1F hbl c2 (hHeld.2.trans hkh)
          refine hK.out _ _ hx9 (fun _ => ?_)
          clear hK hHeld
          have hHeld := hx9
          clear hx9
          clear hkh
          generalize w' = wd1 at *
          try simp only [Act.put, List.setIfInBounds_toArray, List.set_cons_zero, List.set_cons_succ]
          refine wpAnyH_take (i := 6) (oi := { dst := some 89, op := Op.binOp BinOp.neq 4 (.tmp 84) (.tmp 88) 4, type := _, pos := _, after := _, guard := _ }) (v := ?_) rfl (by kernel_rfl) (by kernel_rfl) (by kernel_rfl) (fun _ _ _ h => h) (Or.inl ⟨by rfl, ?_⟩) hHeld ?_
          rotate_left
          · intro w99 hSw
            first | (go_simp; done) | (go_simp; with_reducible rfl)
          try simp only [Act.put, List.setIfInBounds_toArray, List.set_cons_zero, List.set_cons_succ]
          refine wpAnyH_take (i := 7) (oi := { dst := some 90, op := Op.move (.tmp 89), type := _, pos := _, after := _, guard := _ }) (v := ?_) rfl (by kernel_rfl) (by kernel_rfl) (by kernel_rfl) (fun _ _ _ h => h) (Or.inl ⟨by rfl, ?_⟩) hHeld ?_
          rotate_left
          · intro w99 hSw
            first | (go_simp; done) | (go_simp; with_reducible rfl)
          try simp only [Act.put, List.setIfInBounds_toArray, List.set_cons_zero, List.set_cons_succ]
          refine wpAnyH_take (i := 8) (oi := { dst := some 91, op := Op.move (.tmp 13), type := _, pos := _, after := _, guard := _ }) (v := ?_) rfl (by kernel_rfl) (by kernel_rfl) (by kernel_rfl) (fun _ _ _ h => h) (Or.inl ⟨by rfl, ?_⟩) hHeld ?_
          rotate_left
          · intro w99 hSw
            first | (go_simp; done) | (go_simp; with_reducible rfl)
          try simp only [Act.put, List.setIfInBounds_toArray, List.set_cons_zero, List.set_cons_succ]
          refine wpAnyH_take (i := 9) (oi := { dst := some 92, op := Op.nilCheck (.tmp 91), type := _, pos := _, after := _, guard := _ }) (v := ?_) rfl (by kernel_rfl) (by kernel_rfl) (by kernel_rfl) (fun _ _ _ h => h) (Or.inl ⟨by rfl, ?_⟩) hHeld ?_
          rotate_left
          · intro w99 hSw
            first | (go_simp; done) | (go_simp; with_reducible rfl)
          try simp only [Act.put, List.setIfInBounds_toArray, List.set_cons_zero, List.set_cons_succ]
          refine wpAnyH_take (i := 10) (oi := { dst := some 93, op := Op.fieldAddr 63 (.tmp 92) 0, type := _, pos := _, after := _, guard := _ }) (v := ?_) rfl (by kernel_rfl) (by kernel_rfl) (by kernel_rfl) (fun _ _ _ h => h) (Or.inl ⟨by rfl, ?_⟩) hHeld ?_
          rotate_left
          · intro w99 hSw
            first | (go_simp; done) | (go_simp; with_reducible rfl)
          try simp only [Act.put, List.setIfInBounds_toArray, List.set_cons_zero, List.set_cons_succ]
          refine wpAnyH_take (i := 12) (oi := { dst := some 95, op := Op.move (.tmp 15), type := _, pos := _, after := _, guard := _ }) (v := ?_) rfl (by kernel_rfl) (by kernel_rfl) (by kernel_rfl) (fun _ _ _ h => h) (Or.inl ⟨by rfl, ?_⟩) hHeld ?_
          rotate_left
          · intro w99 hSw
            first | (go_simp; done) | (go_simp; with_reducible rfl)
          try simp only [Act.put, List.setIfInBounds_toArray, List.set_cons_zero, List.set_cons_succ]
          refine wpAnyH_ready (rs := [11]) (by kernel_rfl) (by simp) (AllReadyH.cons (o := { dst := some 94, op := Op.call { callee := Callee.value (Operand.func 21), args := #[(.tmp 93)], argTypes := #[27] }, type := _, pos := _, after := _, guard := _ }) rfl (fun K hK => ?_) AllReadyH.nil)
          go_simp
          with_reducible refine (HCnt.out _ hHeld.2).mono ?_
          rintro e w' ⟨rfl, hkh⟩
          go_wp2_with fail
          have hx9 := kk1F hbl c2 (hHeld.2.trans hkh)
          refine hK.out _ _ hx9 (fun _ => ?_)
          clear hK hHeld
          have hHeld := hx9
          clear hx9
          clear hkh
          generalize w' = wd11 at *
          try simp only [Act.put, List.setIfInBounds_toArray, List.set_cons_zero, List.set_cons_succ]
          refine wpAnyH_take (i := 13) (oi := { dst := some 96, op := Op.binOp BinOp.neq 3 (.tmp 94) (.tmp 95) 3, type := _, pos := _, after := _, guard := _ }) (v := ?_) rfl (by kernel_rfl) (by kernel_rfl) (by kernel_rfl) (fun _ _ _ h => h) (Or.inl ⟨by rfl, ?_⟩) hHeld ?_
          rotate_left
          · intro w99 hSw
            first | (go_simp; done) | (go_simp; with_reducible rfl)
          try simp only [Act.put, List.setIfInBounds_toArray, List.set_cons_zero, List.set_cons_succ]
          refine wpAnyH_take (i := 14) (oi := { dst := some 97, op := Op.pick (.tmp 90) (.const (Value.bool true)) (.tmp 96), type := _, pos := _, after := _, guard := _ }) (v := ?_) rfl (by kernel_rfl) (by kernel_rfl) (by kernel_rfl) (fun _ _ _ h => h) (Or.inl ⟨by rfl, ?_⟩) hHeld ?_
          rotate_left
          · intro w99 hSw
            first | (go_simp; done) | (go_simp; with_reducible rfl)
          try simp only [Act.put, List.setIfInBounds_toArray, List.set_cons_zero, List.set_cons_succ]
          refine wpAnyH_take (i := 15) (oi := { dst := some 98, op := Op.move (.tmp 97), type := _, pos := _, after := _, guard := _ }) (v := ?_) rfl (by kernel_rfl) (by kernel_rfl) (by kernel_rfl) (fun _ _ _ h => h) (Or.inl ⟨by rfl, ?_⟩) hHeld ?_
          rotate_left
          · intro w99 hSw
            first | (go_simp; done) | (go_simp; with_reducible rfl)
          try simp only [Act.put, List.setIfInBounds_toArray, List.set_cons_zero, List.set_cons_succ]
          refine wpAnyH_take (i := 16) (oi := { dst := some 99, op := Op.move (.tmp 13), type := _, pos := _, after := _, guard := _ }) (v := ?_) rfl (by kernel_rfl) (by kernel_rfl) (by kernel_rfl) (fun _ _ _ h => h) (Or.inl ⟨by rfl, ?_⟩) hHeld ?_
          rotate_left
          · intro w99 hSw
            first | (go_simp; done) | (go_simp; with_reducible rfl)
          try simp only [Act.put, List.setIfInBounds_toArray, List.set_cons_zero, List.set_cons_succ]
          refine wpAnyH_ready (rs := [17]) (by kernel_rfl) (by simp) (AllReadyH.cons (o := { dst := some 100, op := Op.call { callee := Callee.value (Operand.func 37), args := #[(.tmp 99)], argTypes := #[51] }, type := _, pos := _, after := _, guard := _ }) rfl (fun K hK => ?_) AllReadyH.nil)
          go_simp
          with_reducible refine (HFull.out _ hHeld.2).mono ?_
          rintro e w' ⟨rfl, hkh⟩
          go_wp2_with fail
          have hx9 := kk1F hbl c2 (hHeld.2.trans hkh)
          refine hK.out _ _ hx9 (fun _ => ?_)
          clear hK hHeld
          have hHeld := hx9
          clear hx9
          clear hkh
          generalize w' = wd17 at *
          try simp only [Act.put, List.setIfInBounds_toArray, List.set_cons_zero, List.set_cons_succ]
          refine wpAnyH_take (i := 18) (oi := { dst := some 101, op := Op.unOp UnOp.not 4 (.tmp 100), type := _, pos := _, after := _, guard := _ }) (v := ?_) rfl (by kernel_rfl) (by kernel_rfl) (by kernel_rfl) (fun _ _ _ h => h) (Or.inl ⟨by rfl, ?_⟩) hHeld ?_
          rotate_left
          · intro w99 hSw
            first | (go_simp; done) | (go_simp; with_reducible rfl)
          try simp only [Act.put, List.setIfInBounds_toArray, List.set_cons_zero, List.set_cons_succ]
          refine wpAnyH_take (i := 19) (oi := { dst := some 102, op := Op.move (.tmp 101), type := _, pos := _, after := _, guard := _ }) (v := ?_) rfl (by kernel_rfl) (by kernel_rfl) (by kernel_rfl) (fun _ _ _ h => h) (Or.inl ⟨by rfl, ?_⟩) hHeld ?_
          rotate_left
          · intro w99 hSw
            first | (go_simp; done) | (go_simp; with_reducible rfl)
          try simp only [Act.put, List.setIfInBounds_toArray, List.set_cons_zero, List.set_cons_succ]
          refine wpAnyH_take (i := 20) (oi := { dst := some 103, op := Op.move (.tmp 13), type := _, pos := _, after := _, guard := _ }) (v := undef) rfl (by kernel_rfl) (by kernel_rfl) (by kernel_rfl) (fun _ _ _ h => h) (Or.inr ⟨by rfl, rfl⟩) hHeld ?_
          try simp only [Act.put, List.setIfInBounds_toArray, List.set_cons_zero, List.set_cons_succ]
          refine wpAnyH_ready (rs := [21]) (by kernel_rfl) (by simp) (AllReadyH.cons (o := { dst := some 104, op := Op.call { callee := Callee.value (Operand.func 29), args := #[(.tmp 103)], argTypes := #[51] }, type := _, pos := _, after := _, guard := _ }) rfl (fun K hK => ?_) AllReadyH.nil)
          go_simp
          refine hK.out _ _ hHeld (fun _ => ?_)
          clear hK
          try simp only [Act.put, List.setIfInBounds_toArray, List.set_cons_zero, List.set_cons_succ]
          refine wpAnyH_take (i := 22) (oi := { dst := some 105, op := Op.call { callee := Callee.builtin Builtin.len, args := #[(.tmp 104)], argTypes := #[54] }, type := _, pos := _, after := _, guard := _ }) (v := undef) rfl (by kernel_rfl) (by kernel_rfl) (by kernel_rfl) (fun _ _ _ h => h) (Or.inr ⟨by rfl, rfl⟩) hHeld ?_
          try simp only [Act.put, List.setIfInBounds_toArray, List.set_cons_zero, List.set_cons_succ]
          refine wpAnyH_take (i := 23) (oi := { dst := some 106, op := Op.binOp BinOp.gtr 3 (.tmp 105) (.const (.int .i64 0)) 3, type := _, pos := _, after := _, guard := _ }) (v := undef) rfl (by kernel_rfl) (by kernel_rfl) (by kernel_rfl) (fun _ _ _ h => h) (Or.inr ⟨by rfl, rfl⟩) hHeld ?_
          try simp only [Act.put, List.setIfInBounds_toArray, List.set_cons_zero, List.set_cons_succ]
          refine wpAnyH_take (i := 24) (oi := { dst := some 107, op := Op.pick (.tmp 102) (.tmp 106) (.const (Value.bool false)), type := _, pos := _, after := _, guard := _ }) (v := ?_) rfl (by kernel_rfl) (by kernel_rfl) (by kernel_rfl) (fun _ _ _ h => h) (Or.inl ⟨by rfl, ?_⟩) hHeld ?_
          rotate_left
          · intro w99 hSw
            first | (go_simp; done) | (go_simp; with_reducible rfl)
          try simp only [Act.put, List.setIfInBounds_toArray, List.set_cons_zero, List.set_cons_succ]
          refine wpAnyH_take (i := 25) (oi := { dst := some 108, op := Op.pick (.tmp 98) (.const (Value.bool true)) (.tmp 107), type := _, pos := _, after := _, guard := _ }) (v := ?_) rfl (by kernel_rfl) (by kernel_rfl) (by kernel_rfl) (fun _ _ _ h => h) (Or.inl ⟨by rfl, ?_⟩) hHeld ?_
          rotate_left
          · intro w99 hSw
            first | (go_simp; done) | (go_simp; with_reducible rfl)
          try simp only [Act.put, List.setIfInBounds_toArray, List.set_cons_zero, List.set_cons_succ]
          refine wpAnyH_take (i := 26) (oi := { dst := some 109, op := Op.move (.tmp 108), type := _, pos := _, after := _, guard := _ }) (v := ?_) rfl (by kernel_rfl) (by kernel_rfl) (by kernel_rfl) (fun _ _ _ h => h) (Or.inl ⟨by rfl, ?_⟩) hHeld ?_
          rotate_left
          · intro w99 hSw
            first | (go_simp; done) | (go_simp; with_reducible rfl)
          try simp only [Act.put, List.setIfInBounds_toArray, List.set_cons_zero, List.set_cons_succ]
          refine wpAnyH_take (i := 27) (oi := { dst := some 110, op := Op.move (.tmp 13), type := _, pos := _, after := _, guard := _ }) (v := ?_) rfl (by kernel_rfl) (by kernel_rfl) (by kernel_rfl) (fun _ _ _ h => h) (Or.inl ⟨by rfl, ?_⟩) hHeld ?_
          rotate_left
          · intro w99 hSw
            first | (go_simp; done) | (go_simp; with_reducible rfl)
          try simp only [Act.put, List.setIfInBounds_toArray, List.set_cons_zero, List.set_cons_succ]
          refine wpAnyH_ready (rs := [28]) (by kernel_rfl) (by simp) (AllReadyH.cons (o := { dst := some 111, op := Op.call { callee := Callee.value (Operand.func 37), args := #[(.tmp 110)], argTypes := #[51] }, type := _, pos := _, after := _, guard := _ }) rfl (fun K hK => ?_) AllReadyH.nil)
          go_simp
          with_reducible refine (HFull.out _ hHeld.2).mono ?_
          rintro e w' ⟨rfl, hkh⟩
          go_wp2_with fail
          have hx9 := kk1F hbl c2 (hHeld.2.trans hkh)
          refine hK.out _ _ hx9 (fun _ => ?_)
          clear hK hHeld
          have hHeld := hx9
          clear hx9
          clear hkh
          generalize w' = wd28 at *
          try simp only [Act.put, List.setIfInBounds_toArray, List.set_cons_zero, List.set_cons_succ]
          refine wpAnyH_take (i := 29) (oi := { dst := some 112, op := Op.move (.tmp 111), type := _, pos := _, after := _, guard := _ }) (v := ?_) rfl (by kernel_rfl) (by kernel_rfl) (by kernel_rfl) (fun _ _ _ h => h) (Or.inl ⟨by rfl, ?_⟩) hHeld ?_
          rotate_left
          · intro w99 hSw
            first | (go_simp; done) | (go_simp; with_reducible rfl)
          try simp only [Act.put, List.setIfInBounds_toArray, List.set_cons_zero, List.set_cons_succ]
          refine wpAnyH_take (i := 30) (oi := { dst := some 113, op := Op.move (.tmp 13), type := _, pos := _, after := _, guard := _ }) (v := ?_) rfl (by kernel_rfl) (by kernel_rfl) (by kernel_rfl) (fun _ _ _ h => h) (Or.inl ⟨by rfl, ?_⟩) hHeld ?_
          rotate_left
          · intro w99 hSw
            first | (go_simp; done) | (go_simp; with_reducible rfl)
          try simp only [Act.put, List.setIfInBounds_toArray, List.set_cons_zero, List.set_cons_succ]
          refine wpAnyH_take (i := 33) (oi := { dst := some 116, op := Op.move (.tmp 12), type := _, pos := _, after := _, guard := _ }) (v := ?_) rfl (by kernel_rfl) (by kernel_rfl) (by kernel_rfl) (fun _ _ _ h => h) (Or.inl ⟨by rfl, ?_⟩) hHeld ?_
          rotate_left
          · intro w99 hSw
            first | (go_simp; done) | (go_simp; with_reducible rfl)
          try simp only [Act.put, List.setIfInBounds_toArray, List.set_cons_zero, List.set_cons_succ]
          refine wpAnyH_take (i := 34) (oi := { dst := some 117, op := Op.convert 54 9 (.tmp 116), type := _, pos := _, after := _, guard := _ }) (v := ?_) rfl (by kernel_rfl) (by kernel_rfl) (by kernel_rfl) (fun _ _ _ h => h) (Or.inl ⟨by rfl, ?_⟩) hHeld ?_
          rotate_left
          · intro w99 hSw
            have cv2 := HCv.out w99 hSw.2; first | (go_simp; done) | (go_simp; with_reducible rfl)
          try simp only [Act.put, List.setIfInBounds_toArray, List.set_cons_zero, List.set_cons_succ]
          refine wpAnyH_ready (rs := [31]) (by kernel_rfl) (by simp) (AllReadyH.cons (o := { dst := some 114, op := Op.call { callee := Callee.value (Operand.func 29), args := #[(.tmp 113)], argTypes := #[51] }, type := _, pos := _, after := _, guard := _ }) rfl (fun K hK => ?_) AllReadyH.nil)
          go_simp
          with_reducible refine (HByt.out _ hHeld.2).mono ?_
          rintro e w' ⟨A', rfl, hrp, hkh⟩
          go_wp2_with fail
          have hx9 := kk1F hbl c2 (hHeld.2.trans hkh)
          refine hK.out _ _ hx9 (fun _ => ?_)
          clear hK hHeld
          have hHeld := hx9
          clear hx9
          obtain ⟨rg, roff, rcap, hrv, _, _, _, _, _, hrc⟩ := hrp.full hn1
          cases hrv
          have cv1 := conv_row (w := w') (c := n) HBl.out hrc
          rw [hsB] at cv1
          clear hrp hrc hkh
          generalize w' = wd31 at *
          try simp only [Act.put, List.setIfInBounds_toArray, List.set_cons_zero, List.set_cons_succ]
          refine wpAnyH_ready (rs := [32]) (by kernel_rfl) (by simp) (AllReadyH.cons (o := { dst := some 115, op := Op.convert 54 9 (.tmp 114), type := _, pos := _, after := _, guard := _ }) rfl (fun K hK => ?_) AllReadyH.nil)
          go_simp
          refine hK.out _ _ hHeld (fun _ => ?_)
          clear hK
          try simp only [Act.put, List.setIfInBounds_toArray, List.set_cons_zero, List.set_cons_succ]
          refine wpAnyH_take (i := 35) (oi := { dst := some 118, op := Op.binOp BinOp.neq 9 (.tmp 115) (.tmp 117) 9, type := _, pos := _, after := _, guard := _ }) (v := ?_) rfl (by kernel_rfl) (by kernel_rfl) (by kernel_rfl) (fun _ _ _ h => h) (Or.inl ⟨by rfl, ?_⟩) hHeld ?_
          rotate_left
          · intro w99 hSw
            first | (go_simp; done) | (go_simp; with_reducible rfl)
          try simp only [Act.put, List.setIfInBounds_toArray, List.set_cons_zero, List.set_cons_succ]
          refine wpAnyH_take (i := 36) (oi := { dst := some 119, op := Op.pick (.tmp 112) (.tmp 118) (.const (Value.bool false)), type := _, pos := _, after := _, guard := _ }) (v := ?_) rfl (by kernel_rfl) (by kernel_rfl) (by kernel_rfl) (fun _ _ _ h => h) (Or.inl ⟨by rfl, ?_⟩) hHeld ?_
          rotate_left
          · intro w99 hSw
            first | (go_simp; done) | (go_simp; with_reducible rfl)
          try simp only [Act.put, List.setIfInBounds_toArray, List.set_cons_zero, List.set_cons_succ]
          refine wpAnyH_take (i := 37) (oi := { dst := some 120, op := Op.pick (.tmp 109) (.const (Value.bool true)) (.tmp 119), type := _, pos := _, after := _, guard := _ }) (v := ?_) rfl (by kernel_rfl) (by kernel_rfl) (by kernel_rfl) (fun _ _ _ h => h) (Or.inl ⟨by rfl, ?_⟩) hHeld ?_
          rotate_left
          · intro w99 hSw
            first | (go_simp; done) | (go_simp; with_reducible rfl)
          try simp only [Act.put, List.setIfInBounds_toArray, List.set_cons_zero, List.set_cons_succ]
          refine wpAnyH_done (by kernel_rfl) ?_ _
          go_wp2_with fail
          go_meet
          case rel => exact ⟨rfl, Lib.hid hHeld.2⟩
        | false =>
          rw [hf] at hcfe
          have HFull := Lib.hid (fun (w' : World) (h : Kp (fun _ => False) w10 w') => r_full (HF10.out.no h) false hf)
          have HByt := Lib.hid (fun (w' : World) (h : Kp (fun _ => False) w10 w') => r_bytesN (HF10.out.no h) hf)
          clear hf
          refine wp_region_held_drew (S := (fun w' => w'.cell? ⟨hb, 2, none⟩ = some (.int .i64 ct) ∧ Kp (fun _ => False) w10 w')) (by kernel_rfl) (kk1F hbl c2 hkd) (fun hHeld => ?_)
          refine wpAnyH_take (i := 0) (oi := { dst := some 83, op := Op.move (.tmp 13), type := _, pos := _, after := _, guard := _ }) (v := ?_) rfl (by kernel_rfl) (by kernel_rfl) (by kernel_rfl) (fun _ _ _ h => h) (Or.inl ⟨by rfl, ?_⟩) hHeld ?_
          rotate_left
          · intro w99 hSw
            first | (go_simp; done) | (go_simp; with_reducible rfl)
          try simp only [Act.put, List.setIfInBounds_toArray, List.set_cons_zero, List.set_cons_succ]
          refine wpAnyH_take (i := 2) (oi := { dst := some 85, op := Op.move (.tmp 15), type := _, pos := _, after := _, guard := _ }) (v := ?_) rfl (by kernel_rfl) (by kernel_rfl) (by kernel_rfl) (fun _ _ _ h => h) (Or.inl ⟨by rfl, ?_⟩) hHeld ?_
          rotate_left
          · intro w99 hSw
            first | (go_simp; done) | (go_simp; with_reducible rfl)
          try simp only [Act.put, List.setIfInBounds_toArray, List.set_cons_zero, List.set_cons_succ]
          refine wpAnyH_take (i := 3) (oi := { dst := some 86, op := Op.fieldAddr 49 (.tmp 11) 2, type := _, pos := _, after := _, guard := _ }) (v := ?_) rfl (by kernel_rfl) (by kernel_rfl) (by kernel_rfl) (fun _ _ _ h => h) (Or.inl ⟨by rfl, ?_⟩) hHeld ?_
          rotate_left
          · intro w99 hSw
            first | (go_simp; done) | (go_simp; with_reducible rfl)
          try simp only [Act.put, List.setIfInBounds_toArray, List.set_cons_zero, List.set_cons_succ]
          refine wpAnyH_take (i := 4) (oi := { dst := some 87, op := Op.load 3 (.tmp 86), type := _, pos := _, after := _, guard := _ }) (v := ?_) rfl (by kernel_rfl) (by kernel_rfl) (by kernel_rfl) (fun _ _ _ h => h) (Or.inl ⟨by rfl, ?_⟩) hHeld ?_
          rotate_left
          · intro w99 hSw
            first | (go_simp; done) | (go_simp; with_reducible rfl)
          try simp only [Act.put, List.setIfInBounds_toArray, List.set_cons_zero, List.set_cons_succ]
          refine wpAnyH_take (i := 5) (oi := { dst := some 88, op := Op.binOp BinOp.eql 3 (.tmp 85) (.tmp 87) 3, type := _, pos := _, after := _, guard := _ }) (v := ?_) rfl (by kernel_rfl) (by kernel_rfl) (by kernel_rfl) (fun _ _ _ h => h) (Or.inl ⟨by rfl, ?_⟩) hHeld ?_
          rotate_left
          · intro w99 hSw
            first | (go_simp; done) | (go_simp; with_reducible rfl)
          try simp only [Act.put, List.setIfInBounds_toArray, List.set_cons_zero, List.set_cons_succ]
          refine wpAnyH_ready (rs := [1]) (by kernel_rfl) (by simp) (AllReadyH.cons (o := { dst := some 84, op := Op.call { callee := Callee.value (Operand.func 37), args := #[(.tmp 83)], argTypes := #[51] }, type := _, pos := _, after := _, guard := _ }) rfl (fun K hK => ?_) AllReadyH.nil)
          go_simp
          with_reducible refine (HFull.out _ hHeld.2).mono ?_
          rintro e w' ⟨rfl, hkh⟩
          go_wp2_with fail
          have hx9 := kk1F hbl c2 (hHeld.2.trans hkh)
          refine hK.out _ _ hx9 (fun _ => ?_)
          clear hK hHeld
          have hHeld := hx9
          clear hx9
          clear hkh
          generalize w' = wd1 at *
          try simp only [Act.put, List.setIfInBounds_toArray, List.set_cons_zero, List.set_cons_succ]
          refine wpAnyH_take (i := 6) (oi := { dst := some 89, op := Op.binOp BinOp.neq 4 (.tmp 84) (.tmp 88) 4, type := _, pos := _, after := _, guard := _ }) (v := ?_) rfl (by kernel_rfl) (by kernel_rfl) (by kernel_rfl) (fun _ _ _ h => h) (Or.inl ⟨by rfl, ?_⟩) hHeld ?_
          rotate_left
          · intro w99 hSw
            first | (go_simp; done) | (go_simp; with_reducible rfl)
          try simp only [Act.put, List.setIfInBounds_toArray, List.set_cons_zero, List.set_cons_succ]
          refine wpAnyH_take (i := 7) (oi := { dst := some 90, op := Op.move (.tmp 89), type := _, pos := _, after := _, guard := _ }) (v := ?_) rfl (by kernel_rfl) (by kernel_rfl) (by kernel_rfl) (fun _ _ _ h => h) (Or.inl ⟨by rfl, ?_⟩) hHeld ?_
          rotate_left
          · intro w99 hSw
            first | (go_simp; done) | (go_simp; with_reducible rfl)
          try simp only [Act.put, List.setIfInBounds_toArray, List.set_cons_zero, List.set_cons_succ]
          refine wpAnyH_take (i := 8) (oi := { dst := some 91, op := Op.move (.tmp 13), type := _, pos := _, after := _, guard := _ }) (v := ?_) rfl (by kernel_rfl) (by kernel_rfl) (by kernel_rfl) (fun _ _ _ h => h) (Or.inl ⟨by rfl, ?_⟩) hHeld ?_
          rotate_left
          · intro w99 hSw
            first | (go_simp; done) | (go_simp; with_reducible rfl)
          try simp only [Act.put, List.setIfInBounds_toArray, List.set_cons_zero, List.set_cons_succ]
          refine wpAnyH_take (i := 9) (oi := { dst := some 92, op := Op.nilCheck (.tmp 91), type := _, pos := _, after := _, guard := _ }) (v := ?_) rfl (by kernel_rfl) (by kernel_rfl) (by kernel_rfl) (fun _ _ _ h => h) (Or.inl ⟨by rfl, ?_⟩) hHeld ?_
          rotate_left
          · intro w99 hSw
            first | (go_simp; done) | (go_simp; with_reducible rfl)
          try simp only [Act.put, List.setIfInBounds_toArray, List.set_cons_zero, List.set_cons_succ]
          refine wpAnyH_take (i := 10) (oi := { dst := some 93, op := Op.fieldAddr 63 (.tmp 92) 0, type := _, pos := _, after := _, guard := _ }) (v := ?_) rfl (by kernel_rfl) (by kernel_rfl) (by kernel_rfl) (fun _ _ _ h => h) (Or.inl ⟨by rfl, ?_⟩) hHeld ?_
          rotate_left
          · intro w99 hSw
            first | (go_simp; done) | (go_simp; with_reducible rfl)
          try simp only [Act.put, List.setIfInBounds_toArray, List.set_cons_zero, List.set_cons_succ]
          refine wpAnyH_take (i := 12) (oi := { dst := some 95, op := Op.move (.tmp 15), type := _, pos := _, after := _, guard := _ }) (v := ?_) rfl (by kernel_rfl) (by kernel_rfl) (by kernel_rfl) (fun _ _ _ h => h) (Or.inl ⟨by rfl, ?_⟩) hHeld ?_
          rotate_left
          · intro w99 hSw
            first | (go_simp; done) | (go_simp; with_reducible rfl)
          try simp only [Act.put, List.setIfInBounds_toArray, List.set_cons_zero, List.set_cons_succ]
          refine wpAnyH_ready (rs := [11]) (by kernel_rfl) (by simp) (AllReadyH.cons (o := { dst := some 94, op := Op.call { callee := Callee.value (Operand.func 21), args := #[(.tmp 93)], argTypes := #[27] }, type := _, pos := _, after := _, guard := _ }) rfl (fun K hK => ?_) AllReadyH.nil)
          go_simp
          with_reducible refine (HCnt.out _ hHeld.2).mono ?_
          rintro e w' ⟨rfl, hkh⟩
          go_wp2_with fail
          have hx9 := kk1F hbl c2 (hHeld.2.trans hkh)
          refine hK.out _ _ hx9 (fun _ => ?_)
          clear hK hHeld
          have hHeld := hx9
          clear hx9
          clear hkh
          generalize w' = wd11 at *
          try simp only [Act.put, List.setIfInBounds_toArray, List.set_cons_zero, List.set_cons_succ]
          refine wpAnyH_take (i := 13) (oi := { dst := some 96, op := Op.binOp BinOp.neq 3 (.tmp 94) (.tmp 95) 3, type := _, pos := _, after := _, guard := _ }) (v := ?_) rfl (by kernel_rfl) (by kernel_rfl) (by kernel_rfl) (fun _ _ _ h => h) (Or.inl ⟨by rfl, ?_⟩) hHeld ?_
          rotate_left
          · intro w99 hSw
            first | (go_simp; done) | (go_simp; with_reducible rfl)
          try simp only [Act.put, List.setIfInBounds_toArray, List.set_cons_zero, List.set_cons_succ]
          refine wpAnyH_take (i := 14) (oi := { dst := some 97, op := Op.pick (.tmp 90) (.const (Value.bool true)) (.tmp 96), type := _, pos := _, after := _, guard := _ }) (v := ?_) rfl (by kernel_rfl) (by kernel_rfl) (by kernel_rfl) (fun _ _ _ h => h) (Or.inl ⟨by rfl, ?_⟩) hHeld ?_
          rotate_left
          · intro w99 hSw
            first | (go_simp; done) | (go_simp; with_reducible rfl)
          try simp only [Act.put, List.setIfInBounds_toArray, List.set_cons_zero, List.set_cons_succ]
          refine wpAnyH_take (i := 15) (oi := { dst := some 98, op := Op.move (.tmp 97), type := _, pos := _, after := _, guard := _ }) (v := ?_) rfl (by kernel_rfl) (by kernel_rfl) (by kernel_rfl) (fun _ _ _ h => h) (Or.inl ⟨by rfl, ?_⟩) hHeld ?_
          rotate_left
          · intro w99 hSw
            first | (go_simp; done) | (go_simp; with_reducible rfl)
          try simp only [Act.put, List.setIfInBounds_toArray, List.set_cons_zero, List.set_cons_succ]
          refine wpAnyH_take (i := 16) (oi := { dst := some 99, op := Op.move (.tmp 13), type := _, pos := _, after := _, guard := _ }) (v := ?_) rfl (by kernel_rfl) (by kernel_rfl) (by kernel_rfl) (fun _ _ _ h => h) (Or.inl ⟨by rfl, ?_⟩) hHeld ?_
          rotate_left
          · intro w99 hSw
            first | (go_simp; done) | (go_simp; with_reducible rfl)
          try simp only [Act.put, List.setIfInBounds_toArray, List.set_cons_zero, List.set_cons_succ]
          refine wpAnyH_ready (rs := [17]) (by kernel_rfl) (by simp) (AllReadyH.cons (o := { dst := some 100, op := Op.call { callee := Callee.value (Operand.func 37), args := #[(.tmp 99)], argTypes := #[51] }, type := _, pos := _, after := _, guard := _ }) rfl (fun K hK => ?_) AllReadyH.nil)
          go_simp
          with_reducible refine (HFull.out _ hHeld.2).mono ?_
          rintro e w' ⟨rfl, hkh⟩
          go_wp2_with fail
          have hx9 := kk1F hbl c2 (hHeld.2.trans hkh)
          refine hK.out _ _ hx9 (fun _ => ?_)
          clear hK hHeld
          have hHeld := hx9
          clear hx9
          clear hkh
          generalize w' = wd17 at *
          try simp only [Act.put, List.setIfInBounds_toArray, List.set_cons_zero, List.set_cons_succ]
          refine wpAnyH_take (i := 18) (oi := { dst := some 101, op := Op.unOp UnOp.not 4 (.tmp 100), type := _, pos := _, after := _, guard := _ }) (v := ?_) rfl (by kernel_rfl) (by kernel_rfl) (by kernel_rfl) (fun _ _ _ h => h) (Or.inl ⟨by rfl, ?_⟩) hHeld ?_
          rotate_left
          · intro w99 hSw
            first | (go_simp; done) | (go_simp; with_reducible rfl)
          try simp only [Act.put, List.setIfInBounds_toArray, List.set_cons_zero, List.set_cons_succ]
          refine wpAnyH_take (i := 19) (oi := { dst := some 102, op := Op.move (.tmp 101), type := _, pos := _, after := _, guard := _ }) (v := ?_) rfl (by kernel_rfl) (by kernel_rfl) (by kernel_rfl) (fun _ _ _ h => h) (Or.inl ⟨by rfl, ?_⟩) hHeld ?_
          rotate_left
          · intro w99 hSw
            first | (go_simp; done) | (go_simp; with_reducible rfl)
          try simp only [Act.put, List.setIfInBounds_toArray, List.set_cons_zero, List.set_cons_succ]
          refine wpAnyH_take (i := 20) (oi := { dst := some 103, op := Op.move (.tmp 13), type := _, pos := _, after := _, guard := _ }) (v := ?_) rfl (by kernel_rfl) (by kernel_rfl) (by kernel_rfl) (fun _ _ _ h => h) (Or.inl ⟨by rfl, ?_⟩) hHeld ?_
          rotate_left
          · intro w99 hSw
            first | (go_simp; done) | (go_simp; with_reducible rfl)
          try simp only [Act.put, List.setIfInBounds_toArray, List.set_cons_zero, List.set_cons_succ]
          refine wpAnyH_ready (rs := [21]) (by kernel_rfl) (by simp) (AllReadyH.cons (o := { dst := some 104, op := Op.call { callee := Callee.value (Operand.func 29), args := #[(.tmp 103)], argTypes := #[51] }, type := _, pos := _, after := _, guard := _ }) rfl (fun K hK => ?_) AllReadyH.nil)
          go_simp
          with_reducible refine (HByt.out _ hHeld.2).mono ?_
          rintro e w' ⟨rfl, hkh⟩
          go_wp2_with fail
          have hx9 := kk1F hbl c2 (hHeld.2.trans hkh)
          refine hK.out _ _ hx9 (fun _ => ?_)
          clear hK hHeld
          have hHeld := hx9
          clear hx9
          clear hkh
          generalize w' = wd21 at *
          try simp only [Act.put, List.setIfInBounds_toArray, List.set_cons_zero, List.set_cons_succ]
          refine wpAnyH_take (i := 22) (oi := { dst := some 105, op := Op.call { callee := Callee.builtin Builtin.len, args := #[(.tmp 104)], argTypes := #[54] }, type := _, pos := _, after := _, guard := _ }) (v := ?_) rfl (by kernel_rfl) (by kernel_rfl) (by kernel_rfl) (fun _ _ _ h => h) (Or.inl ⟨by rfl, ?_⟩) hHeld ?_
          rotate_left
          · intro w99 hSw
            first | (go_simp; done) | (go_simp; with_reducible rfl)
          try simp only [Act.put, List.setIfInBounds_toArray, List.set_cons_zero, List.set_cons_succ]
          refine wpAnyH_take (i := 23) (oi := { dst := some 106, op := Op.binOp BinOp.gtr 3 (.tmp 105) (.const (.int .i64 0)) 3, type := _, pos := _, after := _, guard := _ }) (v := ?_) rfl (by kernel_rfl) (by kernel_rfl) (by kernel_rfl) (fun _ _ _ h => h) (Or.inl ⟨by rfl, ?_⟩) hHeld ?_
          rotate_left
          · intro w99 hSw
            first | (go_simp; done) | (go_simp; with_reducible rfl)
          try simp only [Act.put, List.setIfInBounds_toArray, List.set_cons_zero, List.set_cons_succ]
          refine wpAnyH_take (i := 24) (oi := { dst := some 107, op := Op.pick (.tmp 102) (.tmp 106) (.const (Value.bool false)), type := _, pos := _, after := _, guard := _ }) (v := ?_) rfl (by kernel_rfl) (by kernel_rfl) (by kernel_rfl) (fun _ _ _ h => h) (Or.inl ⟨by rfl, ?_⟩) hHeld ?_
          rotate_left
          · intro w99 hSw
            first | (go_simp; done) | (go_simp; with_reducible rfl)
          try simp only [Act.put, List.setIfInBounds_toArray, List.set_cons_zero, List.set_cons_succ]
          refine wpAnyH_take (i := 25) (oi := { dst := some 108, op := Op.pick (.tmp 98) (.const (Value.bool true)) (.tmp 107), type := _, pos := _, after := _, guard := _ }) (v := ?_) rfl (by kernel_rfl) (by kernel_rfl) (by kernel_rfl) (fun _ _ _ h => h) (Or.inl ⟨by rfl, ?_⟩) hHeld ?_
          rotate_left
          · intro w99 hSw
            first | (go_simp; done) | (go_simp; with_reducible rfl)
          try simp only [Act.put, List.setIfInBounds_toArray, List.set_cons_zero, List.set_cons_succ]
          refine wpAnyH_take (i := 26) (oi := { dst := some 109, op := Op.move (.tmp 108), type := _, pos := _, after := _, guard := _ }) (v := ?_) rfl (by kernel_rfl) (by kernel_rfl) (by kernel_rfl) (fun _ _ _ h => h) (Or.inl ⟨by rfl, ?_⟩) hHeld ?_
          rotate_left
          · intro w99 hSw
            first | (go_simp; done) | (go_simp; with_reducible rfl)
          try simp only [Act.put, List.setIfInBounds_toArray, List.set_cons_zero, List.set_cons_succ]
          refine wpAnyH_take (i := 27) (oi := { dst := some 110, op := Op.move (.tmp 13), type := _, pos := _, after := _, guard := _ }) (v := ?_) rfl (by kernel_rfl) (by kernel_rfl) (by kernel_rfl) (fun _ _ _ h => h) (Or.inl ⟨by rfl, ?_⟩) hHeld ?_
          rotate_left
          · intro w99 hSw
            first | (go_simp; done) | (go_simp; with_reducible rfl)
          try simp only [Act.put, List.setIfInBounds_toArray, List.set_cons_zero, List.set_cons_succ]
          refine wpAnyH_ready (rs := [28]) (by kernel_rfl) (by simp) (AllReadyH.cons (o := { dst := some 111, op := Op.call { callee := Callee.value (Operand.func 37), args := #[(.tmp 110)], argTypes := #[51] }, type := _, pos := _, after := _, guard := _ }) rfl (fun K hK => ?_) AllReadyH.nil)
          go_simp
          with_reducible refine (HFull.out _ hHeld.2).mono ?_
          rintro e w' ⟨rfl, hkh⟩
          go_wp2_with fail
          have hx9 := kk1F hbl c2 (hHeld.2.trans hkh)
          refine hK.out _ _ hx9 (fun _ => ?_)
          clear hK hHeld
          have hHeld := hx9
          clear hx9
          clear hkh
          generalize w' = wd28 at *
          try simp only [Act.put, List.setIfInBounds_toArray, List.set_cons_zero, List.set_cons_succ]
          refine wpAnyH_take (i := 29) (oi := { dst := some 112, op := Op.move (.tmp 111), type := _, pos := _, after := _, guard := _ }) (v := ?_) rfl (by kernel_rfl) (by kernel_rfl) (by kernel_rfl) (fun _ _ _ h => h) (Or.inl ⟨by rfl, ?_⟩) hHeld ?_
          rotate_left
          · intro w99 hSw
            first | (go_simp; done) | (go_simp; with_reducible rfl)
          try simp only [Act.put, List.setIfInBounds_toArray, List.set_cons_zero, List.set_cons_succ]
          refine wpAnyH_take (i := 30) (oi := { dst := some 113, op := Op.move (.tmp 13), type := _, pos := _, after := _, guard := _ }) (v := undef) rfl (by kernel_rfl) (by kernel_rfl) (by kernel_rfl) (fun _ _ _ h => h) (Or.inr ⟨by rfl, rfl⟩) hHeld ?_
          try simp only [Act.put, List.setIfInBounds_toArray, List.set_cons_zero, List.set_cons_succ]
          refine wpAnyH_take (i := 33) (oi := { dst := some 116, op := Op.move (.tmp 12), type := _, pos := _, after := _, guard := _ }) (v := undef) rfl (by kernel_rfl) (by kernel_rfl) (by kernel_rfl) (fun _ _ _ h => h) (Or.inr ⟨by rfl, rfl⟩) hHeld ?_
          try simp only [Act.put, List.setIfInBounds_toArray, List.set_cons_zero, List.set_cons_succ]
          refine wpAnyH_take (i := 34) (oi := { dst := some 117, op := Op.convert 54 9 (.tmp 116), type := _, pos := _, after := _, guard := _ }) (v := undef) rfl (by kernel_rfl) (by kernel_rfl) (by kernel_rfl) (fun _ _ _ h => h) (Or.inr ⟨by rfl, rfl⟩) hHeld ?_
          try simp only [Act.put, List.setIfInBounds_toArray, List.set_cons_zero, List.set_cons_succ]
          refine wpAnyH_ready (rs := [31]) (by kernel_rfl) (by simp) (AllReadyH.cons (o := { dst := some 114, op := Op.call { callee := Callee.value (Operand.func 29), args := #[(.tmp 113)], argTypes := #[51] }, type := _, pos := _, after := _, guard := _ }) rfl (fun K hK => ?_) AllReadyH.nil)
          go_simp
          refine hK.out _ _ hHeld (fun _ => ?_)
          clear hK
          try simp only [Act.put, List.setIfInBounds_toArray, List.set_cons_zero, List.set_cons_succ]
          refine wpAnyH_take (i := 32) (oi := { dst := some 115, op := Op.convert 54 9 (.tmp 114), type := _, pos := _, after := _, guard := _ }) (v := undef) rfl (by kernel_rfl) (by kernel_rfl) (by kernel_rfl) (fun _ _ _ h => h) (Or.inr ⟨by rfl, rfl⟩) hHeld ?_
          try simp only [Act.put, List.setIfInBounds_toArray, List.set_cons_zero, List.set_cons_succ]
          refine wpAnyH_take (i := 35) (oi := { dst := some 118, op := Op.binOp BinOp.neq 9 (.tmp 115) (.tmp 117) 9, type := _, pos := _, after := _, guard := _ }) (v := undef) rfl (by kernel_rfl) (by kernel_rfl) (by kernel_rfl) (fun _ _ _ h => h) (Or.inr ⟨by rfl, rfl⟩) hHeld ?_
          try simp only [Act.put, List.setIfInBounds_toArray, List.set_cons_zero, List.set_cons_succ]
          refine wpAnyH_take (i := 36) (oi := { dst := some 119, op := Op.pick (.tmp 112) (.tmp 118) (.const (Value.bool false)), type := _, pos := _, after := _, guard := _ }) (v := ?_) rfl (by kernel_rfl) (by kernel_rfl) (by kernel_rfl) (fun _ _ _ h => h) (Or.inl ⟨by rfl, ?_⟩) hHeld ?_
          rotate_left
          · intro w99 hSw
            first | (go_simp; done) | (go_simp; with_reducible rfl)
          try simp only [Act.put, List.setIfInBounds_toArray, List.set_cons_zero, List.set_cons_succ]
          refine wpAnyH_take (i := 37) (oi := { dst := some 120, op := Op.pick (.tmp 109) (.const (Value.bool true)) (.tmp 119), type := _, pos := _, after := _, guard := _ }) (v := ?_) rfl (by kernel_rfl) (by kernel_rfl) (by kernel_rfl) (fun _ _ _ h => h) (Or.inl ⟨by rfl, ?_⟩) hHeld ?_
          rotate_left
          · intro w99 hSw
            first | (go_simp; done) | (go_simp; with_reducible rfl)
          try simp only [Act.put, List.setIfInBounds_toArray, List.set_cons_zero, List.set_cons_succ]
          refine wpAnyH_done (by kernel_rfl) ?_ _
          go_wp2_with fail
          go_meet
          case rel => exact ⟨rfl, Lib.hid hHeld.2⟩
      case rest =>
      obtain ⟨rfl, Hkz⟩ := hcut
      generalize wc = w11 at *
      have HF11 := Lib.hid (HF10.out.no Hkz.out)
      have HC11 := Lib.hid (Hkz.out.whole HC10.out (fun h => h))
      have HD11 := Lib.hid (HD10.out.kp Hkz.out (fun h => h))
      have HB11 := Lib.hid (Hkz.out.src HB10.out (fun _ _ h => h))
      have Hk11 := Lib.hid (Hk10.out.trans Hkz.out)
      have Hdone' : Hid (∀ q : Nat, len + q < i + 1 → InL L' (q : Int)) := Lib.hid (fun q hq => by
        rw [HI9.out]
        by_cases h1 : len + q < i
        · exact .inl (Hdone.out q h1)
        · have := Hik.out (by omega)
          exact .inr (by omega))
      clear HF10 HC10 HD10 HB10 Hk10 Hkz hcfe HCnt HCv hkd hk0' c2 hbl
      go_wp2_with fail
      go_roundw
      case rel => exact ⟨i + 1, c', bs.set k true, L', dd, by omega, by go_num, rfl, hc8', Hbl', Hc', HI', HG9, Hdone', HF11, HC11, HD11, HB11, Hk11.out⟩
      case measure => simp [intOf]; omega
    · obtain rfl : i = len + ct := by omega
      have hfull : fullB L (ct : Int) = true := (full_iff HF.out.norm (by omega) (by omega)).2 (fun q hq => Hdone.out q (by omega))
      have HFull := Lib.hid (r_full HF.out true hfull)
      have Hkp := Lib.hid hkp
      have t0 : ¬ ((len + ct : Nat) : Int) < (len : Int) + (ct : Int) := by omega
      clear hfull hkp
      go_wp2_with fail
      with_reducible refine (HFull.out).mono ?_
      rintro e w2 ⟨rfl, hk2⟩
      have Hk2 := Lib.hid (Hkp.out.trans hk2)
      clear hk2
      go_wp2_with fail
      go_ret
      exact ⟨rfl, Hk2.out.below (Nat.le_refl _) (fun _ h => h.elim)⟩
end Go.Proofs.Ytdcbgjbhoejpnaa
