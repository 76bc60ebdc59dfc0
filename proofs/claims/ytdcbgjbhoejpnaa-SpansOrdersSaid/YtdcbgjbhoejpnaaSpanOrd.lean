/-
  argosylaw3: SpansOrders.
-/
import Derived.Test.YtdcbgjbhoejpnaaSpanN
import Derived.Deep.RegionHeld3
import Derived.Deep.DeepCutAuto
namespace Go.Proofs.Ytdcbgjbhoejpnaa
open Go.RowKit

/-- Run j of the calls that came in. -/
def CallAt (W : World) (b off : Nat) (j : Nat) (r : Pr) : Prop := ∃ (y0 y1 y2 : Int) (p q : Nat), W.cell? ⟨b, off + j * 3, none⟩ = some (.int .i64 y0) ∧ W.cell? ⟨b, off + j * 3 + 1, none⟩ = some (.int .i64 y1) ∧ W.cell? ⟨b, off + j * 3 + 2, none⟩ = some (.int .i64 y2) ∧
  pickF y1 80 = (p : Int) ∧ pickF y2 90 = (q : Int) ∧ r = ((p : Int), (q : Int)) ∧ p < 80 ∧ q < 90
theorem calls_of {W : World} {A : Option Addr} {len : Nat} (h : len = 0 ∨ ∃ b off, A = some ⟨b, off, none⟩ ∧ b < W.heap.size ∧ ∀ i, i < len → ∀ j p, [RdI, RdI, RdI][j]? = some p → ∃ u, W.cell? ⟨b, off + i * [RdI, RdI, RdI].length + j, none⟩ = some u ∧ p u) :
    ∃ (R : List Pr) (b off : Nat), R.length = len ∧ (len = 0 ∨ (A = some ⟨b, off, none⟩ ∧ b < W.heap.size)) ∧ ∀ j r, R[j]? = some r → CallAt W b off j r := by
  rcases h with h | ⟨b, off, hA, hb, hc⟩
  · exact ⟨[], 0, 0, by simp [h], .inl h, fun j r h => by simp at h⟩
  · obtain ⟨R, hl, hR⟩ := list_of (CallAt W b off) len (fun j hj => by
      obtain ⟨u0, hu0, y0, rfl, _, _⟩ := hc j hj 0 RdI rfl
      obtain ⟨u1, hu1, y1, rfl, _, _⟩ := hc j hj 1 RdI rfl
      obtain ⟨u2, hu2, y2, rfl, _, _⟩ := hc j hj 2 RdI rfl
      obtain ⟨p, hp⟩ := Int.eq_ofNat_of_zero_le (pickF_lo y1 80 (by omega))
      obtain ⟨q, hq⟩ := Int.eq_ofNat_of_zero_le (pickF_lo y2 90 (by omega))
      have h1 := pickF_hi y1 80 (by omega)
      have h2 := pickF_hi y2 90 (by omega)
      simp only [List.length_cons, List.length_nil, Nat.zero_add, Nat.add_zero, Nat.reduceAdd] at hu0 hu1 hu2
      exact ⟨(p, q), y0, y1, y2, p, q, hu0, hu1, hu2, hp, hq, rfl, by omega, by omega⟩)
    exact ⟨R, b, off, hl, .inr ⟨hA, hb⟩, hR⟩

set_option maxRecDepth 100000 in
set_option maxHeartbeats 4000000 in
theorem SpansOrders_any (W : World) (v : Value) (hv : SlArg 23 W v) (x1 : Int) (_l1 : -9223372036854775808 ≤ x1) (_h1 : x1 ≤ 9223372036854775807) (x2 : Int) (_l2 : -9223372036854775808 ≤ x2) (_h2 : x2 ≤ 9223372036854775807) (x3 : Int) (_l3 : -9223372036854775808 ≤ x3) (_h3 : x3 ≤ 9223372036854775807) :
    Calls Try.prog 5 #[v, .int .i64 x1, .int .i64 x2, .int .i64 x3] W fun e w' => e = .returned (.bool true) ∧ Below W.heap.size W w' := by
  obtain ⟨A, len, cap, rfl, hlc, hcm, hreach, hcells⟩ := rawS_rd hv
  unfold maxLen at hcm
  unfold reachBytes at hreach
  obtain ⟨R, blk, off, hRl, hA, hR⟩ := calls_of hcells
  have HR := Lib.hid hR
  have HRl := Lib.hid hRl
  have HA := Lib.hid hA
  clear hcells hv hR hRl hA
  have hlen1 : IntKind.i64.wrap ((len : Int) + 1) = (len : Int) + 1 := IntWalk.i64_in _ (by omega)
  have hS0 : HasSet ((((W.alloc (.cells #[.slice none 0 0] 27)).alloc (.cells #[.slice none 0 0] 27)).alloc (.cells #[.slice none 0 0] 27)).alloc (.cells #[.slice none 0 0] 27)) W.heap.size [] := (((HasSet.new W).no ((Kp.refl _ _).alloc _)).no ((Kp.refl _ _).alloc _)).no ((Kp.refl _ _).alloc _)
  have hS1 : HasSet ((((W.alloc (.cells #[.slice none 0 0] 27)).alloc (.cells #[.slice none 0 0] 27)).alloc (.cells #[.slice none 0 0] 27)).alloc (.cells #[.slice none 0 0] 27)) (W.heap.size + 1) [] := by
    have := ((HasSet.new (W.alloc (.cells #[.slice none 0 0] 27))).no ((Kp.refl (fun _ => False) _).alloc (.cells #[.slice none 0 0] 27))).no ((Kp.refl (fun _ => False) _).alloc (.cells #[.slice none 0 0] 27))
    simpa only [World.size_alloc] using this
  have hS2 : HasSet ((((W.alloc (.cells #[.slice none 0 0] 27)).alloc (.cells #[.slice none 0 0] 27)).alloc (.cells #[.slice none 0 0] 27)).alloc (.cells #[.slice none 0 0] 27)) (W.heap.size + 1 + 1) [] := by
    have := (HasSet.new ((W.alloc (.cells #[.slice none 0 0] 27)).alloc (.cells #[.slice none 0 0] 27))).no ((Kp.refl (fun _ => False) _).alloc (.cells #[.slice none 0 0] 27))
    simpa only [World.size_alloc] using this
  have hS3 : HasSet ((((W.alloc (.cells #[.slice none 0 0] 27)).alloc (.cells #[.slice none 0 0] 27)).alloc (.cells #[.slice none 0 0] 27)).alloc (.cells #[.slice none 0 0] 27)) (W.heap.size + 1 + 1 + 1) [] := by
    have := HasSet.new (((W.alloc (.cells #[.slice none 0 0] 27)).alloc (.cells #[.slice none 0 0] 27)).alloc (.cells #[.slice none 0 0] 27))
    simpa only [World.size_alloc] using this
  have hk0 : Kp (fun _ => False) W ((((W.alloc (.cells #[.slice none 0 0] 27)).alloc (.cells #[.slice none 0 0] 27)).alloc (.cells #[.slice none 0 0] 27)).alloc (.cells #[.slice none 0 0] 27)) := ((((Kp.refl _ W).alloc _).alloc _).alloc _).alloc _
  go_enter Try.func5, Try.ntmps5
  go_upto_region 2 with (fail)
  generalize (((W.alloc (.cells #[.slice none 0 0] 27)).alloc (.cells #[.slice none 0 0] 27)).alloc (.cells #[.slice none 0 0] 27)).alloc (.cells #[.slice none 0 0] 27) = w1 at *
  obtain ⟨sa, hsa⟩ : ∃ s, s = W.heap.size := ⟨_, rfl⟩
  obtain ⟨sb, hsb⟩ : ∃ s, s = W.heap.size + 1 := ⟨_, rfl⟩
  obtain ⟨sc, hsc⟩ : ∃ s, s = W.heap.size + 1 + 1 := ⟨_, rfl⟩
  obtain ⟨sd, hsd⟩ : ∃ s, s = W.heap.size + 1 + 1 + 1 := ⟨_, rfl⟩
  rw [← hsa] at hS0
  rw [← hsb] at hS1
  rw [← hsc] at hS2
  rw [← hsd] at hS3
  rw [← hsd, ← hsc, ← hsb, ← hsa]
  have HS1 := Lib.hid hS0
  have HS2 := Lib.hid hS1
  have HS3 := Lib.hid hS2
  have HS4 := Lib.hid hS3
  have HK1 := Lib.hid hk0
  have ab : sa ≠ sb := by omega
  have ac : sa ≠ sc := by omega
  have ad : sa ≠ sd := by omega
  have bc : sb ≠ sc := by omega
  have bd : sb ≠ sd := by omega
  have cd : sc ≠ sd := by omega
  have aW : W.heap.size ≤ sa := by omega
  have bW : W.heap.size ≤ sb := by omega
  have cW : W.heap.size ≤ sc := by omega
  have dW : W.heap.size ≤ sd := by omega
  clear hS0 hS1 hS2 hS3 hk0 hsa hsb hsc hsd
  go_upto_region 3 with (with_reducible refine (pick_nat _ _ _ (by omega) (by omega)).mono ?_; rintro e w' ⟨k, hk, rfl, rfl⟩)
  have hk2 : k ≤ len := by omega
  clear hlen1 hk
  go_wp2_with fail
  go_loopw [32] (fun vi wr => ∃ (i : Nat) (La Lb Lc Ld : List Pr), i ≤ len ∧ vi = .int .i64 i ∧ Hid (HasSet wr sa La ∧ NormL ((95 : Nat) : Int) La) ∧ Hid (HasSet wr sb Lb ∧ NormL ((95 : Nat) : Int) Lb) ∧ Hid (HasSet wr sc Lc ∧ NormL ((95 : Nat) : Int) Lc) ∧ Hid (HasSet wr sd Ld ∧ NormL ((95 : Nat) : Int) Ld) ∧
      Hid (∀ n, InL La n ↔ InL (R.take i) n) ∧ Hid (∀ n, InL Lb n ↔ ∃ j, j < i ∧ ∃ r, R[(j + k) % len]? = some r ∧ r.1 ≤ n ∧ n < r.2) ∧ Hid (∀ n, (InL Lc n ∨ InL Ld n) ↔ InL (R.take i) n) ∧ Kp (fun _ => False) W wr)
    (fun vi _ => len - (intOf vi).toNat)
  case atStart =>
    exact ⟨0, [], [], [], [], by omega, rfl, Lib.hid ⟨HS1.out, NormL.nil _⟩, Lib.hid ⟨HS2.out, NormL.nil _⟩, Lib.hid ⟨HS3.out, NormL.nil _⟩, Lib.hid ⟨HS4.out, NormL.nil _⟩, Lib.hid (fun n => Iff.rfl), Lib.hid (fun n => ⟨fun h => absurd h (inl_nil _), fun ⟨j, hj, _⟩ => by omega⟩), Lib.hid (fun n => ⟨fun h => h.elim id id, .inl⟩), HK1.out⟩
  case round =>
    obtain ⟨i, La, Lb, Lc, Ld, hi, rfl, HSa, HSb, HSc, HSd, HIa, HIb, HIcd, hkp⟩ := hrel
    by_cases hlt : i < len
    · rcases HA.out with h0 | ⟨rfl, hbl⟩
      · omega
      · have hml : (i + k) % len < len := Nat.mod_lt _ (by omega)
        have hmI : ((i : Int) + (k : Int)) % (len : Int) < (len : Int) := Int.emod_lt_of_pos _ (by omega)
        have hm0 : 0 ≤ ((i : Int) + (k : Int)) % (len : Int) := Int.emod_nonneg _ (by omega)
        obtain ⟨r, hri⟩ : ∃ r, R[i]? = some r := ⟨_, List.getElem?_eq_getElem (by rw [HRl.out]; exact hlt)⟩
        obtain ⟨r', hrm⟩ : ∃ r, R[(i + k) % len]? = some r := ⟨_, List.getElem?_eq_getElem (by rw [HRl.out]; exact hml)⟩
        obtain ⟨y0, y1, y2, p, q, e0, e1, e2, hp, hq, rfl, hpl, hql⟩ := HR.out i r hri
        obtain ⟨z0, z1, z2, p', q', f0, f1, f2, hp', hq', rfl, hpl', hql'⟩ := HR.out ((i + k) % len) r' hrm
        rw [← hkp.cell (p := ⟨blk, _, none⟩) hbl (fun h => h)] at e0 e1 e2 f0 f1 f2
        have hblr := Nat.lt_of_lt_of_le hbl hkp.size
        have Hp := Lib.hid (fun w => pick_any y1 80 w (by omega) (by omega))
        have Hq := Lib.hid (fun w => pick_any y2 90 w (by omega) (by omega))
        have Hp' := Lib.hid (fun w => pick_any z1 80 w (by omega) (by omega))
        have Hq' := Lib.hid (fun w => pick_any z2 90 w (by omega) (by omega))
        rw [hp] at Hp
        rw [hq] at Hq
        rw [hp'] at Hp'
        rw [hq'] at Hq'
        have Hri := Lib.hid hri
        have Hrm := Lib.hid hrm
        clear hp hq hp' hq' hri hrm
        have hX := Whole.new wr 33 #[.int .i64 y0, .int .i64 y1, .int .i64 y2]
        have hY := Whole.new (wr.alloc (.cells #[.int .i64 y0, .int .i64 y1, .int .i64 y2] 33)) 33 #[.int .i64 z0, .int .i64 z1, .int .i64 z2]
        have hX := hX.alloc (.cells #[.int .i64 z0, .int .i64 z1, .int .i64 z2] 33)
        have hk6 : Kp (fun _ => False) wr ((wr.alloc (.cells #[.int .i64 y0, .int .i64 y1, .int .i64 y2] 33)).alloc (.cells #[.int .i64 z0, .int .i64 z1, .int .i64 z2] 33)) := ((Kp.refl _ wr).alloc _).alloc _
        rw [World.size_alloc] at hY
        go_upto_region 7 with (fail)
        generalize hw6 : (wr.alloc (.cells #[.int .i64 y0, .int .i64 y1, .int .i64 y2] 33)).alloc (.cells #[.int .i64 z0, .int .i64 z1, .int .i64 z2] 33) = w6 at *
        clear hw6
        have hla := HSa.out.1.lt
        have hlb := HSb.out.1.lt
        have hlc2 := HSc.out.1.lt
        have hld := HSd.out.1.lt
        have Ha6 := Lib.hid (And.intro (HSa.out.1.no hk6) HSa.out.2)
        have Hb6 := Lib.hid (And.intro (HSb.out.1.no hk6) HSb.out.2)
        have Hc6 := Lib.hid (And.intro (HSc.out.1.no hk6) HSc.out.2)
        have Hd6 := Lib.hid (And.intro (HSd.out.1.no hk6) HSd.out.2)
        have HK6 := Lib.hid (hkp.trans hk6)
        clear HSa HSb HSc HSd hkp hk6 e0 e1 e2 f0 f1 f2 hmI hm0
        obtain ⟨bx, hbx⟩ : ∃ b, b = wr.heap.size := ⟨_, rfl⟩
        obtain ⟨by_, hby⟩ : ∃ b, b = wr.heap.size + 1 := ⟨_, rfl⟩
        rw [← hbx] at hX
        rw [← hby] at hY
        rw [← hby, ← hbx]
        have bxa : bx ≠ sa := by omega
        have bxb : bx ≠ sb := by omega
        have bxc : bx ≠ sc := by omega
        have bxd : bx ≠ sd := by omega
        have by_a : by_ ≠ sa := by omega
        have by_b : by_ ≠ sb := by omega
        have by_c : by_ ≠ sc := by omega
        have by_d : by_ ≠ sd := by omega
        have bxlt6 := hX.lt
        have bylt6 := hY.lt
        have cx16 := hX.cell 1
        have cx26 := hX.cell 2
        have cy16 := hY.cell 1
        have cy26 := hY.cell 2
        simp at cx16 cx26 cy16 cy26
        clear hX hY hbx hby hla hlb hlc2 hld
        have Hadd := Lib.hid (g_add (w := w6.drew) ((Ha6.out.1).no (Kp.drew (Kp.refl _ _))) Ha6.out.2 (by omega) p q (by omega) (by omega))
        go_upto_region 7 with (fail)
        go_cut [] (fun wx => Hid (Chg w6 wx sa 95 (fun n => InL La n ∨ ((p : Int) ≤ n ∧ n < (q : Int)))))
        case first =>
          go_region_held3 (fun w' => w'.cell? ⟨bx, 1, none⟩ = some (.int .i64 y1) ∧ w'.cell? ⟨bx, 2, none⟩ = some (.int .i64 y2) ∧ Kp (fun k => k = sa) w6 w') (exact kkA bxlt6 bxa cx16 cx26 (by first | assumption | exact (Kp.refl _ _).drew))
            (first
              | (go_at_call 11; (with_reducible refine (Hp.out _).mono ?_); rintro e w' ⟨rfl, rfl⟩)
              | (go_at_call 11; (with_reducible refine (Hq.out _).mono ?_); rintro e w' ⟨rfl, rfl⟩)
              | (go_at_call 15; (with_reducible refine (Hadd.out).mono ?_); rintro e w' ⟨rfl, hch⟩; have hchd := Lib.hid hch.drew; have hx4 := Chg.kp hch.drew; clear hch))
          all_goals
            go_wp2_with fail
            go_meet
            case rel => exact hchd
        case rest =>
        obtain ⟨La1, hS, hN, hI, hk⟩ := hcut.out
        generalize wc = w7 at *
        dsimp only at hI
        have Ha7 := Lib.hid (And.intro hS hN)
        have Hb7 := Lib.hid (And.intro (Hb6.out.1.other Ha6.out.1 hk (ab).symm) Hb6.out.2)
        have Hc7 := Lib.hid (And.intro (Hc6.out.1.other Ha6.out.1 hk (ac).symm) Hc6.out.2)
        have Hd7 := Lib.hid (And.intro (Hd6.out.1.other Ha6.out.1 hk (ad).symm) Hd6.out.2)
        have HIa7 := Lib.hid hI
        have HK7 := Lib.hid ((HK6.out.no.trans hk).mono (S' := fun _ => False) (fun k hk e => by omega))
        have bxlt7 := Nat.lt_of_lt_of_le bxlt6 hk.size
        have cx17 := (hk.cell (p := ⟨bx, 1, none⟩) bxlt6 bxa).trans cx16
        have cx27 := (hk.cell (p := ⟨bx, 2, none⟩) bxlt6 bxa).trans cx26
        have bylt7 := Nat.lt_of_lt_of_le bylt6 hk.size
        have cy17 := (hk.cell (p := ⟨by_, 1, none⟩) bylt6 by_a).trans cy16
        have cy27 := (hk.cell (p := ⟨by_, 2, none⟩) bylt6 by_a).trans cy26
        clear hcut hS hN hI hk Hadd Ha6 Hb6 Hc6 Hd6 HK6 bxlt6 bylt6 cx16 cx26 cy16 cy26
        have Hadd := Lib.hid (g_add (w := w7.drew) ((Hb7.out.1).no (Kp.drew (Kp.refl _ _))) Hb7.out.2 (by omega) p' q' (by omega) (by omega))
        go_upto_region 8 with (fail)
        go_cut [] (fun wx => Hid (Chg w7 wx sb 95 (fun n => InL Lb n ∨ ((p' : Int) ≤ n ∧ n < (q' : Int)))))
        case first =>
          go_region_held3 (fun w' => w'.cell? ⟨by_, 1, none⟩ = some (.int .i64 z1) ∧ w'.cell? ⟨by_, 2, none⟩ = some (.int .i64 z2) ∧ Kp (fun k => k = sb) w7 w') (exact kkA bylt7 by_b cy17 cy27 (by first | assumption | exact (Kp.refl _ _).drew))
            (first
              | (go_at_call 11; (with_reducible refine (Hp'.out _).mono ?_); rintro e w' ⟨rfl, rfl⟩)
              | (go_at_call 11; (with_reducible refine (Hq'.out _).mono ?_); rintro e w' ⟨rfl, rfl⟩)
              | (go_at_call 15; (with_reducible refine (Hadd.out).mono ?_); rintro e w' ⟨rfl, hch⟩; have hchd := Lib.hid hch.drew; have hx4 := Chg.kp hch.drew; clear hch))
          all_goals
            go_wp2_with fail
            go_meet
            case rel => exact hchd
        case rest =>
        obtain ⟨Lb1, hS, hN, hI, hk⟩ := hcut.out
        generalize wc = w8 at *
        dsimp only at hI
        have Ha8 := Lib.hid (And.intro (Ha7.out.1.other Hb7.out.1 hk ab) Ha7.out.2)
        have Hb8 := Lib.hid (And.intro hS hN)
        have Hc8 := Lib.hid (And.intro (Hc7.out.1.other Hb7.out.1 hk (bc).symm) Hc7.out.2)
        have Hd8 := Lib.hid (And.intro (Hd7.out.1.other Hb7.out.1 hk (bd).symm) Hd7.out.2)
        have HIb8 := Lib.hid hI
        have HK8 := Lib.hid ((HK7.out.no.trans hk).mono (S' := fun _ => False) (fun k hk e => by omega))
        have bxlt8 := Nat.lt_of_lt_of_le bxlt7 hk.size
        have cx18 := (hk.cell (p := ⟨bx, 1, none⟩) bxlt7 bxb).trans cx17
        have cx28 := (hk.cell (p := ⟨bx, 2, none⟩) bxlt7 bxb).trans cx27
        have bylt8 := Nat.lt_of_lt_of_le bylt7 hk.size
        have cy18 := (hk.cell (p := ⟨by_, 1, none⟩) bylt7 by_b).trans cy17
        have cy28 := (hk.cell (p := ⟨by_, 2, none⟩) bylt7 by_b).trans cy27
        clear hcut hS hN hI hk Hadd Ha7 Hb7 Hc7 Hd7 HK7 bxlt7 bylt7 cx17 cx27 cy17 cy27
        have hIa : ∀ n, InL La1 n ↔ InL (R.take (i + 1)) n := fun n => by rw [HIa7.out n, HIa.out n, inl_snoc Hri.out]
        have hIb : ∀ n, InL Lb1 n ↔ ∃ j, j < i + 1 ∧ ∃ r, R[(j + k) % len]? = some r ∧ r.1 ≤ n ∧ n < r.2 := fun n => by
          rw [HIb8.out n, HIb.out n]
          constructor
          · rintro (⟨j, hj, h⟩ | h)
            · exact ⟨j, by omega, h⟩
            · exact ⟨i, by omega, _, Hrm.out, h⟩
          · rintro ⟨j, hj, r, hr, h⟩
            by_cases hji : j = i
            · subst hji
              rw [Hrm.out] at hr
              cases hr
              exact .inr h
            · exact .inl ⟨j, by omega, r, hr, h⟩
        have HIa1 := Lib.hid hIa
        have HIb1 := Lib.hid hIb
        clear hIa hIb
        by_cases hik : i < k
        · skip
          have Hadd := Lib.hid (g_add (w := w8.drew) ((Hc8.out.1).no (Kp.drew (Kp.refl _ _))) Hc8.out.2 (by omega) p q (by omega) (by omega))
          go_upto_region 10 with (fail)
          go_region_held3 (fun w' => w'.cell? ⟨bx, 1, none⟩ = some (.int .i64 y1) ∧ w'.cell? ⟨bx, 2, none⟩ = some (.int .i64 y2) ∧ Kp (fun k => k = sc) w8 w') (exact kkA bxlt8 bxc cx18 cx28 (by first | assumption | exact (Kp.refl _ _).drew))
            (first
              | (go_at_call 11; (with_reducible refine (Hp.out _).mono ?_); rintro e w' ⟨rfl, rfl⟩)
              | (go_at_call 11; (with_reducible refine (Hq.out _).mono ?_); rintro e w' ⟨rfl, rfl⟩)
              | (go_at_call 15; (with_reducible refine (Hadd.out).mono ?_); rintro e w' ⟨rfl, hch⟩; have hchd := Lib.hid hch.drew; have hx4 := Chg.kp hch.drew; clear hch))
          all_goals
            obtain ⟨Lc1, hS, hN, hI, hk⟩ := hchd.out
            generalize w' = w9 at *
            clear hchd hx4
            dsimp only at hI
            have Ha9 := Lib.hid (And.intro (Ha8.out.1.other Hc8.out.1 hk ac) Ha8.out.2)
            have Hb9 := Lib.hid (And.intro (Hb8.out.1.other Hc8.out.1 hk bc) Hb8.out.2)
            have Hc9 := Lib.hid (And.intro hS hN)
            have Hd9 := Lib.hid (And.intro (Hd8.out.1.other Hc8.out.1 hk (cd).symm) Hd8.out.2)
            have HIc9 := Lib.hid hI
            have HK9 := Lib.hid ((HK8.out.no.trans hk).mono (S' := fun _ => False) (fun k hk e => by omega))
            have bxlt9 := Nat.lt_of_lt_of_le bxlt8 hk.size
            have cx19 := (hk.cell (p := ⟨bx, 1, none⟩) bxlt8 bxc).trans cx18
            have cx29 := (hk.cell (p := ⟨bx, 2, none⟩) bxlt8 bxc).trans cx28
            have bylt9 := Nat.lt_of_lt_of_le bylt8 hk.size
            have cy19 := (hk.cell (p := ⟨by_, 1, none⟩) bylt8 by_c).trans cy18
            have cy29 := (hk.cell (p := ⟨by_, 2, none⟩) bylt8 by_c).trans cy28
            clear hS hN hI hk Hadd Ha8 Hb8 Hc8 Hd8 HK8 bxlt8 bylt8 cx18 cx28 cy18 cy28
            have hIcd : ∀ n, (InL Lc1 n ∨ InL Ld n) ↔ InL (R.take (i + 1)) n := fun n => by
              rw [HIc9.out n, inl_snoc Hri.out, ← HIcd.out n]
              constructor
              · rintro ((h | h) | h)
                · exact .inl (.inl h)
                · exact .inr h
                · exact .inl (.inr h)
              · rintro ((h | h) | h)
                · exact .inl (.inl h)
                · exact .inr h
                · exact .inl (.inr h)
            have HIcd1 := Lib.hid hIcd
            clear hIcd
            go_wp2_with fail
            go_roundw
            case rel => exact ⟨i + 1, La1, Lb1, Lc1, Ld, by omega, by go_num, Ha9, Hb9, Hc9, Hd9, HIa1, HIb1, HIcd1, HK9.out⟩
            case measure => simp [intOf]; omega
        · skip
          have Hadd := Lib.hid (g_add (w := w8.drew) ((Hd8.out.1).no (Kp.drew (Kp.refl _ _))) Hd8.out.2 (by omega) p q (by omega) (by omega))
          go_upto_region 11 with (fail)
          go_region_held3 (fun w' => w'.cell? ⟨bx, 1, none⟩ = some (.int .i64 y1) ∧ w'.cell? ⟨bx, 2, none⟩ = some (.int .i64 y2) ∧ Kp (fun k => k = sd) w8 w') (exact kkA bxlt8 bxd cx18 cx28 (by first | assumption | exact (Kp.refl _ _).drew))
            (first
              | (go_at_call 11; (with_reducible refine (Hp.out _).mono ?_); rintro e w' ⟨rfl, rfl⟩)
              | (go_at_call 11; (with_reducible refine (Hq.out _).mono ?_); rintro e w' ⟨rfl, rfl⟩)
              | (go_at_call 15; (with_reducible refine (Hadd.out).mono ?_); rintro e w' ⟨rfl, hch⟩; have hchd := Lib.hid hch.drew; have hx4 := Chg.kp hch.drew; clear hch))
          all_goals
            obtain ⟨Ld1, hS, hN, hI, hk⟩ := hchd.out
            generalize w' = w9 at *
            clear hchd hx4
            dsimp only at hI
            have Ha9 := Lib.hid (And.intro (Ha8.out.1.other Hd8.out.1 hk ad) Ha8.out.2)
            have Hb9 := Lib.hid (And.intro (Hb8.out.1.other Hd8.out.1 hk bd) Hb8.out.2)
            have Hc9 := Lib.hid (And.intro (Hc8.out.1.other Hd8.out.1 hk cd) Hc8.out.2)
            have Hd9 := Lib.hid (And.intro hS hN)
            have HId9 := Lib.hid hI
            have HK9 := Lib.hid ((HK8.out.no.trans hk).mono (S' := fun _ => False) (fun k hk e => by omega))
            have bxlt9 := Nat.lt_of_lt_of_le bxlt8 hk.size
            have cx19 := (hk.cell (p := ⟨bx, 1, none⟩) bxlt8 bxd).trans cx18
            have cx29 := (hk.cell (p := ⟨bx, 2, none⟩) bxlt8 bxd).trans cx28
            have bylt9 := Nat.lt_of_lt_of_le bylt8 hk.size
            have cy19 := (hk.cell (p := ⟨by_, 1, none⟩) bylt8 by_d).trans cy18
            have cy29 := (hk.cell (p := ⟨by_, 2, none⟩) bylt8 by_d).trans cy28
            clear hS hN hI hk Hadd Ha8 Hb8 Hc8 Hd8 HK8 bxlt8 bylt8 cx18 cx28 cy18 cy28
            have hIcd : ∀ n, (InL Lc n ∨ InL Ld1 n) ↔ InL (R.take (i + 1)) n := fun n => by
              rw [HId9.out n, inl_snoc Hri.out, ← HIcd.out n]
              constructor
              · rintro (h | h | h)
                · exact .inl (.inl h)
                · exact .inl (.inr h)
                · exact .inr h
              · rintro ((h | h) | h)
                · exact .inl h
                · exact .inr (.inl h)
                · exact .inr (.inr h)
            have HIcd1 := Lib.hid hIcd
            clear hIcd
            go_wp2_with fail
            go_roundw
            case rel => exact ⟨i + 1, La1, Lb1, Lc, Ld1, by omega, by go_num, Ha9, Hb9, Hc9, Hd9, HIa1, HIb1, HIcd1, HK9.out⟩
            case measure => simp [intOf]; omega
    · obtain rfl : i = len := by omega
      generalize wr = w2 at *
      rw [List.take_of_length_le (by rw [HRl.out]; omega)] at HIa HIcd
      have NL0 := Lib.hid HSb.out.2
      have hba : Lb = La := norm_ext Lb La HSb.out.2 HSa.out.2 (fun n => by rw [HIb.out n, HIa.out n, rot_all HRl.out])
      subst hba
      have hK2 := Lib.hid hkp
      clear hkp HIb
      obtain ⟨Ac, cc, qc, pc⟩ := HSc.out.1.read
      obtain ⟨Ad, cd2, qd, pd⟩ := HSd.out.1.read
      have hsal := HSa.out.1.lt
      have hsbl := HSb.out.1.lt
      have hscl := HSc.out.1.lt
      have hsdl := HSd.out.1.lt
      have hkb : Kp (fun _ => False) w2 (w2.alloc (.cells #[.slice Ac Lc.length cc, .slice Ad Ld.length cd2] 27)) := (Kp.refl _ w2).alloc _
      have hun := union2 (E := 95) (Whole.new w2 27 #[.slice Ac Lc.length cc, .slice Ad Ld.length cd2]) (hkb.src pc (fun _ _ h => h)) (hkb.src pd (fun _ _ h => h)) (by omega) HSc.out.2 HSd.out.2
      have Hun := Lib.hid hun
      have Hkb := Lib.hid hkb
      clear pc pd hun hkb
      go_wp2_with fail
      with_reducible refine (Hun.out).mono ?_
      rintro e w3 ⟨Au, lu, cu, U, rfl, hsu, hNu, hIu, _, hk3⟩
      have hk3' := Hkb.out.trans hk3
      have hUa : U = Lb := norm_ext U Lb hNu HSa.out.2 (fun n => by rw [hIu n, HIcd.out n, HIa.out n])
      subst hUa
      have hSu := HasSet.copy hsu
      have hk4 := hk3'.alloc (.cells #[.slice Au lu cu] 27)
      have hw3 := hk3'.size
      have NL := Lib.hid HSa.out.2
      clear hsu hk3 hk3' Hun Hkb HIcd hIu NL0
      go_upto_region 14 with (fail)
      generalize w3.alloc (.cells #[.slice Au lu cu] 27) = w4 at *
      generalize w3.heap.size = su at *
      have HUu := Lib.hid hSu
      have HA4 := Lib.hid (HSa.out.1.no hk4)
      have HB4 := Lib.hid (HSb.out.1.no hk4)
      have HK4 := Lib.hid (hK2.out.trans hk4)
      have hul := hSu.lt
      have hal4 := HA4.out.lt
      obtain ⟨Aa, ca, qa, pa⟩ := HA4.out.read
      have hSe := HasSet.copy pa
      have hk5 : Kp (fun _ => False) w4 (w4.alloc (.cells #[.slice Aa U.length ca] 27)) := (Kp.refl _ w4).alloc _
      clear hSu hk4 pa qc qd HSa HSb HSc HSd hK2 hNu
      go_upto_region 15 with (fail)
      generalize w4.alloc (.cells #[.slice Aa U.length ca] 27) = w5 at *
      have hse : sa ≠ w4.heap.size := by omega
      have hbe : sb ≠ w4.heap.size := by have := HB4.out.lt; omega
      have hue : su ≠ w4.heap.size := by omega
      have heW : W.heap.size ≤ w4.heap.size := HK4.out.size
      generalize w4.heap.size = se at *
      have HE5 := Lib.hid hSe
      have HU5 := Lib.hid (HUu.out.no hk5)
      have HA5 := Lib.hid (HA4.out.no hk5)
      have HB5 := Lib.hid (HB4.out.no hk5)
      have HK5 := Lib.hid (HK4.out.trans hk5)
      clear hSe hk5 HUu HA4 HB4 HK4 qa
      go_upto_region 16 with (with_reducible refine (pick_nat _ _ _ (by omega) (by omega)).mono ?_; rintro e w' ⟨l, hl, rfl, rfl⟩)
      go_upto_region 17 with (with_reducible refine (pick_nat _ _ _ (by omega) (by omega)).mono ?_; rintro e w' ⟨h, hh, rfl, rfl⟩)
      have hl2 : l ≤ 89 := by omega
      have hh2 : h ≤ 94 := by omega
      clear hl hh
      have hfew := NL.out.few (by omega)
      have hgc := f_gaps HA5.out (by omega) (l : Int) (h : Int)
      rw [bringS_id (n := (l : Int)) (by omega) (by unfold EndS; omega), bringS_id (n := (h : Int)) (by omega) (by unfold EndS; omega)] at hgc
      obtain ⟨G, hG⟩ : ∃ G, G = gapL U (l : Int) (h : Int) := ⟨_, rfl⟩
      rw [← hG] at hgc
      obtain ⟨hgb, hgi⟩ := gap_in NL.out (l : Int) (h : Int)
      rw [← hG] at hgb hgi
      have Hgb := Lib.hid hgb
      have Hgi := Lib.hid hgi
      have Hgc := Lib.hid hgc
      clear hG hgb hgi hgc
      go_wp2_with fail
      with_reducible refine (Hgc.out).mono ?_
      rintro e w6 ⟨Ag, ng, hng, hng2, rfl, hr6, hk6⟩
      have hng3 : ng ≤ 200 := by omega
      have Hng := Lib.hid hng
      have Hs6 := Lib.hid (hr6.src (encP_one _))
      have HE6 := Lib.hid (HE5.out.no hk6)
      have HU6 := Lib.hid (HU5.out.no hk6)
      have HA6 := Lib.hid (HA5.out.no hk6)
      have HB6 := Lib.hid (HB5.out.no hk6)
      have HK6 := Lib.hid (HK5.out.trans hk6)
      have hel := HE6.out.lt
      have Hadd := Lib.hid (g_add (E := 95) HE6.out NL.out (by omega) l h (by omega) (by omega))
      clear hng hng2 hr6 hk6 HE5 HU5 HA5 HB5 HK5 Hgc
      go_wp2_with fail
      with_reducible refine (Hadd.out).mono ?_
      rintro e w7 ⟨rfl, T0, hE7, hN7, hI7, hk7⟩
      dsimp only at hI7
      have Hs7 := Lib.hid (by have := src_tr (L := G) (by rw [← Hng.out]; exact Hs6.out) hk7 (fun k e => .inl (by obtain rfl : k = se := e; exact HE6.out.one)); rw [← Hng.out] at this; exact this)
      have HU7 := Lib.hid (HU6.out.other HE6.out hk7 hue)
      have HA7 := Lib.hid (HA6.out.other HE6.out hk7 hse)
      have HB7 := Lib.hid (HB6.out.other HE6.out hk7 hbe)
      have HK7 := Lib.hid ((HK6.out.no.trans hk7).mono (S' := fun _ => False) (fun k hk e => by omega))
      have HE7 := Lib.hid hE7
      have HN7 := Lib.hid hN7
      have HI7 := Lib.hid hI7
      have hTf := hN7.few (by omega)
      have hall := f_all hE7 (by omega) (l : Int) (h : Int)
      rw [bringS_id (n := (l : Int)) (by omega) (by unfold EndS; omega), bringS_id (n := (h : Int)) (by omega) (by unfold EndS; omega), gap_all hN7 (fun n h1 h2 => (hI7 n).2 (.inr ⟨h1, h2⟩))] at hall
      have Hall := Lib.hid hall
      clear hE7 hN7 hI7 hk7 hall HE6 HU6 HA6 HB6 HK6 Hs6 Hadd hel
      go_wp2_with fail
      with_reducible refine (Hall.out).mono ?_
      rintro e w8 ⟨rfl, hk8⟩
      have HE8 := Lib.hid (HE7.out.no hk8)
      have HU8 := Lib.hid (HU7.out.no hk8)
      have HA8 := Lib.hid (HA7.out.no hk8)
      have HB8 := Lib.hid (HB7.out.no hk8)
      have HK8 := Lib.hid (HK7.out.trans hk8)
      have Hs8 := Lib.hid (hk8.src Hs7.out (fun _ _ h => h))
      have hel := HE8.out.lt
      clear hk8 HE7 HU7 HA7 HB7 HK7 Hs7 Hall
      go_wp2_with fail
      go_loopw [98] (fun vi wr => ∃ (j : Nat) (T : List Pr), j ≤ ng ∧ vi = .int .i64 j ∧ Hid (HasSet wr se T) ∧ Hid (NormL ((95 : Nat) : Int) T) ∧ Hid (∀ n, InL T n ↔ InL T0 n ∧ ¬ InL (G.take j) n) ∧ Kp (fun k => k = se) w8 wr)
        (fun vi _ => ng - (intOf vi).toNat)
      case atStart => exact ⟨0, T0, by omega, rfl, HE8, HN7, Lib.hid (fun n => ⟨fun h => ⟨h, inl_nil _⟩, fun h => h.1⟩), Kp.refl _ _⟩
      case round =>
        obtain ⟨j, T, hj, rfl, HT, HTN, HTI, hkj⟩ := hrel
        by_cases hlt : j < ng
        · have hsj := src_tr (L := G) (by rw [← Hng.out]; exact Hs8.out) hkj (fun k e => .inl (by obtain rfl : k = se := e; exact HE8.out.one))
          rw [← Hng.out] at hsj
          obtain ⟨gb, goff, gc, hgv, hgbl, hgcell⟩ := Src.wide hsj (by omega) (by omega)
          cases hgv
          obtain ⟨r, hri⟩ : ∃ r, G[j]? = some r := ⟨_, List.getElem?_eq_getElem (by rw [← Hng.out]; exact hlt)⟩
          have hrb := Hgb.out r (List.mem_of_getElem? hri)
          have e0 := hgcell (j * 2) _ (pp0 hri)
          have e1 := hgcell (j * 2 + 1) _ (pp1 hri)
          rw [← Nat.add_assoc] at e1
          have hX := Whole.new wr 35 #[.int .i64 r.1, .int .i64 r.2]
          have hT6 := HT.out.no ((Kp.refl _ wr).alloc (.cells #[.int .i64 r.1, .int .i64 r.2] 35))
          have hk6 := hkj.alloc (.cells #[.int .i64 r.1, .int .i64 r.2] 35)
          have Hnx := Lib.hid (inl_snoc hri)
          obtain ⟨r1, r2⟩ := r
          dsimp only at hrb e0 e1 hX hk6 hT6 Hnx
          clear hsj hgcell hkj hri
          go_upto_region 23 with (fail)
          generalize wr.alloc (.cells #[.int .i64 r1, .int .i64 r2] 35) = w9 at *
          generalize wr.heap.size = bx at *
          have c0 := hX.cell 0
          have c1 := hX.cell 1
          have hxl := hX.lt
          simp at c0 c1
          have Hdrop := Lib.hid (g_dropI hT6 HTN.out (by omega) r1 r2 (by omega) (by omega) (by omega) (by omega))
          have Hk6 := Lib.hid hk6
          clear hX hT6 hk6 e0 e1
          go_wp2_with fail
          with_reducible refine (Hdrop.out).mono ?_
          rintro e w10 ⟨rfl, T', hT7, hN7, hI7, hk7⟩
          dsimp only at hI7
          have HT7 := Lib.hid hT7
          have HN8 := Lib.hid hN7
          have HI8 : Hid (∀ n, InL T' n ↔ InL T0 n ∧ ¬ InL (G.take (j + 1)) n) := Lib.hid (fun n => by
            rw [hI7 n, HTI.out n, Hnx.out n]
            exact ⟨fun h => ⟨h.1.1, fun hh => hh.elim h.1.2 h.2⟩, fun h => ⟨⟨h.1, fun hh => h.2 (.inl hh)⟩, fun hh => h.2 (.inr hh)⟩⟩)
          have Hk7 := Lib.hid (Hk6.out.trans hk7)
          clear hT7 hN7 hI7 hk7 Hdrop
          go_wp2_with fail
          go_roundw
          case rel => exact ⟨j + 1, T', by omega, by go_num, HT7, HN8, HI8, Hk7.out⟩
          case measure => simp [intOf]; omega
        · obtain rfl : j = ng := by omega
          rw [List.take_of_length_le (by rw [← Hng.out]; omega)] at HTI
          have hTU : T = U := norm_ext T U HTN.out NL.out (fun n => by
            rw [HTI.out n, HI7.out n, Hgi.out n]
            constructor
            · rintro ⟨h1 | h1, h2⟩
              · exact h1
              · by_cases hu : InL U n
                · exact hu
                · exact absurd ⟨h1.1, h1.2, hu⟩ h2
            · intro hu
              exact ⟨.inl hu, fun h2 => h2.2.2 hu⟩)
          subst hTU
          have GA0 := Lib.hid (HA8.out.other HE8.out hkj hse)
          have GB0 := Lib.hid (HB8.out.other HE8.out hkj hbe)
          have GU0 := Lib.hid (HU8.out.other HE8.out hkj hue)
          have GE0 := Lib.hid HT.out
          have GK0 := Lib.hid ((HK8.out.no.trans hkj).mono (S' := fun _ => False) (fun k hk e => by omega))
          clear HT HTN HTI hkj HE8 HU8 HA8 HB8 HK8 Hs8 hel HN7 HI7
          have hc := known_c wr
          have Hc := Lib.hid hc
          clear hc
          go_wp2_with fail
          with_reducible refine (Hc.out).mono ?_
          rintro e v1 ⟨rfl, hk⟩
          have GA1 := Lib.hid (GA0.out.no hk)
          have GB1 := Lib.hid (GB0.out.no hk)
          have GU1 := Lib.hid (GU0.out.no hk)
          have GE1 := Lib.hid (GE0.out.no hk)
          have GK1 := Lib.hid (GK0.out.trans hk)
          clear hk Hc GA0 GB0 GU0 GE0 GK0
          have hc := f_spans GA1.out (by have := NL.out.few (by omega); omega)
          have Hc := Lib.hid hc
          clear hc
          go_wp2_with fail
          with_reducible refine (Hc.out).mono ?_
          rintro e v2 ⟨AR1, rfl, hrow, hk⟩
          have GA2 := Lib.hid (GA1.out.no hk)
          have GB2 := Lib.hid (GB1.out.no hk)
          have GU2 := Lib.hid (GU1.out.no hk)
          have GE2 := Lib.hid (GE1.out.no hk)
          have GK2 := Lib.hid (GK1.out.trans hk)
          have R12 := Lib.hid (hrow.src (encP_one _))
          clear hrow
          clear hk Hc GA1 GB1 GU1 GE1 GK1
          have hc := f_spans GB2.out (by have := NL.out.few (by omega); omega)
          have Hc := Lib.hid hc
          clear hc
          go_wp2_with fail
          with_reducible refine (Hc.out).mono ?_
          rintro e v3 ⟨AR2, rfl, hrow, hk⟩
          have GA3 := Lib.hid (GA2.out.no hk)
          have GB3 := Lib.hid (GB2.out.no hk)
          have GU3 := Lib.hid (GU2.out.no hk)
          have GE3 := Lib.hid (GE2.out.no hk)
          have GK3 := Lib.hid (GK2.out.trans hk)
          have R13 := Lib.hid (hk.src R12.out (fun _ _ h => h))
          clear R12
          have R23 := Lib.hid (hrow.src (encP_one _))
          clear hrow
          clear hk Hc GA2 GB2 GU2 GE2 GK2
          have hc := same_yes R13.out R23.out (by have := NL.out.few (by omega); omega)
          have Hc := Lib.hid hc
          clear hc
          go_wp2_with fail
          with_reducible refine (Hc.out).mono ?_
          rintro e v4 ⟨rfl, hk⟩
          have GA4 := Lib.hid (GA3.out.no hk)
          have GB4 := Lib.hid (GB3.out.no hk)
          have GU4 := Lib.hid (GU3.out.no hk)
          have GE4 := Lib.hid (GE3.out.no hk)
          have GK4 := Lib.hid (GK3.out.trans hk)
          have R14 := Lib.hid (hk.src R13.out (fun _ _ h => h))
          clear R13
          have R24 := Lib.hid (hk.src R23.out (fun _ _ h => h))
          clear R23
          clear hk Hc GA3 GB3 GU3 GE3 GK3
          clear R14 R24
          have hc := f_spans GA4.out (by have := NL.out.few (by omega); omega)
          have Hc := Lib.hid hc
          clear hc
          go_wp2_with fail
          with_reducible refine (Hc.out).mono ?_
          rintro e v5 ⟨AR3, rfl, hrow, hk⟩
          have GA5 := Lib.hid (GA4.out.no hk)
          have GB5 := Lib.hid (GB4.out.no hk)
          have GU5 := Lib.hid (GU4.out.no hk)
          have GE5 := Lib.hid (GE4.out.no hk)
          have GK5 := Lib.hid (GK4.out.trans hk)
          have R35 := Lib.hid (hrow.src (encP_one _))
          clear hrow
          clear hk Hc GA4 GB4 GU4 GE4 GK4
          have hc := f_spans GU5.out (by have := NL.out.few (by omega); omega)
          have Hc := Lib.hid hc
          clear hc
          go_wp2_with fail
          with_reducible refine (Hc.out).mono ?_
          rintro e v6 ⟨AR4, rfl, hrow, hk⟩
          have GA6 := Lib.hid (GA5.out.no hk)
          have GB6 := Lib.hid (GB5.out.no hk)
          have GU6 := Lib.hid (GU5.out.no hk)
          have GE6 := Lib.hid (GE5.out.no hk)
          have GK6 := Lib.hid (GK5.out.trans hk)
          have R36 := Lib.hid (hk.src R35.out (fun _ _ h => h))
          clear R35
          have R46 := Lib.hid (hrow.src (encP_one _))
          clear hrow
          clear hk Hc GA5 GB5 GU5 GE5 GK5
          have hc := same_yes R36.out R46.out (by have := NL.out.few (by omega); omega)
          have Hc := Lib.hid hc
          clear hc
          go_wp2_with fail
          with_reducible refine (Hc.out).mono ?_
          rintro e v7 ⟨rfl, hk⟩
          have GA7 := Lib.hid (GA6.out.no hk)
          have GB7 := Lib.hid (GB6.out.no hk)
          have GU7 := Lib.hid (GU6.out.no hk)
          have GE7 := Lib.hid (GE6.out.no hk)
          have GK7 := Lib.hid (GK6.out.trans hk)
          have R37 := Lib.hid (hk.src R36.out (fun _ _ h => h))
          clear R36
          have R47 := Lib.hid (hk.src R46.out (fun _ _ h => h))
          clear R46
          clear hk Hc GA6 GB6 GU6 GE6 GK6
          clear R37 R47
          have hc := f_spans GE7.out (by have := NL.out.few (by omega); omega)
          have Hc := Lib.hid hc
          clear hc
          go_wp2_with fail
          with_reducible refine (Hc.out).mono ?_
          rintro e v8 ⟨AR5, rfl, hrow, hk⟩
          have GA8 := Lib.hid (GA7.out.no hk)
          have GB8 := Lib.hid (GB7.out.no hk)
          have GU8 := Lib.hid (GU7.out.no hk)
          have GE8 := Lib.hid (GE7.out.no hk)
          have GK8 := Lib.hid (GK7.out.trans hk)
          have R58 := Lib.hid (hrow.src (encP_one _))
          clear hrow
          clear hk Hc GA7 GB7 GU7 GE7 GK7
          have hc := f_spans GA8.out (by have := NL.out.few (by omega); omega)
          have Hc := Lib.hid hc
          clear hc
          go_wp2_with fail
          with_reducible refine (Hc.out).mono ?_
          rintro e v9 ⟨AR6, rfl, hrow, hk⟩
          have GA9 := Lib.hid (GA8.out.no hk)
          have GB9 := Lib.hid (GB8.out.no hk)
          have GU9 := Lib.hid (GU8.out.no hk)
          have GE9 := Lib.hid (GE8.out.no hk)
          have GK9 := Lib.hid (GK8.out.trans hk)
          have R59 := Lib.hid (hk.src R58.out (fun _ _ h => h))
          clear R58
          have R69 := Lib.hid (hrow.src (encP_one _))
          clear hrow
          clear hk Hc GA8 GB8 GU8 GE8 GK8
          have hc := same_yes R59.out R69.out (by have := NL.out.few (by omega); omega)
          have Hc := Lib.hid hc
          clear hc
          go_wp2_with fail
          with_reducible refine (Hc.out).mono ?_
          rintro e v10 ⟨rfl, hk⟩
          have GA10 := Lib.hid (GA9.out.no hk)
          have GB10 := Lib.hid (GB9.out.no hk)
          have GU10 := Lib.hid (GU9.out.no hk)
          have GE10 := Lib.hid (GE9.out.no hk)
          have GK10 := Lib.hid (GK9.out.trans hk)
          have R510 := Lib.hid (hk.src R59.out (fun _ _ h => h))
          clear R59
          have R610 := Lib.hid (hk.src R69.out (fun _ _ h => h))
          clear R69
          clear hk Hc GA9 GB9 GU9 GE9 GK9
          clear R510 R610
          go_wp2_with fail
          go_ret
          exact ⟨rfl, GK10.out.below (Nat.le_refl _) (fun _ h => h.elim)⟩
end Go.Proofs.Ytdcbgjbhoejpnaa
