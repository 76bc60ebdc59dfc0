/-
  argosylaw3: same, known, inside.
-/
import Derived.Test.YtdcbgjbhoejpnaaSpan6
import Derived.ChangeKeysEq
namespace Go.Proofs.Ytdcbgjbhoejpnaa
open Go.RowKit

theorem eq_pr (w : World) (d : Nat) (a b c e : Int) : (Op.equalIn (d + 1 + 1) 35 (.agg #[.int .i64 a, .int .i64 b]) (.agg #[.int .i64 c, .int .i64 e])).run Try.prog w = .ok (a == c && b == e) w := by
  obtain ⟨ii, hii⟩ : ∃ ii, Try.prog.info? 3 = some ii := by
    have : (Try.prog.info? 3).isSome = true := by kernel_rfl
    exact Option.isSome_iff_exists.1 this
  rw [run_equalIn_array (P := Try.prog) w (d + 1) _ _ Try.underlying35 hii]
  have hc : Try.prog.cellsOf 3 = 1 := by kernel_rfl
  have hr : List.range 2 = [0, 1] := by decide
  rw [hc, hr]
  simp only [Op.eqItems, Sem.run_bind]
  go_simp
  by_cases h1 : a = c
  · by_cases h2 : b = e
    · simp [h1, h2]
    · simp [h1, h2]
  · simp [h1]
theorem neq_pr (w : World) (a b c e : Int) : (binOp .neq 35 (.agg #[.int .i64 a, .int .i64 b]) (.agg #[.int .i64 c, .int .i64 e])).run Try.prog w = .ok (.bool (!(a == c && b == e))) w := by
  rw [run_neq_struct, eq_pr]
  rfl

theorem take_next {M N : List Pr} {i : Nat} {r q : Pr} (h : M.take i = N.take i) (hr : M[i]? = some r) (hq : N[i]? = some q) (e : r = q) : M.take (i + 1) = N.take (i + 1) := by
  rw [takeP hr, takeP hq, h, e]

set_option maxRecDepth 100000 in
set_option maxHeartbeats 1000000 in
theorem same_c {w : World} {Aa Ab : Option Addr} {ca cb : Nat} {M N : List Pr} (ha : Src w 2 (.slice Aa M.length ca) M.length (encs encP M)) (hb : Src w 2 (.slice Ab N.length cb) N.length (encs encP N)) (hm63 : M.length ≤ 1152921504606846976) (hn63 : N.length ≤ 1152921504606846976) :
    Calls Try.prog 18 #[.slice Aa M.length ca, .slice Ab N.length cb] w fun e w' => e = .returned (.bool (decide (M = N))) ∧ Kp (fun _ => False) w w' := by
  have HA := Lib.hid ha
  have HB := Lib.hid hb
  clear ha hb
  obtain ⟨res, hres⟩ : ∃ res, res = decide (M = N) := ⟨_, rfl⟩
  rw [← hres]
  have Hres := Lib.hid hres
  clear hres
  generalize hm : M.length = m at *
  generalize hn : N.length = n at *
  have Hm := Lib.hid hm
  have Hn := Lib.hid hn
  clear hm hn
  go_enter Try.func18, Try.ntmps18
  by_cases hmn : m = n
  · have hb0 : ((m : Int) != (n : Int)) = false := by simp [hmn]
    obtain rfl : m = n := hmn
    go_wp2_with fail
    go_loopw [13] (fun vi wr => ∃ (i : Nat), i ≤ m ∧ vi = .int .i64 i ∧ Hid (M.take i = N.take i) ∧ Kp (fun _ => False) w wr)
      (fun vi _ => m - (intOf vi).toNat)
    case atStart => exact ⟨0, by omega, rfl, Lib.hid rfl, Kp.refl _ _⟩
    case round =>
      obtain ⟨i, hin, rfl, Heq, hk⟩ := hrel
      have Hk := Lib.hid hk
      clear hk
      by_cases hlt : i < m
      · obtain ⟨b1, o1, c1, hv1, hb1, hc1⟩ := Src.wide HA.out (by omega) (by omega)
        obtain ⟨b2, o2, c2, hv2, hb2, hc2⟩ := Src.wide HB.out (by omega) (by omega)
        cases hv1
        cases hv2
        obtain ⟨r, hri⟩ : ∃ r, M[i]? = some r := ⟨_, List.getElem?_eq_getElem (by rw [Hm.out]; exact hlt)⟩
        obtain ⟨q, hqi⟩ : ∃ q, N[i]? = some q := ⟨_, List.getElem?_eq_getElem (by rw [Hn.out]; exact hlt)⟩
        have d0 := hc1 (i * 2) _ (pp0 hri)
        have d1 := hc1 (i * 2 + 1) _ (pp1 hri)
        have e0 := hc2 (i * 2) _ (pp0 hqi)
        have e1 := hc2 (i * 2 + 1) _ (pp1 hqi)
        rw [← Hk.out.cell (p := ⟨b1, _, none⟩) hb1 (fun h => h)] at d0 d1
        rw [← Hk.out.cell (p := ⟨b2, _, none⟩) hb2 (fun h => h)] at e0 e1
        rw [← Nat.add_assoc] at d1 e1
        have hbw1 := Nat.lt_of_lt_of_le hb1 Hk.out.size
        have hbw2 := Nat.lt_of_lt_of_le hb2 Hk.out.size
        have Hri := Lib.hid hri
        have Hqi := Lib.hid hqi
        clear hc1 hc2 hri hqi
        obtain ⟨r1, r2⟩ := r
        obtain ⟨q1, q2⟩ := q
        dsimp only at d0 d1 e0 e1
        go_upto_region 6 with (fail)
        by_cases hrq : r1 = q1 ∧ r2 = q2
        · obtain ⟨rfl, rfl⟩ := hrq
          have hne : ∀ w : World, (binOp .neq 35 (.agg #[.int .i64 r1, .int .i64 r2]) (.agg #[.int .i64 r1, .int .i64 r2])).run Try.prog w = .ok (.bool false) w := fun w => by rw [neq_pr]; simp
          go_quiet (fail)
          go_wp2_with fail
          go_roundw
          case rel => exact ⟨i + 1, by omega, by go_num, Lib.hid (take_next Heq.out Hri.out Hqi.out rfl), Hk.out.drewN _⟩
          case measure => simp [intOf]; omega
        · have hne : ∀ w : World, (binOp .neq 35 (.agg #[.int .i64 r1, .int .i64 r2]) (.agg #[.int .i64 q1, .int .i64 q2])).run Try.prog w = .ok (.bool true) w := fun w => by rw [neq_pr]; simp; omega
          have HMN : Hid (¬ M = N) := Lib.hid (fun e => by
            have h1 := Hri.out
            rw [e, Hqi.out] at h1
            cases h1
            exact hrq ⟨rfl, rfl⟩)
          clear hrq
          go_quiet (fail)
          go_wp2_with fail
          go_ret
          exact ⟨by simp [Hres.out, HMN.out], Hk.out.drewN _⟩
      · obtain rfl : i = m := by omega
        have hMN : M = N := by
          have h := Heq.out
          rwa [List.take_of_length_le (by rw [Hm.out]; omega), List.take_of_length_le (by rw [Hn.out]; omega)] at h
        go_wp2_with fail
        go_ret
        exact ⟨by simp [Hres.out, hMN], Hk.out⟩
  · have hb0 : ((m : Int) != (n : Int)) = true := by simp; omega
    have hMN : ¬ M = N := fun e => hmn (by rw [← Hm.out, ← Hn.out, e])
    have HMN := Lib.hid hMN
    clear hMN
    go_wp2_with fail
    go_ret
    exact ⟨by simp [Hres.out, HMN.out], Kp.refl _ _⟩

/-- How many of the flags from a on, up to b. -/
def insN (bs : List Bool) (a : Nat) : Nat → Nat
  | 0 => 0
  | k + 1 => insN bs a k + (if bs[a + k]? = some true then 1 else 0)
theorem insN_le (bs : List Bool) (a : Nat) : ∀ k, insN bs a k ≤ k
  | 0 => Nat.le_refl _
  | k + 1 => by have := insN_le bs a k; rw [insN]; split <;> omega

set_option maxRecDepth 100000 in
set_option maxHeartbeats 1000000 in
theorem inside_c (w : World) (bs : List Bool) (hbs : bs.length = 70) (a b k : Nat) (hab : b = a + k ∨ (b ≤ a ∧ k = 0)) (hb : b ≤ 70) :
    Calls Try.prog 23 #[.agg (bs.map Value.bool).toArray, .int .i64 a, .int .i64 b] w fun e w' => e = .returned (.int .i64 (insN bs a k)) ∧ Kp (fun _ => False) w w' := by
  have hw : Whole (w.alloc (.cells (bs.map Value.bool).toArray 40)) w.heap.size 40 (bs.map Value.bool).toArray := Whole.new _ _ _
  have hk0 : Kp (fun _ => False) w (w.alloc (.cells (bs.map Value.bool).toArray 40)) := (Kp.refl _ w).alloc _
  have Hbs := Lib.hid hbs
  clear hbs
  go_enter Try.func23, Try.ntmps23
  go_upto_region 1 with (fail)
  generalize w.alloc (.cells (bs.map Value.bool).toArray 40) = w1 at *
  have Hw := Lib.hid hw
  have Hk0 := Lib.hid hk0
  have hwl := hw.lt
  clear hw hk0
  generalize w.heap.size = bx at *
  go_wp2_with fail
  go_loopw [7, 8] (fun vn vi wr => ∃ (j : Nat) (c : Nat), j ≤ k ∧ vi = .int .i64 ((a + j : Nat) : Int) ∧ vn = .int .i64 (c : Int) ∧ Hid (insN bs a j = c) ∧ c ≤ j ∧ Kp (fun _ => False) w1 wr)
    (fun _ vi _ => b - (intOf vi).toNat)
  case atStart => exact ⟨0, 0, by omega, by simp, rfl, Lib.hid rfl, by omega, Kp.refl _ _⟩
  case round =>
    obtain ⟨j, c, hjk, rfl, rfl, Hc, hcj, hk⟩ := hrel
    have Hk := Lib.hid hk
    clear hk
    by_cases hlt : a + j < b
    · have hjk2 : j < k := by omega
      obtain ⟨x, hx⟩ : ∃ x, bs[a + j]? = some x := ⟨_, List.getElem?_eq_getElem (by rw [Hbs.out]; omega)⟩
      have x0 := (Hk.out.whole Hw.out (fun h => h)).cell (a + j)
      have hwr := Nat.lt_of_lt_of_le hwl Hk.out.size
      simp only [List.getElem?_toArray, List.getElem?_map, hx, Option.map_some] at x0
      have Hx := Lib.hid hx
      clear hx
      have Hs : Hid (insN bs a (j + 1) = insN bs a j + (if bs[a + j]? = some true then 1 else 0)) := Lib.hid rfl
      cases x with
      | true =>
        go_wp2_with fail
        go_roundw
        case rel => exact ⟨j + 1, c + 1, by omega, by go_num, by go_num, Lib.hid (by rw [Hs.out, Hx.out, if_pos rfl, Hc.out]), by omega, Hk.out⟩
        case measure => simp [intOf]; omega
      | false =>
        go_wp2_with fail
        go_roundw
        case rel => exact ⟨j + 1, c, by omega, by go_num, rfl, Lib.hid (by rw [Hs.out, Hx.out, if_neg (by simp), Hc.out]; rfl), by omega, Hk.out⟩
        case measure => simp [intOf]; omega
    · obtain rfl : j = k := by omega
      go_wp2_with fail
      go_ret
      exact ⟨by simp [Hc.out], Hk0.out.trans Hk.out⟩
end Go.Proofs.Ytdcbgjbhoejpnaa
