/-
  Package path: elicits, frames.
-/
import Derived.Test.YtoiakdddghbdnaaLgC
import Derived.Test.YtoiakdddghbdnaaWide
namespace Go.Proofs.Ytoiakdddghbdnaa
open Go.RowKit

/-- Does a frame ask for an answer? -/
def elF (f : Fr) : Bool := decide (f.h.k ≠ 2) && decide (f.h.k ≠ 12)
theorem el1_c (w : World) (f : Fr) : Calls Try.prog 41 #[aggF f] w fun e w' => e = .returned (.bool (elF f)) ∧ Kp (fun _ => False) w w' := by
  obtain ⟨⟨fk, fi, fo, fa, fb, fn, ffin⟩, dA, dc, sA, sc, d, s⟩ := f
  have Hl : Hid (elF ⟨⟨fk, fi, fo, fa, fb, fn, ffin⟩, dA, dc, sA, sc, d, s⟩ = (decide (fk ≠ 2) && decide (fk ≠ 12))) := Lib.hid rfl
  by_cases h2 : fk = 2
  · subst h2
    go_enter Try.func41, Try.ntmps41
    go_wp2_with fail
    go_ret
    exact ⟨by rw [Hl.out]; rfl, (Kp.refl _ _).alloc _⟩
  · have b2 : (fk == 2) = false := by simp [h2]
    by_cases h12 : fk = 12
    · subst h12
      clear b2 h2
      go_enter Try.func41, Try.ntmps41
      go_wp2_with fail
      go_ret
      exact ⟨by rw [Hl.out]; rfl, (Kp.refl _ _).alloc _⟩
    · have b12 : (fk == 12) = false := by simp [h12]
      go_enter Try.func41, Try.ntmps41
      go_wp2_with fail
      go_ret
      exact ⟨by rw [Hl.out]; simp [h2, h12], (Kp.refl _ _).alloc _⟩

theorem enter_e1 (args : Array Value) (w : World) : (callFunc 41 args).run Try.prog w = .ok (.enter 41 args) w := by
  go_simp

set_option maxRecDepth 100000 in
set_option maxHeartbeats 1000000 in
theorem if_fm {w : World} {A : Option Addr} {c : Nat} {rs : List Fr} (hx : Src w 9 (.slice A rs.length c) rs.length (encs encF rs)) (hlen : rs.length ≤ 2199023255552) :
    Calls Try.prog 56 #[.slice A rs.length c, .func (.func 41) #[] #[]] w fun e w' => ∃ i : Int, e = .returned (.int .i64 i) ∧ decide (0 ≤ i) = rs.any elF ∧ Kp (fun _ => False) w w' := by
  have Hx := Lib.hid hx
  clear hx
  generalize hn : rs.length = n at *
  have Hn := Lib.hid hn
  clear hn
  have hen := enter_e1
  go_enter Try.func56, Try.ntmps56
  go_wp2_with fail
  go_loopw [8] (fun vi wr => ∃ i : Nat, i ≤ n ∧ vi = .int .i64 i ∧ Hid ((rs.take i).any elF = false) ∧ Kp (fun _ => False) w wr) (fun vi _ => n - (intOf vi).toNat)
  case atStart => exact ⟨0, by omega, rfl, Lib.hid rfl, Kp.refl _ _⟩
  case round =>
    obtain ⟨i, him, rfl, Hno, hkp⟩ := hrel
    have Hkp := Lib.hid hkp
    clear hkp
    by_cases hlt : i < n
    · obtain ⟨b, off, c', hv, hb, hc⟩ := Src.wide Hx.out (by omega) (by omega)
      cases hv
      obtain ⟨r, hri⟩ : ∃ r, rs[i]? = some r := ⟨_, List.getElem?_eq_getElem (by rw [Hn.out]; exact hlt)⟩
      have e0 := hc (i * 9) _ (ff0 hri)
      have e1 := hc (i * 9 + 1) _ (ff1 hri)
      have e2 := hc (i * 9 + 2) _ (ff2 hri)
      have e3 := hc (i * 9 + 3) _ (ff3 hri)
      have e4 := hc (i * 9 + 4) _ (ff4 hri)
      have e5 := hc (i * 9 + 5) _ (ff5 hri)
      have e6 := hc (i * 9 + 6) _ (ff6 hri)
      have e7 := hc (i * 9 + 7) _ (ff7 hri)
      have e8 := hc (i * 9 + 8) _ (ff8 hri)
      rw [← Nat.add_assoc] at e1 e2 e3 e4 e5 e6 e7 e8
      rw [← Hkp.out.cell (p := ⟨b, _, none⟩) hb (fun h => h)] at e0 e1 e2 e3 e4 e5 e6 e7 e8
      have HC := Lib.hid (el1_c wr r)
      have Hri := Lib.hid hri
      have hgr : b < wr.heap.size := Nat.lt_of_lt_of_le hb Hkp.out.size
      clear hri hc
      obtain ⟨⟨fk, fi, fo, fa, fb, fn, ffin⟩, dA, dc, sA, sc, d, s⟩ := r
      dsimp only at e0 e1 e2 e3 e4 e5 e6 e7 e8 HC
      cases hpr : elF ⟨⟨fk, fi, fo, fa, fb, fn, ffin⟩, dA, dc, sA, sc, d, s⟩ with
      | true =>
        rw [hpr] at HC
        have Hpr := Lib.hid hpr
        clear hpr
        go_wp2_with fail
        with_reducible refine (HC.out).mono ?_
        rintro e w1 ⟨rfl, hk⟩
        have Hk := Lib.hid hk
        clear hk
        go_wp2_with fail
        go_ret
        refine ⟨_, rfl, ?_, Hkp.out.trans Hk.out⟩
        rw [List.any_eq_true.2 ⟨_, List.mem_of_getElem? Hri.out, Hpr.out⟩]
        exact decide_eq_true (by omega)
      | false =>
        rw [hpr] at HC
        have Hpr := Lib.hid hpr
        clear hpr
        go_wp2_with fail
        with_reducible refine (HC.out).mono ?_
        rintro e w1 ⟨rfl, hk⟩
        have Hk := Lib.hid hk
        clear hk
        go_wp2_with fail
        go_roundw
        case rel => exact ⟨i + 1, by omega, by go_num, Lib.hid (by rw [any_snoc _ _ _ _ Hri.out, Hno.out, Hpr.out]; rfl), Hkp.out.trans Hk.out⟩
        case measure => simp [intOf]; omega
    · obtain rfl : i = n := by omega
      rw [List.take_of_length_le (by rw [Hn.out]; omega)] at Hno
      go_wp2_with fail
      go_ret
      exact ⟨_, rfl, by rw [Hno.out]; rfl, Hkp.out⟩

theorem cf_fm {w : World} {A : Option Addr} {c : Nat} {rs : List Fr} (hx : Src w 9 (.slice A rs.length c) rs.length (encs encF rs)) (hlen : rs.length ≤ 2199023255552) :
    Calls Try.prog 40 #[.slice A rs.length c, .func (.func 41) #[] #[]] w fun e w' => e = .returned (.bool (rs.any elF)) ∧ Kp (fun _ => False) w w' := by
  have HI := Lib.hid (if_fm hx hlen)
  clear hx
  generalize rs.length = n at *
  go_enter Try.func40, Try.ntmps40
  go_wp2_with fail
  with_reducible refine (HI.out).mono ?_
  rintro e w1 ⟨i, rfl, hi, hk⟩
  have Hi := Lib.hid hi
  clear hi
  go_wp2_with fail
  go_ret
  exact ⟨by rw [← Hi.out]; simp, hk⟩

theorem elicits_any {w : World} {A : Option Addr} {c : Nat} {rs : List Fr} (hx : Src w 9 (.slice A rs.length c) rs.length (encs encF rs)) (hlen : rs.length ≤ 2199023255552) :
    Calls Try.prog 23 #[.slice A rs.length c] w fun e w' => e = .returned (.bool (rs.any elF)) ∧ Kp (fun _ => False) w w' := by
  have HI := Lib.hid (cf_fm hx hlen)
  clear hx
  generalize rs.length = n at *
  go_enter Try.func23, Try.ntmps23
  go_wp2_with fail
  with_reducible refine (HI.out).mono ?_
  rintro e w1 ⟨rfl, hk⟩
  go_wp2_with fail
  go_ret
  exact ⟨rfl, hk⟩

/-- The frames of packets, in order. -/
def frsK (zs : List Pk) : List Fr := zs.flatMap (fun z => z.l)
theorem frsK_snoc {zs : List Pk} {i : Nat} {z : Pk} (h : zs[i]? = some z) : frsK (zs.take (i + 1)) = frsK (zs.take i) ++ z.l := by
  rw [takeL h, frsK, List.flatMap_append]; simp [frsK]
theorem frsK_le (zs : List Pk) (i : Nat) : (frsK (zs.take i)).length ≤ (frsK zs).length := by
  have h : frsK zs = frsK (zs.take i) ++ frsK (zs.drop i) := by rw [frsK, frsK, frsK, ← List.flatMap_append, List.take_append_drop]
  rw [h, List.length_append]; omega
/-- How many of them elicit. -/
def cntK (zs : List Pk) : Nat := (zs.filter fun z => z.el).length

set_option maxRecDepth 100000 in
set_option maxHeartbeats 2000000 in
theorem frames_any {w : World} {F : Nat → Prop} {A : Option Addr} {c : Nat} {zs : List Pk} (hr : Src w 4 (.slice A zs.length c) zs.length (encs encK zs)) (hz : ∀ z ∈ zs, FrsR w F z.fv z.l) (hlen : zs.length ≤ 2199023255552) (htot : (frsK zs).length ≤ 2165000000000) :
    Calls Try.prog 25 #[.slice A zs.length c] w fun e w' => ∃ A', e = .returned (.tuple #[.slice A' (frsK zs).length (frsK zs).length, .int .i64 (cntK zs : Nat)]) ∧
      RowAt w' w.heap.size 9 (.slice A' (frsK zs).length (frsK zs).length) (frsK zs).length (encs encF (frsK zs)) ∧ Kp (fun _ => False) w w' := by
  obtain ⟨i0, hii, hz0, hz1, hz2⟩ := info_parts infoF
  have Hi := Lib.hid hii
  have Hz0 := Lib.hid hz0
  have Hz1 := Lib.hid hz1
  have Hz2 := Lib.hid hz2
  have Hr := Lib.hid hr
  have Hz := Lib.hid hz
  clear hr hz hii hz0 hz1 hz2
  generalize hm : zs.length = m at *
  have Hm := Lib.hid hm
  clear hm
  obtain ⟨T, hT⟩ : ∃ T, T = (frsK zs).length := ⟨_, rfl⟩
  rw [← hT] at htot ⊢
  have HT := Lib.hid hT
  clear hT
  obtain ⟨N, hN⟩ : ∃ N, N = cntK zs := ⟨_, rfl⟩
  rw [← hN]
  have HN := Lib.hid hN
  clear hN
  go_enter Try.func25, Try.ntmps25
  go_wp2_with fail
  go_loopw [4, 5, 10] (fun vo vc vi wr => ∃ (i nn ct : Nat), i ≤ m ∧ ct ≤ i ∧ vi = .int .i64 i ∧ vc = .int .i64 ct ∧ Hid ((frsK (zs.take i)).length = nn) ∧ Hid (cntK (zs.take i) = ct) ∧ wr.ownsRow w.heap.size 31 9 vo nn (encs encF (frsK (zs.take i))) ∧ Kp (fun _ => False) w wr)
    (fun _ _ vi _ => m - (intOf vi).toNat)
  case atStart => exact ⟨0, 0, 0, by omega, by omega, rfl, rfl, Lib.hid rfl, Lib.hid rfl, World.ownsRow_nil _ _ _ _, Kp.refl _ _⟩
  case round =>
    obtain ⟨i, nn, ct, him, hct, rfl, rfl, Hnn, Hct, ho, hkp⟩ := hrel
    obtain ⟨Ao, co, rfl⟩ := own_form ho
    have Ho := Lib.hid ho
    have Hkp := Lib.hid hkp
    clear ho hkp
    by_cases hlt : i < m
    · obtain ⟨b, off, c', hv, hb, hcell⟩ := Src.wide Hr.out (by omega) (by omega)
      cases hv
      obtain ⟨z, hzi⟩ : ∃ z, zs[i]? = some z := ⟨_, List.getElem?_eq_getElem (by rw [Hm.out]; exact hlt)⟩
      have e0 := hcell (i * 4) _ (kk0 hzi)
      have e1 := hcell (i * 4 + 1) _ (kk1 hzi)
      have e2 := hcell (i * 4 + 2) _ (kk2 hzi)
      have e3 := hcell (i * 4 + 3) _ (kk3 hzi)
      rw [← Hkp.out.cell (p := ⟨b, _, none⟩) hb (fun h => h)] at e0 e1 e2 e3
      rw [← Nat.add_assoc] at e1 e2 e3
      have hbw := Nat.lt_of_lt_of_le hb Hkp.out.size
      have hfr := (Hz.out z (List.mem_of_getElem? hzi)).kp Hkp.out (fun _ _ h => h)
      have hsn := frsK_snoc hzi
      have hle := frsK_le zs (i + 1)
      rw [hsn, List.length_append, Hnn.out, ← HT.out] at hle
      have Hsn := Lib.hid hsn
      have Hzi := Lib.hid hzi
      clear hcell hzi hsn
      obtain ⟨z1, z2, z3, zA, zc, zl⟩ := z
      dsimp only at e0 e1 e2 e3 hle
      have hsrc : Src wr 9 (.slice zA zl.length zc) zl.length (encs encF zl) := hfr.row
      have Hsrc := Lib.hid hsrc
      clear hsrc hfr
      obtain ⟨q, hq⟩ : ∃ q, q = zl.length := ⟨_, rfl⟩
      rw [← hq] at e3 hle Hsrc
      have Hq := Lib.hid hq
      clear hq
      have hka : Kp (fun _ => False) wr (wr.alloc (.cells #[.int .i64 z1, .int .i64 z2, .bool z3, .slice zA q zc] 66)) := (Kp.refl _ wr).alloc _
      have Hsrc3 := Lib.hid (hka.src Hsrc.out (fun _ _ h => h))
      have Ho3 : Hid (World.ownsRow (wr.alloc (.cells #[.int .i64 z1, .int .i64 z2, .bool z3, .slice zA q zc] 66)) w.heap.size 31 9 (.slice Ao nn co) nn (encs encF (frsK (zs.take i)))) := Lib.hid (hka.own Ho.out (fun _ _ h => h))
      have hws := Hkp.out.size
      clear hka
      cases z3 with
      | true =>
        go_wp2_with (at_builtin; refine wpList_app_wide rfl (.tmp 14) (.tmp 16) 26 rfl w.heap.size 31 i0 _ 9 104 Try.underlying26 Hi.out Hz0.out Hz1.out Hz2.out rfl (by decide) _ nn _ rfl Ho3.out _ q _ rfl Hsrc3.out (by unfold maxLen; omega) (by omega) (by simp only [World.size_alloc]; omega) ?_; intro v5 w5 hr5 hg5; obtain ⟨A5, c5, rfl⟩ := own_form hr5; have hk5 : Kp (fun _ => False) w w5 := ((Hkp.out.alloc _).grown hg5 (fun i hi hlt => absurd (Ho3.out.lt i hi).1 (by omega))); have hx5 : Kp (fun k => (Value.slice Ao nn co).ownBlock = some k) (wr.alloc (.cells #[.int .i64 z1, .int .i64 z2, .bool true, .slice zA q zc] 66)) w5 := Kp.of_grown hg5 (fun i hi _ => hi); have x2 := (hx5.whole (Whole.new _ _ _) (fun h => by have := (Ho.out.lt _ h).2; omega)).cell 2; have xl := (hx5.whole (Whole.new _ _ _) (fun h => by have := (Ho.out.lt _ h).2; omega)).lt; simp at x2; have Hr5 := Lib.hid hr5; have Hk5 := Lib.hid hk5; clear hr5 hg5 hk5 hx5)
        go_roundw
        case rel => exact ⟨i + 1, nn + q, ct + 1, by omega, by omega, by go_num, by go_num, Lib.hid (by rw [Hsn.out, List.length_append, Hnn.out, Hq.out]), Lib.hid (by unfold cntK; rw [filter_snoc _ _ _ _ Hzi.out, cond_true, List.length_append]; have := Hct.out; unfold cntK at this; rw [this]; rfl), by rw [Hsn.out, encs_append]; exact Hr5.out, Hk5.out⟩
        case measure => simp [intOf]; omega
      | false =>
        go_wp2_with (at_builtin; refine wpList_app_wide rfl (.tmp 14) (.tmp 16) 26 rfl w.heap.size 31 i0 _ 9 104 Try.underlying26 Hi.out Hz0.out Hz1.out Hz2.out rfl (by decide) _ nn _ rfl Ho3.out _ q _ rfl Hsrc3.out (by unfold maxLen; omega) (by omega) (by simp only [World.size_alloc]; omega) ?_; intro v5 w5 hr5 hg5; obtain ⟨A5, c5, rfl⟩ := own_form hr5; have hk5 : Kp (fun _ => False) w w5 := ((Hkp.out.alloc _).grown hg5 (fun i hi hlt => absurd (Ho3.out.lt i hi).1 (by omega))); have hx5 : Kp (fun k => (Value.slice Ao nn co).ownBlock = some k) (wr.alloc (.cells #[.int .i64 z1, .int .i64 z2, .bool false, .slice zA q zc] 66)) w5 := Kp.of_grown hg5 (fun i hi _ => hi); have x2 := (hx5.whole (Whole.new _ _ _) (fun h => by have := (Ho.out.lt _ h).2; omega)).cell 2; have xl := (hx5.whole (Whole.new _ _ _) (fun h => by have := (Ho.out.lt _ h).2; omega)).lt; simp at x2; have Hr5 := Lib.hid hr5; have Hk5 := Lib.hid hk5; clear hr5 hg5 hk5 hx5)
        go_roundw
        case rel => exact ⟨i + 1, nn + q, ct, by omega, by omega, by go_num, rfl, Lib.hid (by rw [Hsn.out, List.length_append, Hnn.out, Hq.out]), Lib.hid (by unfold cntK; rw [filter_snoc _ _ _ _ Hzi.out, cond_false, List.append_nil]; exact Hct.out), by rw [Hsn.out, encs_append]; exact Hr5.out, Hk5.out⟩
        case measure => simp [intOf]; omega
    · obtain rfl : i = m := by omega
      have hta : zs.take i = zs := List.take_of_length_le (by rw [Hm.out]; omega)
      rw [hta] at Hnn Hct Ho
      obtain rfl : nn = T := by rw [HT.out]; exact Hnn.out.symm
      obtain rfl : ct = N := by rw [HN.out]; exact Hct.out.symm
      have hcap := own_le Ho.out
      have Hadd := Lib.hid (own_addr Ho.out)
      go_wp2_with fail
      with_reducible refine (clip_fm hcap Hadd.out).mono ?_
      rintro e w2 ⟨rfl, rfl⟩
      go_wp2_with fail
      go_ret2
      exact ⟨_, rfl, (RowAt.of_own Ho.out).clip, Hkp.out⟩
end Go.Proofs.Ytoiakdddghbdnaa
