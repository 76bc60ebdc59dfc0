/-
  Package ledger: Ack itself.
-/
import Derived.Test.YtelhnhnbfjamhaaLedger4
namespace Go.Proofs.Ytelhnhnbfjamhaa
open Go.RowKit

/-- The greatest number that was acknowledged, and 1. -/
def topR (top : Int) (rs : List Pr) : Int := rs.foldl (fun t r => if 0 ≤ r.1 ∧ r.1 ≤ r.2 then max t (r.2 + 1) else t) top
theorem topR_snoc (top : Int) (rs : List Pr) (i : Nat) (r : Pr) (h : rs[i]? = some r) : topR top (rs.take (i + 1)) = if 0 ≤ r.1 ∧ r.1 ≤ r.2 then max (topR top (rs.take i)) (r.2 + 1) else topR top (rs.take i) := by
  rw [List.take_add_one, h, topR, List.foldl_append]; rfl

set_option maxRecDepth 100000 in
set_option maxHeartbeats 1000000 in
theorem l_ack_bad {w : World} {l B : Nat} {v : Value} {zs : List St} {next top : Int} (h : LAt w l B v zs next top) {A : Option Addr} {c : Nat} {rs : List Pr} (hx : Src w 2 (.slice A rs.length c) rs.length (encs encP rs)) (hlen : rs.length ≤ 1099511627776) (hbad : rs.any (overP next) = true) :
    Calls Try.prog 37 #[.pointer (some ⟨l, 0, none⟩), .slice A rs.length c] w fun e w' => e = .returned (.tuple #[.slice none 0 0, .int .i64 2]) ∧ Kp (fun _ => False) w w' := by
  have hk : Kp (fun _ => False) w ((w.alloc (.cells #[.pointer (some ⟨l, 0, none⟩)] 108)).alloc (.cells #[.slice A rs.length c] 85)) := ((Kp.refl _ w).alloc _).alloc _
  have ha : Whole ((w.alloc (.cells #[.pointer (some ⟨l, 0, none⟩)] 108)).alloc (.cells #[.slice A rs.length c] 85)) w.heap.size 108 #[.pointer (some ⟨l, 0, none⟩)] := (whole_at _ _ rfl rfl).alloc _
  have hC := cf_any (hk.src hx (fun _ _ h => h)) 58 #[.pointer (some ⟨w.heap.size, 0, none⟩)] (overP next) enter_a1 (fun w' r hk' _ => ack1_c (by simpa using (hk'.whole ha (fun h => h)).cell 0) (by simpa using (hk'.whole (hk.whole h.cell (fun h => h)) (fun h => h)).cell 1) r) hlen
  rw [hbad] at hC
  have HC := Lib.hid hC
  have Hk := Lib.hid hk
  clear hx h hk ha hC hbad
  generalize rs.length = n at *
  go_enter Try.func37, Try.ntmps37
  go_wp2_with fail
  with_reducible refine (HC.out).mono ?_
  rintro e w1 ⟨rfl, hk1⟩
  have Hk1 := Lib.hid hk1
  clear hk1
  go_wp2_with fail
  go_ret2
  exact ⟨rfl, Hk.out.trans Hk1.out⟩

set_option maxRecDepth 100000 in
set_option maxHeartbeats 1000000 in
theorem l_ack {w : World} {l B : Nat} {v : Value} {zs : List St} {next top : Int} (h : LAt w l B v zs next top) (hB : B ≤ w.heap.size) {A : Option Addr} {c : Nat} {rs : List Pr} (hx : Src w 2 (.slice A rs.length c) rs.length (encs encP rs)) (hf : ∀ k, (Value.slice A rs.length c).ownBlock = some k → k ≠ l) (hlen : rs.length ≤ 1099511627776) (hok : rs.any (overP next) = false)
    (hn : next ≤ 4611686018427387904) (h0 : 0 ≤ top) (h1 : top ≤ 4611686018427387904) (hzl : zs.length ≤ 1099511627776) :
    Calls Try.prog 37 #[.pointer (some ⟨l, 0, none⟩), .slice A rs.length c] w fun e w' => ∃ r W1, e = .returned (.tuple #[r, .int .i64 0]) ∧ Kp (fun k => k = l) w W1 ∧ Parted W1 w' l B zs next (topR top rs) (hitS rs) r := by
  have hk : Kp (fun _ => False) w ((w.alloc (.cells #[.pointer (some ⟨l, 0, none⟩)] 108)).alloc (.cells #[.slice A rs.length c] 85)) := ((Kp.refl _ w).alloc _).alloc _
  have ha : Whole ((w.alloc (.cells #[.pointer (some ⟨l, 0, none⟩)] 108)).alloc (.cells #[.slice A rs.length c] 85)) w.heap.size 108 #[.pointer (some ⟨l, 0, none⟩)] := (whole_at _ _ rfl rfl).alloc _
  have hb : Whole ((w.alloc (.cells #[.pointer (some ⟨l, 0, none⟩)] 108)).alloc (.cells #[.slice A rs.length c] 85)) (w.heap.size + 1) 85 #[.slice A rs.length c] := whole_at _ _ rfl (by simp)
  have hC := cf_any (hk.src hx (fun _ _ h => h)) 58 #[.pointer (some ⟨w.heap.size, 0, none⟩)] (overP next) enter_a1 (fun w' r hk' _ => ack1_c (by simpa using (hk'.whole ha (fun h => h)).cell 0) (by simpa using (hk'.whole (hk.whole h.cell (fun h => h)) (fun h => h)).cell 1) r) hlen
  rw [hok] at hC
  have HC := Lib.hid hC
  have Hk := Lib.hid hk
  have Ha := Lib.hid ha
  have Hb := Lib.hid hb
  have Hx := Lib.hid hx
  have H := Lib.hid h
  have hll := h.cell.lt
  have Hf := Lib.hid hf
  have Hok : Hid (∀ r ∈ rs, r.2 < next) := Lib.hid (fun r hr => by
    have := List.any_eq_false.1 hok r hr
    simp [overP] at this
    exact this)
  clear hx h hk ha hb hC hok hf
  generalize hm : rs.length = m at *
  have Hm := Lib.hid hm
  clear hm
  go_enter Try.func37, Try.ntmps37
  go_wp2_with fail
  with_reducible refine (HC.out).mono ?_
  rintro e w1 ⟨rfl, hk1⟩
  have hkw : Kp (fun _ => False) w w1 := Hk.out.trans hk1
  have ha1 := hk1.whole Ha.out (fun h => h)
  have hb1 := hk1.whole Hb.out (fun h => h)
  have hl1 := H.out.kp hkw (fun h => h) (fun _ _ h => h)
  have hx1 := hkw.src Hx.out (fun _ _ h => h)
  have b0 := hb1.cell 0
  have hbl := hb1.lt
  simp at b0
  have Hkw := Lib.hid hkw
  have Ha1 := Lib.hid ha1
  have Hb1 := Lib.hid hb1
  have Hl1 := Lib.hid hl1
  have Hx1 := Lib.hid hx1
  clear hk1 hkw ha1 hb1 hl1 hx1
  have hne0 : w.heap.size ≠ l := by omega
  have hne1 : w.heap.size + 1 ≠ l := by omega
  generalize w.heap.size + 1 = b1 at *
  generalize w.heap.size = b0' at *
  go_wp2_with fail
  go_loopw [13] (fun vi wr => ∃ i : Nat, i ≤ m ∧ vi = .int .i64 i ∧ LAt wr l B v zs next (topR top (rs.take i)) ∧ Kp (fun k => k = l) w1 wr ∧ 0 ≤ topR top (rs.take i) ∧ topR top (rs.take i) ≤ 4611686018427387904)
    (fun vi _ => m - (intOf vi).toNat)
  case atStart => exact ⟨0, by omega, rfl, Hl1.out, Kp.refl _ _, h0, h1⟩
  case round =>
    obtain ⟨i, him, rfl, hl, hkp, ht0, ht1⟩ := hrel
    have Hl := Lib.hid hl
    have Hkp := Lib.hid hkp
    clear hl hkp
    by_cases hlt : i < m
    · obtain ⟨b, off, c', hv, hb, hc⟩ := Src.wide Hx1.out (by omega) (by omega)
      cases hv
      have hbne := Hf.out b rfl
      obtain ⟨r, hri⟩ : ∃ r, rs[i]? = some r := ⟨_, List.getElem?_eq_getElem (by rw [Hm.out]; exact hlt)⟩
      have e0 := hc (i * 2) _ (pp0 hri)
      have e1 := hc (i * 2 + 1) _ (pp1 hri)
      rw [← Nat.add_assoc] at e1
      rw [← Hkp.out.cell (p := ⟨b, _, none⟩) hb hbne] at e0 e1
      have hr2 := Hok.out r (List.mem_of_getElem? hri)
      have Hri := Lib.hid hri
      have hgr : b < wr.heap.size := Nat.lt_of_lt_of_le hb Hkp.out.size
      have Hts : Hid (topR top (rs.take (i + 1)) = if 0 ≤ r.1 ∧ r.1 ≤ r.2 then max (topR top (rs.take i)) (r.2 + 1) else topR top (rs.take i)) := Lib.hid (topR_snoc top rs i r hri)
      clear hri hc
      obtain ⟨r1, r2⟩ := r
      dsimp only at e0 e1 hr2 Hts
      have hka : Kp (fun _ => False) wr (wr.alloc (.cells #[.int .i64 r1, .int .i64 r2] 84)) := (Kp.refl _ wr).alloc _
      have hxw : Whole (wr.alloc (.cells #[.int .i64 r1, .int .i64 r2] 84)) wr.heap.size 84 #[.int .i64 r1, .int .i64 r2] := Whole.new _ _ _
      have hl2 := Hl.out.kp hka (fun h => h) (fun _ _ h => h)
      have hbox := (Hkp.out.trans hka.no).whole Ha1.out hne0
      go_upto_region 6 with (fail)
      generalize topR top (rs.take i) = t at *
      generalize wr.alloc (.cells #[.int .i64 r1, .int .i64 r2] 84) = w3 at hka hxw hl2 hbox ⊢
      have x0 := hxw.cell 0
      have x1 := hxw.cell 1
      have l2 := hl2.cell.cell 2
      have f2 := hl2.cell.frozen 2
      have hl3 := hl2.cell.lt
      have a0 := hbox.cell 0
      have hxl := hxw.lt
      have hal := hbox.lt
      simp at x0 x1 l2 a0
      have Hl2 := Lib.hid hl2
      have Hka := Lib.hid hka
      have hxne : wr.heap.size ≠ l := by have := Hl.out.cell.lt; omega
      clear hka hxw hl2 hbox e0 e1
      generalize wr.heap.size = bx at *
      by_cases t1 : 0 ≤ r1
      · by_cases t2 : r1 ≤ r2
        · rw [if_pos ⟨t1, t2⟩] at Hts
          go_wp2_with fail
          go_region
          all_goals
            go_wp2_with fail
            go_roundw
            case rel =>
              have hmax : max t (r2 + 1) = if t < r2 + 1 then r2 + 1 else t := by rw [Int.max_def]; split <;> split <;> omega
              have hset : Kp (fun k => k = l) w1 (w3.setCell ⟨l, 2, none⟩ (.int .i64 (if t < r2 + 1 then r2 + 1 else t))) := Kp.set (S := fun k => k = l) (Hkp.out.trans Hka.out.no) (p := ⟨l, 2, none⟩) (.inl rfl) _
              exact ⟨i + 1, by omega, by go_num, by rw [Hts.out, hmax]; exact (Hl2.out.set2 _).kp ((Kp.refl (fun _ => False) _).drew) (fun h => h) (fun _ _ h => h), hset.drew, by rw [Hts.out]; omega, by rw [Hts.out]; omega⟩
            case measure => simp [intOf]; omega
        · rw [if_neg (fun h => t2 h.2)] at Hts
          go_wp2_with fail
          go_roundw
          case rel => exact ⟨i + 1, by omega, by go_num, by rw [Hts.out]; exact Hl2.out, Hkp.out.trans Hka.out.no, by rw [Hts.out]; exact ht0, by rw [Hts.out]; exact ht1⟩
          case measure => simp [intOf]; omega
      · rw [if_neg (fun h => t1 h.1)] at Hts
        go_wp2_with fail
        go_roundw
        case rel => exact ⟨i + 1, by omega, by go_num, by rw [Hts.out]; exact Hl2.out, Hkp.out.trans Hka.out.no, by rw [Hts.out]; exact ht0, by rw [Hts.out]; exact ht1⟩
        case measure => simp [intOf]; omega
    · obtain rfl : i = m := by omega
      have hta : rs.take i = rs := List.take_of_length_le (by rw [Hm.out]; omega)
      rw [hta] at Hl
      have a0 := (Hkp.out.whole Ha1.out hne0).cell 0
      have hal := (Hkp.out.whole Ha1.out hne0).lt
      simp at a0
      have hbw := Hkp.out.whole Hb1.out hne1
      have hxw := Hkp.out.src Hx1.out Hf.out
      have hs0 := Hkp.out.size
      have hs1 := Hkw.out.size
      have hP := l_part Hl.out (by omega) 60 #[.pointer (some ⟨b1, 0, none⟩)] (hitS rs) enter_a2 (fun w' z hk _ => by
        refine ack2_c (by have := (hk.whole hbw (fun h => h)).cell 0; rw [Hm.out]; simpa using this) (by rw [Hm.out]; exact hk.src hxw (fun _ _ h => h)) (by rw [Hm.out]; exact hlen) z) hzl
      have HP := Lib.hid hP
      have Hkl : Hid (Kp (fun k => k = l) w wr) := Lib.hid (Hkw.out.no.trans Hkp.out)
      clear hbw hxw hP
      go_wp2_with fail
      with_reducible refine (HP.out).mono ?_
      rintro e w2 ⟨r, rfl, hp⟩
      have Hp := Lib.hid hp
      clear hp
      go_wp2_with fail
      go_ret2
      exact ⟨_, _, rfl, Hkl.out, Hp.out⟩
end Go.Proofs.Ytelhnhnbfjamhaa
