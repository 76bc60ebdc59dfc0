/-
  Package path: Probe.
-/
import Derived.Test.YtoiakdddghbdnaaPathL
namespace Go.Proofs.Ytoiakdddghbdnaa
open Go.RowKit

/-- All that are out are lost. -/
def probeS (s : PS) : PS := ⟨{ s.r with B := s.r.B + 1 }, s.q, [], s.next, s.top⟩
theorem wait_bounds {r : R4} (h : r.Inv) : 1 ≤ r.wait ∧ r.wait ≤ 32 := by
  have hb := R4.base_bounds h
  have := R4.dbl_bounds (R4.times r.B) r.base (by omega) hb.2
  unfold R4.wait
  omega

set_option maxRecDepth 100000 in
set_option maxHeartbeats 1000000 in
theorem p_probe_no {w : World} {p : Nat} {tc : TypeId} {cs : Array Value} {v : Value} {s : PS} (h : PIn w p tc cs v s) (now : Int) (hnow : 0 ≤ now ∧ now ≤ 4611686018427380000) (hzl : s.zs.length ≤ 2199023255552) (hno : (oldK s.zs).2 = false ∨ now - s.r.wait < (oldK s.zs).1) :
    Calls Try.prog 13 #[.pointer (some ⟨p, 0, none⟩), .int .i64 now] w fun e w' => e = .returned (.tuple #[.slice none 0 0, .bool false]) ∧ Kp (fun _ => False) w w' := by
  have HO := Lib.hid (l_oldest h.led hzl)
  have hpl := h.led.cell.lt
  obtain ⟨wt, hwt⟩ : ∃ wt, wt = s.r.wait := ⟨_, rfl⟩
  have hwb : 1 ≤ wt ∧ wt ≤ 32 := by rw [hwt]; exact wait_bounds h.rI
  have HW : Hid (∀ w', Kp (fun _ => False) w w' → Calls Try.prog 32 #[.pointer (some ⟨p, 0, none⟩)] w' fun e w2 => e = .returned (.int .i64 wt) ∧ Kp (fun _ => False) w' w2) := Lib.hid (fun w' hk => by
    rw [hwt]
    refine (wait_any (h.no hk).isR h.rI).mono ?_
    rintro e w2 ⟨rfl, hd⟩
    exact ⟨rfl, Dr.kp hd⟩)
  rw [← hwt] at hno
  clear h hwt
  obtain ⟨⟨oa, ob⟩, ho⟩ : ∃ o, o = oldK s.zs := ⟨_, rfl⟩
  rw [← ho] at HO hno
  clear ho
  dsimp only at HO hno
  cases ob with
  | false =>
    clear hno
    go_enter Try.func13, Try.ntmps13
    go_wp2_with fail
    with_reducible refine (HO.out).mono ?_
    rintro e w1 ⟨rfl, hk⟩
    have Hk := Lib.hid hk
    clear hk
    go_wp2_with fail
    go_ret2
    exact ⟨rfl, Hk.out⟩
  | true =>
    have hat : now - wt < oa := by rcases hno with h | h; cases h; exact h
    clear hno
    go_enter Try.func13, Try.ntmps13
    go_wp2_with fail
    with_reducible refine (HO.out).mono ?_
    rintro e w1 ⟨rfl, hk⟩
    have HW1 := Lib.hid (HW.out w1 hk)
    have Hk := Lib.hid hk
    clear hk
    go_wp2_with fail
    with_reducible refine (HW1.out).mono ?_
    rintro e w2 ⟨rfl, hk2⟩
    have Hk2 := Lib.hid hk2
    clear hk2
    go_wp2_with fail
    go_ret2
    exact ⟨rfl, Hk.out.trans Hk2.out⟩

set_option maxRecDepth 100000 in
set_option maxHeartbeats 4000000 in
theorem p_probe {w : World} {F L : Nat → Prop} {p : Nat} {tc : TypeId} {cs : Array Value} {v : Value} {s : PS} (h : HasP w F L p tc cs v s) (now : Int) (hnow : 0 ≤ now ∧ now ≤ 4611686018427380000)
    (hzl : s.zs.length ≤ 2199023255552) (hfl : (frsK s.zs).length ≤ 2165000000000) (hB : -4611686018427387904 ≤ s.r.B ∧ s.r.B ≤ 4611686018427387904) (hy1 : (oldK s.zs).2 = true) (hy2 : (oldK s.zs).1 ≤ now - s.r.wait) :
    Calls Try.prog 13 #[.pointer (some ⟨p, 0, none⟩), .int .i64 now] w fun e w' => ∃ A', e = .returned (.tuple #[.slice A' (frsK s.zs).length (frsK s.zs).length, .bool true]) ∧
      TellLeft w F L p tc cs v (probeS s) (.slice A' (frsK s.zs).length (frsK s.zs).length) (frsK s.zs) w' := by
  have HO := Lib.hid (l_oldest h.inn.led hzl)
  have hpl := h.inn.led.cell.lt
  obtain ⟨wt, hwt⟩ : ∃ wt, wt = s.r.wait := ⟨_, rfl⟩
  have hwb : 1 ≤ wt ∧ wt ≤ 32 := by rw [hwt]; exact wait_bounds h.inn.rI
  have HW : Hid (∀ w', Kp (fun _ => False) w w' → Calls Try.prog 32 #[.pointer (some ⟨p, 0, none⟩)] w' fun e w2 => e = .returned (.int .i64 wt) ∧ Kp (fun _ => False) w' w2) := Lib.hid (fun w' hk => by
    rw [hwt]
    refine (wait_any (h.inn.no hk).isR h.inn.rI).mono ?_
    rintro e w2 ⟨rfl, hd⟩
    exact ⟨rfl, Dr.kp hd⟩)
  rw [← hwt] at hy2
  clear hwt
  obtain ⟨⟨oa, ob⟩, ho⟩ : ∃ o, o = oldK s.zs := ⟨_, rfl⟩
  rw [← ho] at HO hy1 hy2
  clear ho
  dsimp only at HO hy1 hy2
  subst hy1
  obtain ⟨T, hT⟩ : ∃ T, T = (frsK s.zs).length := ⟨_, rfl⟩
  rw [← hT] at hfl ⊢
  have HT := Lib.hid hT
  have H := Lib.hid h
  obtain ⟨Bk, hBk⟩ : ∃ Bk, Bk = s.r.B := ⟨_, rfl⟩
  rw [← hBk] at hB
  have HBk := Lib.hid hBk
  clear hT h hBk
  go_enter Try.func13, Try.ntmps13
  go_wp2_with fail
  with_reducible refine (HO.out).mono ?_
  rintro e w1 ⟨rfl, hk⟩
  have HW1 := Lib.hid (HW.out w1 hk)
  have Hk := Lib.hid hk
  clear hk
  go_wp2_with fail
  with_reducible refine (HW1.out).mono ?_
  rintro e w2 ⟨rfl, hk2⟩
  have hk := Hk.out.trans hk2
  have hp2 := H.out.no hk
  have c2 := hp2.inn.isR.c2
  rw [← HBk.out] at c2
  have f2 := hp2.inn.isR.f2
  have hp2l := hp2.inn.led.cell.lt
  obtain ⟨cs3, hp3, hr3⟩ : ∃ cs3, PIn (w2.setCell ⟨p, 2, none⟩ (.int .i64 (Bk + 1))) p tc cs3 v { s with r := { s.r with B := s.r.B + 1 } } ∧ ∀ i, 11 ≤ i → cs3[i]? = cs[i]? := by
    have hs := hp2.inn.size
    have hkk := kp_one w2 p 2 (.int .i64 (Bk + 1))
    refine ⟨_, ⟨⟨hp2.inn.led.cell.set 2 (.int .i64 (Bk + 1)), ?_, ?_, ?_, hp2.inn.led.row.kp hkk hp2.inn.led.far, hp2.inn.led.far⟩, ?_, ?_, ?_, ?_, ?_, ?_, ?_, ?_, hp2.inn.rI, hp2.inn.qI⟩, fun i hi => ?_⟩
    · rw [set_get _ _ _ (by omega)]; exact hp2.inn.led.at4
    · rw [set_get _ _ _ (by omega)]; exact hp2.inn.led.at5
    · rw [set_get _ _ _ (by omega)]; exact hp2.inn.led.at6
    · rw [set_get _ _ _ (by omega)]; exact hp2.inn.r0
    · rw [set_get _ _ _ (by omega)]; exact hp2.inn.r1
    · rw [Array.getElem?_setIfInBounds_self_of_lt (by omega), HBk.out]
    · rw [set_get _ _ _ (by omega)]; exact hp2.inn.r3
    · rw [set_get _ _ _ (by omega)]; exact hp2.inn.q0
    · rw [set_get _ _ _ (by omega)]; exact hp2.inn.q1
    · rw [set_get _ _ _ (by omega)]; exact hp2.inn.q2
    · rw [set_get _ _ _ (by omega)]; exact hp2.inn.q3
    · rw [set_get _ _ _ (by omega)]
  have hk3 : Kp (fun k => k = p) w (w2.setCell ⟨p, 2, none⟩ (.int .i64 (Bk + 1))) := hk.no.trans (kp_one w2 p 2 _)
  have Hp3 := Lib.hid hp3
  have Hk3 := Lib.hid hk3
  have HTk := Lib.hid (l_take hp3.led hzl)
  clear hk hk2 hp2 hp3 hk3
  have hB1 : Bk + 1 ≤ 4611686018427387905 := by omega
  go_wp2_with fail
  with_reducible refine (HTk.out).mono ?_
  rintro e w4 ⟨r, rfl, hp⟩
  unfold Parted at hp
  dsimp only at hp
  rw [List.filter_eq_self.2 (fun _ _ => rfl)] at hp
  obtain ⟨Ar, vo, cs4, rfl, hrow, hl4, hag4, hk4, hvo, hap⟩ := hp
  rw [List.filter_eq_nil_iff.2 (fun _ _ => by simp)] at hl4
  have hkw : Kp (fun k => k = p) w w4 := Hk3.out.trans hk4
  have hpF : ∀ k, F k → k ≠ p := fun k e e' => H.out.pF.1 (e' ▸ e)
  have hs3 := Hk3.out.size
  have HFr := Lib.hid (frames_any (F := F) (hrow.src (encK_one _)) (fun z hz => (H.out.con z hz).kp hkw hpF) hzl (by rw [← HT.out]; exact hfl))
  have Hpin := Lib.hid (Hp3.out.led' hl4 hag4)
  obtain ⟨n, hn'⟩ : ∃ n, n = s.zs.length := ⟨_, rfl⟩
  rw [← hn', ← HT.out] at HFr
  rw [← hn']
  have Hkw := Lib.hid hkw
  have Hvo : Hid (∀ k, vo.ownBlock = some k → w.heap.size ≤ k) := Lib.hid (fun k hk => Nat.le_trans hs3 (hvo k hk))
  have Hvl : Hid (∀ k, vo.ownBlock = some k → k < w4.heap.size) := Lib.hid (fun k hk => (hl4.row.lt k hk).2)
  have Hrest : Hid (∀ i, 11 ≤ i → cs4[i]? = cs[i]?) := Lib.hid (fun i hi => (hag4 i (by omega)).trans (hr3 i hi))
  clear hrow hl4 hag4 hk4 hvo hap hkw hs3 hn'
  go_wp2_with fail
  with_reducible refine (HFr.out).mono ?_
  rintro e w5 ⟨A', rfl, hfr, hk5⟩
  have hend : TellLeft w F L p tc cs v (probeS s) (.slice A' T T) (frsK s.zs) w5 := by
    have hs4 := Hkw.out.size
    have hs5 := hk5.size
    obtain ⟨F', h1, h2, h3⟩ := part_end H.out (Hkw.out.trans hk5.no) (Hpin.out.no hk5) (fun z hz => by cases hz) Hvo.out Hrest.out (row := .slice A' T T) (l := frsK s.zs) (by rw [← HT.out]; exact hfr.src (encF_one _)) (fun f hf => frsK_mem hf)
      (fun k hk => ⟨by have := hfr.lt k hk; omega, fun e => by have := Hvl.out k e; have := (hfr.lt k hk).1; omega⟩)
    exact ⟨F', cs4, vo, h1, h2, h3⟩
  have Hend := Lib.hid hend
  clear hfr hk5 hend
  go_wp2_with fail
  go_ret2
  exact ⟨A', rfl, Hend.out⟩
end Go.Proofs.Ytoiakdddghbdnaa
