/-
  Package ledger: Take, Lose, Flight; what a packet row is asked.
-/
import Derived.Test.YtelhnhnbfjamhaaLedger2
namespace Go.Proofs.Ytelhnhnbfjamhaa
open Go.RowKit

theorem enter_take (args : Array Value) (w : World) : (callFunc 63 args).run Try.prog w = .ok (.enter 63 args) w := by
  go_simp
theorem enter_lose (args : Array Value) (w : World) : (callFunc 62 args).run Try.prog w = .ok (.enter 62 args) w := by
  go_simp

theorem take_c (w : World) (z : St) :
    Calls Try.prog 63 #[aggS z] w fun e w' => e = .returned (.bool true) ∧ Kp (fun _ => False) w w' := by
  obtain ⟨z1, z2, z3⟩ := z
  go_enter Try.func63, Try.ntmps63
  go_wp2_with fail
  go_ret
  exact ⟨rfl, (Kp.refl _ _).alloc _⟩

theorem l_take {w : World} {l B : Nat} {v : Value} {zs : List St} {next top : Int} (h : LAt w l B v zs next top) (hB : B ≤ w.heap.size) (hlen : zs.length ≤ 1099511627776) :
    Calls Try.prog 45 #[.pointer (some ⟨l, 0, none⟩)] w fun e w' => ∃ r, e = .returned r ∧ Parted w w' l B zs next top (fun _ => true) r := by
  have HP := Lib.hid (l_part h hB 63 #[] (fun _ => true) enter_take (fun w' z _ _ => take_c w' z) hlen)
  clear h
  go_enter Try.func45, Try.ntmps45
  go_wp2_with fail
  with_reducible refine (HP.out).mono ?_
  rintro e w1 ⟨r, rfl, hp⟩
  have Hp := Lib.hid hp
  clear hp
  go_wp2_with fail
  go_ret
  exact ⟨_, rfl, Hp.out⟩

/-- Which are lost. -/
def lostS (top now late : Int) (z : St) : Bool := decide (z.1 < top - 1) && (decide (z.1 ≤ top - 1 - 3) || decide (z.2.1 ≤ now - late))

set_option maxRecDepth 100000 in
set_option maxHeartbeats 1000000 in
theorem lose_c {w : World} {a b c : Nat} {acked now late : Int} (ha : w.cell? ⟨a, 0, none⟩ = some (.int .i64 acked)) (hb : w.cell? ⟨b, 0, none⟩ = some (.int .i64 now)) (hc : w.cell? ⟨c, 0, none⟩ = some (.int .i64 late))
    (h1 : -4611686018427387904 ≤ acked ∧ acked ≤ 4611686018427387904) (h2 : -4611686018427387904 ≤ now - late ∧ now - late ≤ 4611686018427387904) (z : St) :
    Calls Try.prog 62 #[aggS z, .pointer (some ⟨a, 0, none⟩), .pointer (some ⟨b, 0, none⟩), .pointer (some ⟨c, 0, none⟩)] w fun e w' => e = .returned (.bool (lostS (acked + 1) now late z)) ∧ Kp (fun _ => False) w w' := by
  obtain ⟨z1, z2, z3⟩ := z
  have hal := World.block_lt_of_cell? w _ ha
  have hbl := World.block_lt_of_cell? w _ hb
  have hcl := World.block_lt_of_cell? w _ hc
  dsimp only at hal hbl hcl
  have hl : lostS (acked + 1) now late (z1, z2, z3) = (decide (z1 < acked) && (decide (z1 ≤ acked - 3) || decide (z2 ≤ now - late))) := by
    rw [lostS, show acked + 1 - 1 = acked by omega]
  have Hl := Lib.hid hl
  clear hl
  by_cases t1 : z1 < acked
  · by_cases t2 : z1 ≤ acked - 3
    · go_enter Try.func62, Try.ntmps62
      go_wp2_with fail
      go_ret
      exact ⟨by rw [Hl.out, decide_eq_true t1, decide_eq_true t2]; rfl, (Kp.refl _ _).alloc _⟩
    · by_cases t3 : z2 ≤ now - late
      · go_enter Try.func62, Try.ntmps62
        go_wp2_with fail
        go_ret
        exact ⟨by rw [Hl.out, decide_eq_true t1, decide_eq_false (by omega), decide_eq_true t3]; rfl, (Kp.refl _ _).alloc _⟩
      · go_enter Try.func62, Try.ntmps62
        go_wp2_with fail
        go_ret
        exact ⟨by rw [Hl.out, decide_eq_true t1, decide_eq_false (by omega), decide_eq_false (by omega)]; rfl, (Kp.refl _ _).alloc _⟩
  · go_enter Try.func62, Try.ntmps62
    go_wp2_with fail
    go_ret
    exact ⟨by rw [Hl.out, decide_eq_false (by omega)]; rfl, (Kp.refl _ _).alloc _⟩

set_option maxRecDepth 100000 in
set_option maxHeartbeats 1000000 in
theorem l_lose {w : World} {l B : Nat} {v : Value} {zs : List St} {next top : Int} (h : LAt w l B v zs next top) (hB : B ≤ w.heap.size) (now late : Int) (h0 : 0 ≤ top) (h1 : top ≤ 4611686018427387904) (h2 : -4611686018427387904 ≤ now - late ∧ now - late ≤ 4611686018427387904) (hlen : zs.length ≤ 1099511627776) :
    Calls Try.prog 38 #[.pointer (some ⟨l, 0, none⟩), .int .i64 now, .int .i64 late] w fun e w' => ∃ r W1, e = .returned r ∧ Kp (fun _ => False) w W1 ∧ Parted W1 w' l B zs next top (lostS top now late) r := by
  have H := Lib.hid h
  clear h
  go_enter Try.func38, Try.ntmps38
  go_wp2_with fail
  with_reducible refine (l_acked (H.out.kp (((Kp.refl (fun _ => False) w).alloc _).alloc _) (fun h => h) (fun _ _ h => h)) h0 h1).mono ?_
  rintro e w1 ⟨rfl, rfl⟩
  go_wp2_with fail
  have hk : Kp (fun _ => False) w (((w.alloc (.cells #[.int .i64 now] 3)).alloc (.cells #[.int .i64 late] 3)).alloc (.cells #[.int .i64 (top - 1)] 3)) := (((Kp.refl _ w).alloc _).alloc _).alloc _
  have ha : Whole (((w.alloc (.cells #[.int .i64 now] 3)).alloc (.cells #[.int .i64 late] 3)).alloc (.cells #[.int .i64 (top - 1)] 3)) w.heap.size 3 #[.int .i64 now] := ((whole_at _ _ rfl rfl).alloc _).alloc _
  have hb : Whole (((w.alloc (.cells #[.int .i64 now] 3)).alloc (.cells #[.int .i64 late] 3)).alloc (.cells #[.int .i64 (top - 1)] 3)) (w.heap.size + 1) 3 #[.int .i64 late] := (whole_at _ _ rfl (by simp)).alloc _
  have hc : Whole (((w.alloc (.cells #[.int .i64 now] 3)).alloc (.cells #[.int .i64 late] 3)).alloc (.cells #[.int .i64 (top - 1)] 3)) (w.heap.size + 1 + 1) 3 #[.int .i64 (top - 1)] := whole_at _ _ rfl (by simp)
  generalize ((w.alloc (.cells #[.int .i64 now] 3)).alloc (.cells #[.int .i64 late] 3)).alloc (.cells #[.int .i64 (top - 1)] 3) = w1 at hk ha hb hc ⊢
  have hl1 := H.out.kp hk (fun h => h) (fun _ _ h => h)
  have hP := l_part hl1 (Nat.le_trans hB hk.size) 62 #[.pointer (some ⟨w.heap.size + 1 + 1, 0, none⟩), .pointer (some ⟨w.heap.size, 0, none⟩), .pointer (some ⟨w.heap.size + 1, 0, none⟩)] (lostS top now late) enter_lose (fun w' z hk' _ => by
    have := lose_c (z := z) (by simpa using (hk'.whole hc (fun h => h)).cell 0) (by simpa using (hk'.whole ha (fun h => h)).cell 0) (by simpa using (hk'.whole hb (fun h => h)).cell 0) (by omega) h2
    rw [show top - 1 + 1 = top by omega] at this
    exact this) hlen
  have HP := Lib.hid hP
  have Hk := Lib.hid hk
  clear hk ha hb hc hl1 hP
  with_reducible refine (HP.out).mono ?_
  rintro e w2 ⟨r, rfl, hp⟩
  have Hp := Lib.hid hp
  clear hp
  go_wp2_with fail
  go_ret
  exact ⟨_, _, rfl, Hk.out, Hp.out⟩

set_option maxRecDepth 100000 in
set_option maxHeartbeats 1000000 in
theorem l_flight {w : World} {l B : Nat} {v : Value} {zs : List St} {next top : Int} (h : LAt w l B v zs next top) (hlen : zs.length ≤ 1099511627776) :
    Calls Try.prog 40 #[.pointer (some ⟨l, 0, none⟩)] w fun e w' => e = .returned (.int .i64 ((zs.filter fun z => z.2.2).length : Nat)) ∧ Kp (fun _ => False) w w' := by
  have H := Lib.hid h
  have hll := h.cell.lt
  obtain ⟨A, cap, rfl⟩ := h.row.form
  have c0 := h.cell.cell 0
  simp only [List.getElem?_toArray, List.getElem?_cons_zero] at c0
  clear h
  generalize hzl : zs.length = m at *
  have Hzl := Lib.hid hzl
  clear hzl
  go_enter Try.func40, Try.ntmps40
  go_wp2_with fail
  go_loopw [3, 11] (fun vs vi wr => ∃ (i n : Nat), i ≤ m ∧ n ≤ i ∧ vi = .int .i64 i ∧ vs = .int .i64 n ∧ Hid (((zs.take i).filter fun z => z.2.2).length = n) ∧ Kp (fun _ => False) w wr)
    (fun _ vi _ => m - (intOf vi).toNat)
  case atStart => exact ⟨0, 0, by omega, by omega, rfl, rfl, Lib.hid rfl, Kp.refl _ _⟩
  case round =>
    obtain ⟨i, n, him, hn, rfl, rfl, Hn, hkp⟩ := hrel
    have Hkp := Lib.hid hkp
    clear hkp
    by_cases hlt : i < m
    · obtain ⟨b, off, c', hv, _, hb, _, _, _, hcell⟩ := H.out.row.full (by rw [Hzl.out]; omega)
      cases hv
      obtain ⟨z, hzi⟩ : ∃ z, zs[i]? = some z := ⟨_, List.getElem?_eq_getElem (by rw [Hzl.out]; exact hlt)⟩
      have e0 := hcell (i * 4) _ (ss0 hzi)
      have e1 := hcell (i * 4 + 1) _ (ss1 hzi)
      have e2 := hcell (i * 4 + 2) _ (ss2 hzi)
      have e3 := hcell (i * 4 + 3) _ (ss3 hzi)
      rw [← Hkp.out.cell (p := ⟨b, _, none⟩) hb (fun h => h)] at e0 e1 e2 e3
      rw [← Nat.add_assoc] at e1 e2 e3
      have Hzi := Lib.hid hzi
      clear hcell hzi
      obtain ⟨z1, z2, z3⟩ := z
      dsimp only at e0 e1 e2 e3
      cases z3 with
      | true =>
        go_wp2_with fail
        go_roundw
        case rel => exact ⟨i + 1, n + 1, by omega, by omega, by go_num, by go_num, Lib.hid (by rw [filter_snoc _ _ _ _ Hzi.out, cond_true, List.length_append, Hn.out]; rfl), Hkp.out.alloc _⟩
        case measure => simp [intOf]; omega
      | false =>
        go_wp2_with fail
        go_roundw
        case rel => exact ⟨i + 1, n, by omega, by omega, by go_num, rfl, Lib.hid (by rw [filter_snoc _ _ _ _ Hzi.out, cond_false, List.append_nil]; exact Hn.out), Hkp.out.alloc _⟩
        case measure => simp [intOf]; omega
    · obtain rfl : i = m := by omega
      rw [List.take_of_length_le (by rw [Hzl.out]; omega)] at Hn
      go_wp2_with fail
      go_ret
      exact ⟨by rw [Hn.out]; rfl, Hkp.out⟩
end Go.Proofs.Ytelhnhnbfjamhaa
