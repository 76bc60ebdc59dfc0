/-
  Package ledger, in a path's block: Ack, Oldest.
-/
import Derived.Test.YtoiakdddghbdnaaLgB
namespace Go.Proofs.Ytoiakdddghbdnaa
open Go.RowKit

theorem enter_a1 (args : Array Value) (w : World) : (callFunc 43 args).run Try.prog w = .ok (.enter 43 args) w := by
  go_simp
theorem enter_a2 (args : Array Value) (w : World) : (callFunc 45 args).run Try.prog w = .ok (.enter 45 args) w := by
  go_simp
theorem enter_a21 (args : Array Value) (w : World) : (callFunc 46 args).run Try.prog w = .ok (.enter 46 args) w := by
  go_simp

theorem any_snoc {α : Type} (p : α → Bool) (rs : List α) (i : Nat) (r : α) (h : rs[i]? = some r) : (rs.take (i + 1)).any p = ((rs.take i).any p || p r) := by
  rw [List.take_add_one, h, List.any_append]; simp

set_option maxRecDepth 100000 in
set_option maxHeartbeats 1000000 in
theorem if_any {w : World} {A : Option Addr} {c : Nat} {rs : List Pr} (hx : Src w 2 (.slice A rs.length c) rs.length (encs encP rs)) (f : FuncId) (caps : Array Value) (p : Pr → Bool) (hen : ∀ (args : Array Value) (w : World), (callFunc f args).run Try.prog w = .ok (.enter f args) w)
    (hp : ∀ w' r, Kp (fun _ => False) w w' → r ∈ rs → Calls Try.prog f (#[aggP r] ++ caps) w' fun e w'' => e = .returned (.bool (p r)) ∧ Kp (fun _ => False) w' w'') (hlen : rs.length ≤ 2199023255552) :
    Calls Try.prog 57 #[.slice A rs.length c, .func (.func f) #[] caps] w fun e w' => ∃ i : Int, e = .returned (.int .i64 i) ∧ decide (0 ≤ i) = rs.any p ∧ Kp (fun _ => False) w w' := by
  have Hx := Lib.hid hx
  have Hp := Lib.hid hp
  clear hx hp
  generalize hn : rs.length = n at *
  have Hn := Lib.hid hn
  clear hn
  go_enter Try.func57, Try.ntmps57
  go_wp2_with fail
  go_loopw [8] (fun vi wr => ∃ i : Nat, i ≤ n ∧ vi = .int .i64 i ∧ Hid ((rs.take i).any p = false) ∧ Kp (fun _ => False) w wr) (fun vi _ => n - (intOf vi).toNat)
  case atStart => exact ⟨0, by omega, rfl, Lib.hid rfl, Kp.refl _ _⟩
  case round =>
    obtain ⟨i, him, rfl, Hno, hkp⟩ := hrel
    have Hkp := Lib.hid hkp
    clear hkp
    by_cases hlt : i < n
    · obtain ⟨b, off, c', hv, hb, hc⟩ := Src.wide Hx.out (by omega) (by omega)
      cases hv
      obtain ⟨r, hri⟩ : ∃ r, rs[i]? = some r := ⟨_, List.getElem?_eq_getElem (by rw [Hn.out]; exact hlt)⟩
      have e0 := hc (i * 2) _ (pp0 hri)
      have e1 := hc (i * 2 + 1) _ (pp1 hri)
      rw [← Nat.add_assoc] at e1
      rw [← Hkp.out.cell (p := ⟨b, _, none⟩) hb (fun h => h)] at e0 e1
      have hC : Calls Try.prog f (#[.agg #[.int .i64 r.1, .int .i64 r.2]] ++ caps) _ _ := Hp.out _ r Hkp.out (List.mem_of_getElem? hri)
      have HC := Lib.hid hC
      have Hri := Lib.hid hri
      have hgr : b < wr.heap.size := Nat.lt_of_lt_of_le hb Hkp.out.size
      clear hri hc hC
      obtain ⟨r1, r2⟩ := r
      dsimp only at e0 e1 HC
      cases hpr : p (r1, r2) with
      | true =>
        rw [hpr] at HC
        have Hpr := Lib.hid hpr
        clear hpr
        go_wp2_with fail
        with_reducible refine (HC.out).mono ?_
        rintro e w1 ⟨rfl, hk⟩
        have Hk := Lib.hid hk
        clear hk
        go_wp2_with fail
        go_ret
        refine ⟨_, rfl, ?_, Hkp.out.trans Hk.out⟩
        rw [List.any_eq_true.2 ⟨_, List.mem_of_getElem? Hri.out, Hpr.out⟩]
        exact decide_eq_true (by omega)
      | false =>
        rw [hpr] at HC
        have Hpr := Lib.hid hpr
        clear hpr
        go_wp2_with fail
        with_reducible refine (HC.out).mono ?_
        rintro e w1 ⟨rfl, hk⟩
        have Hk := Lib.hid hk
        clear hk
        go_wp2_with fail
        go_roundw
        case rel => exact ⟨i + 1, by omega, by go_num, Lib.hid (by rw [any_snoc _ _ _ _ Hri.out, Hno.out, Hpr.out]; rfl), Hkp.out.trans Hk.out⟩
        case measure => simp [intOf]; omega
    · obtain rfl : i = n := by omega
      rw [List.take_of_length_le (by rw [Hn.out]; omega)] at Hno
      go_wp2_with fail
      go_ret
      exact ⟨_, rfl, by rw [Hno.out]; rfl, Hkp.out⟩

theorem cf_any {w : World} {A : Option Addr} {c : Nat} {rs : List Pr} (hx : Src w 2 (.slice A rs.length c) rs.length (encs encP rs)) (f : FuncId) (caps : Array Value) (p : Pr → Bool) (hen : ∀ (args : Array Value) (w : World), (callFunc f args).run Try.prog w = .ok (.enter f args) w)
    (hp : ∀ w' r, Kp (fun _ => False) w w' → r ∈ rs → Calls Try.prog f (#[aggP r] ++ caps) w' fun e w'' => e = .returned (.bool (p r)) ∧ Kp (fun _ => False) w' w'') (hlen : rs.length ≤ 2199023255552) :
    Calls Try.prog 42 #[.slice A rs.length c, .func (.func f) #[] caps] w fun e w' => e = .returned (.bool (rs.any p)) ∧ Kp (fun _ => False) w w' := by
  have HI := Lib.hid (if_any hx f caps p hen hp hlen)
  clear hx hp hen
  generalize rs.length = n at *
  go_enter Try.func42, Try.ntmps42
  go_wp2_with fail
  with_reducible refine (HI.out).mono ?_
  rintro e w1 ⟨i, rfl, hi, hk⟩
  have Hi := Lib.hid hi
  clear hi
  go_wp2_with fail
  go_ret
  exact ⟨by rw [← Hi.out]; simp, hk⟩

/-- A run that tells of what was never sent. -/
def overP (next : Int) (r : Pr) : Bool := decide (next ≤ r.2)
theorem ack1_c {w : World} {bl l : Nat} {next : Int} (h0 : w.cell? ⟨bl, 0, none⟩ = some (.pointer (some ⟨l, 4, none⟩))) (h1 : w.cell? ⟨l, 5, none⟩ = some (.int .i64 next)) (r : Pr) :
    Calls Try.prog 43 #[aggP r, .pointer (some ⟨bl, 0, none⟩)] w fun e w' => e = .returned (.bool (overP next r)) ∧ Kp (fun _ => False) w w' := by
  obtain ⟨r1, r2⟩ := r
  have hbl := World.block_lt_of_cell? w _ h0
  have hll := World.block_lt_of_cell? w _ h1
  dsimp only at hbl hll
  go_enter Try.func43, Try.ntmps43
  go_wp2_with fail
  go_quiet (fail)
  all_goals
    go_wp2_with fail
    go_ret
    exact ⟨rfl, ((Kp.refl _ _).alloc _).drewN _⟩

/-- The run holds the number. -/
def hitP (n : Int) (r : Pr) : Bool := decide (0 ≤ r.1) && (decide (r.1 ≤ n) && decide (n ≤ r.2))
theorem ack21_c {w : World} {bx : Nat} {n : Int} (h0 : w.cell? ⟨bx, 0, none⟩ = some (.int .i64 n)) (r : Pr) :
    Calls Try.prog 46 #[aggP r, .pointer (some ⟨bx, 0, none⟩)] w fun e w' => e = .returned (.bool (hitP n r)) ∧ Kp (fun _ => False) w w' := by
  obtain ⟨r1, r2⟩ := r
  have hbl := World.block_lt_of_cell? w _ h0
  dsimp only at hbl
  have Hl : Hid (hitP n (r1, r2) = (decide (0 ≤ r1) && (decide (r1 ≤ n) && decide (n ≤ r2)))) := Lib.hid rfl
  by_cases t1 : 0 ≤ r1
  · by_cases t2 : r1 ≤ n
    · by_cases t3 : n ≤ r2
      · go_enter Try.func46, Try.ntmps46
        go_wp2_with fail
        go_ret
        exact ⟨by rw [Hl.out, decide_eq_true t1, decide_eq_true t2, decide_eq_true t3]; rfl, (Kp.refl _ _).alloc _⟩
      · go_enter Try.func46, Try.ntmps46
        go_wp2_with fail
        go_ret
        exact ⟨by rw [Hl.out, decide_eq_true t1, decide_eq_true t2, decide_eq_false (by omega)]; rfl, (Kp.refl _ _).alloc _⟩
    · go_enter Try.func46, Try.ntmps46
      go_wp2_with fail
      go_ret
      exact ⟨by rw [Hl.out, decide_eq_true t1, decide_eq_false (p := r1 ≤ n) (by omega)]; rfl, (Kp.refl _ _).alloc _⟩
  · go_enter Try.func46, Try.ntmps46
    go_wp2_with fail
    go_ret
    exact ⟨by rw [Hl.out, decide_eq_false (p := 0 ≤ r1) (by omega)]; rfl, (Kp.refl _ _).alloc _⟩

/-- Which are acknowledged. -/
def hitK (rs : List Pr) (z : Pk) : Bool := rs.any (hitP z.n)
theorem ack2_c {w : World} {bs : Nat} {A : Option Addr} {c : Nat} {rs : List Pr} (h0 : w.cell? ⟨bs, 0, none⟩ = some (.slice A rs.length c)) (hx : Src w 2 (.slice A rs.length c) rs.length (encs encP rs)) (hlen : rs.length ≤ 2199023255552) (z : Pk) :
    Calls Try.prog 45 #[aggK z, .pointer (some ⟨bs, 0, none⟩)] w fun e w' => e = .returned (.bool (hitK rs z)) ∧ Kp (fun _ => False) w w' := by
  obtain ⟨z1, z2, z3, zA, zc, zl⟩ := z
  have hbl := World.block_lt_of_cell? w _ h0
  dsimp only at hbl
  have hka : Kp (fun _ => False) w (w.alloc (.cells #[.int .i64 z1, .int .i64 z2, .bool z3, .slice zA zl.length zc] 66)) := (Kp.refl _ w).alloc _
  have hxw : Whole (w.alloc (.cells #[.int .i64 z1, .int .i64 z2, .bool z3, .slice zA zl.length zc] 66)) w.heap.size 66 #[.int .i64 z1, .int .i64 z2, .bool z3, .slice zA zl.length zc] := Whole.new _ _ _
  have HC := Lib.hid (cf_any (hka.src hx (fun _ _ h => h)) 46 #[.pointer (some ⟨w.heap.size, 0, none⟩)] (hitP z1) enter_a21 (fun w' r hk _ => ack21_c (by simpa using (hk.whole hxw (fun h => h)).cell 0) r) hlen)
  have Hka := Lib.hid hka
  clear hx hka hxw
  have Hs : Hid (hitK rs ⟨z1, z2, z3, zA, zc, zl⟩ = rs.any (hitP z1)) := Lib.hid rfl
  generalize rs.length = n at *
  go_enter Try.func45, Try.ntmps45
  go_wp2_with fail
  with_reducible refine (HC.out).mono ?_
  rintro e w1 ⟨rfl, hk⟩
  have Hk := Lib.hid hk
  clear hk
  go_wp2_with fail
  go_ret
  exact ⟨by rw [Hs.out]; rfl, Hka.out.trans Hk.out⟩

/-- The greatest number that was acknowledged, and 1. -/
def topR (top : Int) (rs : List Pr) : Int := rs.foldl (fun t r => if 0 ≤ r.1 ∧ r.1 ≤ r.2 then max t (r.2 + 1) else t) top
theorem topR_snoc (top : Int) (rs : List Pr) (i : Nat) (r : Pr) (h : rs[i]? = some r) : topR top (rs.take (i + 1)) = if 0 ≤ r.1 ∧ r.1 ≤ r.2 then max (topR top (rs.take i)) (r.2 + 1) else topR top (rs.take i) := by
  rw [List.take_add_one, h, topR, List.foldl_append]; rfl

set_option maxRecDepth 100000 in
set_option maxHeartbeats 1000000 in
theorem l_ack_bad {w : World} {l : Nat} {tc : TypeId} {cs : Array Value} {v : Value} {zs : List Pk} {next top : Int} (h : LIn w l tc cs v zs next top) {A : Option Addr} {c : Nat} {rs : List Pr} (hx : Src w 2 (.slice A rs.length c) rs.length (encs encP rs)) (hlen : rs.length ≤ 2199023255552) (hbad : rs.any (overP next) = true) :
    Calls Try.prog 24 #[.pointer (some ⟨l, 4, none⟩), .slice A rs.length c] w fun e w' => e = .returned (.tuple #[.slice none 0 0, .int .i64 2]) ∧ Kp (fun _ => False) w w' := by
  have hk : Kp (fun _ => False) w ((w.alloc (.cells #[.pointer (some ⟨l, 4, none⟩)] 79)).alloc (.cells #[.slice A rs.length c] 29)) := ((Kp.refl _ w).alloc _).alloc _
  have ha : Whole ((w.alloc (.cells #[.pointer (some ⟨l, 4, none⟩)] 79)).alloc (.cells #[.slice A rs.length c] 29)) w.heap.size 79 #[.pointer (some ⟨l, 4, none⟩)] := (whole_at _ _ rfl rfl).alloc _
  have hC := cf_any (hk.src hx (fun _ _ h => h)) 43 #[.pointer (some ⟨w.heap.size, 0, none⟩)] (overP next) enter_a1 (fun w' r hk' _ => ack1_c (by simpa using (hk'.whole ha (fun h => h)).cell 0) ((h.no (hk.trans hk')).c5) r) hlen
  rw [hbad] at hC
  have HC := Lib.hid hC
  have Hk := Lib.hid hk
  clear hx h hk ha hC hbad
  generalize rs.length = n at *
  go_enter Try.func24, Try.ntmps24
  go_wp2_with fail
  with_reducible refine (HC.out).mono ?_
  rintro e w1 ⟨rfl, hk1⟩
  have Hk1 := Lib.hid hk1
  clear hk1
  go_wp2_with fail
  go_ret2
  exact ⟨rfl, Hk.out.trans Hk1.out⟩

set_option maxRecDepth 100000 in
set_option maxHeartbeats 1000000 in
theorem l_ack {w : World} {l : Nat} {tc : TypeId} {cs : Array Value} {v : Value} {zs : List Pk} {next top : Int} (h : LIn w l tc cs v zs next top) {A : Option Addr} {c : Nat} {rs : List Pr} (hx : Src w 2 (.slice A rs.length c) rs.length (encs encP rs)) (hf : ∀ k, (Value.slice A rs.length c).ownBlock = some k → k ≠ l) (hlen : rs.length ≤ 2199023255552) (hok : rs.any (overP next) = false)
    (hn : next ≤ 4611686018427387904) (h0 : 0 ≤ top) (h1 : top ≤ 4611686018427387904) (hzl : zs.length ≤ 2199023255552) :
    Calls Try.prog 24 #[.pointer (some ⟨l, 4, none⟩), .slice A rs.length c] w fun e w' => ∃ r W1 cs1, e = .returned (.tuple #[r, .int .i64 0]) ∧ Agree cs cs1 ∧ Kp (fun k => k = l) w W1 ∧ Parted W1 w' l tc cs1 zs next (topR top rs) (hitK rs) r := by
  have hk : Kp (fun _ => False) w ((w.alloc (.cells #[.pointer (some ⟨l, 4, none⟩)] 79)).alloc (.cells #[.slice A rs.length c] 29)) := ((Kp.refl _ w).alloc _).alloc _
  have ha : Whole ((w.alloc (.cells #[.pointer (some ⟨l, 4, none⟩)] 79)).alloc (.cells #[.slice A rs.length c] 29)) w.heap.size 79 #[.pointer (some ⟨l, 4, none⟩)] := (whole_at _ _ rfl rfl).alloc _
  have hb : Whole ((w.alloc (.cells #[.pointer (some ⟨l, 4, none⟩)] 79)).alloc (.cells #[.slice A rs.length c] 29)) (w.heap.size + 1) 29 #[.slice A rs.length c] := whole_at _ _ rfl (by simp)
  have hC := cf_any (hk.src hx (fun _ _ h => h)) 43 #[.pointer (some ⟨w.heap.size, 0, none⟩)] (overP next) enter_a1 (fun w' r hk' _ => ack1_c (by simpa using (hk'.whole ha (fun h => h)).cell 0) ((h.no (hk.trans hk')).c5) r) hlen
  rw [hok] at hC
  have HC := Lib.hid hC
  have Hk := Lib.hid hk
  have Ha := Lib.hid ha
  have Hb := Lib.hid hb
  have Hx := Lib.hid hx
  have H := Lib.hid h
  have hll := h.cell.lt
  have Hf := Lib.hid hf
  have Hok : Hid (∀ r ∈ rs, r.2 < next) := Lib.hid (fun r hr => by
    have := List.any_eq_false.1 hok r hr
    simp [overP] at this
    exact this)
  clear hx h hk ha hb hC hok hf
  generalize hm : rs.length = m at *
  have Hm := Lib.hid hm
  clear hm
  go_enter Try.func24, Try.ntmps24
  go_wp2_with fail
  with_reducible refine (HC.out).mono ?_
  rintro e w1 ⟨rfl, hk1⟩
  have hkw : Kp (fun _ => False) w w1 := Hk.out.trans hk1
  have ha1 := hk1.whole Ha.out (fun h => h)
  have hb1 := hk1.whole Hb.out (fun h => h)
  have hl1 := H.out.kp hkw (fun h => h) (fun _ _ h => h)
  have hx1 := hkw.src Hx.out (fun _ _ h => h)
  have b0 := hb1.cell 0
  have hbl := hb1.lt
  simp at b0
  have Hkw := Lib.hid hkw
  have Ha1 := Lib.hid ha1
  have Hb1 := Lib.hid hb1
  have Hl1 := Lib.hid hl1
  have Hx1 := Lib.hid hx1
  clear hk1 hkw ha1 hb1 hl1 hx1
  have hne0 : w.heap.size ≠ l := by omega
  have hne1 : w.heap.size + 1 ≠ l := by omega
  generalize w.heap.size + 1 = b1 at *
  generalize w.heap.size = b0' at *
  go_wp2_with fail
  go_loopw [13] (fun vi wr => ∃ i : Nat, i ≤ m ∧ vi = .int .i64 i ∧ (∃ csr, LIn wr l tc csr v zs next (topR top (rs.take i)) ∧ Agree cs csr) ∧ Kp (fun k => k = l) w1 wr ∧ 0 ≤ topR top (rs.take i) ∧ topR top (rs.take i) ≤ 4611686018427387904)
    (fun vi _ => m - (intOf vi).toNat)
  case atStart => exact ⟨0, by omega, rfl, ⟨_, Hl1.out, Agree.refl _⟩, Kp.refl _ _, h0, h1⟩
  case round =>
    obtain ⟨i, him, rfl, ⟨csr, hl, hag⟩, hkp, ht0, ht1⟩ := hrel
    have Hag := Lib.hid hag
    have Hl := Lib.hid hl
    have Hkp := Lib.hid hkp
    clear hl hkp hag
    by_cases hlt : i < m
    · obtain ⟨b, off, c', hv, hb, hc⟩ := Src.wide Hx1.out (by omega) (by omega)
      cases hv
      have hbne := Hf.out b rfl
      obtain ⟨r, hri⟩ : ∃ r, rs[i]? = some r := ⟨_, List.getElem?_eq_getElem (by rw [Hm.out]; exact hlt)⟩
      have e0 := hc (i * 2) _ (pp0 hri)
      have e1 := hc (i * 2 + 1) _ (pp1 hri)
      rw [← Nat.add_assoc] at e1
      rw [← Hkp.out.cell (p := ⟨b, _, none⟩) hb hbne] at e0 e1
      have hr2 := Hok.out r (List.mem_of_getElem? hri)
      have Hri := Lib.hid hri
      have hgr : b < wr.heap.size := Nat.lt_of_lt_of_le hb Hkp.out.size
      have Hts : Hid (topR top (rs.take (i + 1)) = if 0 ≤ r.1 ∧ r.1 ≤ r.2 then max (topR top (rs.take i)) (r.2 + 1) else topR top (rs.take i)) := Lib.hid (topR_snoc top rs i r hri)
      clear hri hc
      obtain ⟨r1, r2⟩ := r
      dsimp only at e0 e1 hr2 Hts
      have hka : Kp (fun _ => False) wr (wr.alloc (.cells #[.int .i64 r1, .int .i64 r2] 37)) := (Kp.refl _ wr).alloc _
      have hxw : Whole (wr.alloc (.cells #[.int .i64 r1, .int .i64 r2] 37)) wr.heap.size 37 #[.int .i64 r1, .int .i64 r2] := Whole.new _ _ _
      have hl2 := Hl.out.kp hka (fun h => h) (fun _ _ h => h)
      have hbox := (Hkp.out.trans hka.no).whole Ha1.out hne0
      go_upto_region 6 with (fail)
      generalize topR top (rs.take i) = t at *
      generalize wr.alloc (.cells #[.int .i64 r1, .int .i64 r2] 37) = w3 at hka hxw hl2 hbox ⊢
      have x0 := hxw.cell 0
      have x1 := hxw.cell 1
      have l2 := hl2.c6
      have f2 := hl2.cell.frozen 6
      have hl3 := hl2.cell.lt
      have a0 := hbox.cell 0
      have hxl := hxw.lt
      have hal := hbox.lt
      simp at x0 x1 a0
      have Hl2 := Lib.hid hl2
      have Hka := Lib.hid hka
      have hxne : wr.heap.size ≠ l := by have := Hl.out.cell.lt; omega
      clear hka hxw hl2 hbox e0 e1
      generalize wr.heap.size = bx at *
      by_cases t1 : 0 ≤ r1
      · by_cases t2 : r1 ≤ r2
        · rw [if_pos ⟨t1, t2⟩] at Hts
          go_wp2_with fail
          go_region
          all_goals
            go_wp2_with fail
            go_roundw
            case rel =>
              have hmax : max t (r2 + 1) = if t < r2 + 1 then r2 + 1 else t := by rw [Int.max_def]; split <;> split <;> omega
              have hset : Kp (fun k => k = l) w1 (w3.setCell ⟨l, 6, none⟩ (.int .i64 (if t < r2 + 1 then r2 + 1 else t))) := Kp.set (S := fun k => k = l) (Hkp.out.trans Hka.out.no) (p := ⟨l, 6, none⟩) (.inl rfl) _
              exact ⟨i + 1, by omega, by go_num, ⟨_, by rw [Hts.out, hmax]; exact (Hl2.out.set6 _).no ((Kp.refl (fun _ => False) _).drew), Hag.out.set 6 ⟨by omega, by omega⟩ _⟩, hset.drew, by rw [Hts.out]; omega, by rw [Hts.out]; omega⟩
            case measure => simp [intOf]; omega
        · rw [if_neg (fun h => t2 h.2)] at Hts
          go_wp2_with fail
          go_roundw
          case rel => exact ⟨i + 1, by omega, by go_num, ⟨_, by rw [Hts.out]; exact Hl2.out, Hag.out⟩, Hkp.out.trans Hka.out.no, by rw [Hts.out]; exact ht0, by rw [Hts.out]; exact ht1⟩
          case measure => simp [intOf]; omega
      · rw [if_neg (fun h => t1 h.1)] at Hts
        go_wp2_with fail
        go_roundw
        case rel => exact ⟨i + 1, by omega, by go_num, ⟨_, by rw [Hts.out]; exact Hl2.out, Hag.out⟩, Hkp.out.trans Hka.out.no, by rw [Hts.out]; exact ht0, by rw [Hts.out]; exact ht1⟩
        case measure => simp [intOf]; omega
    · obtain rfl : i = m := by omega
      have hta : rs.take i = rs := List.take_of_length_le (by rw [Hm.out]; omega)
      rw [hta] at Hl
      have a0 := (Hkp.out.whole Ha1.out hne0).cell 0
      have hal := (Hkp.out.whole Ha1.out hne0).lt
      simp at a0
      have hbw := Hkp.out.whole Hb1.out hne1
      have hxw := Hkp.out.src Hx1.out Hf.out
      have hs0 := Hkp.out.size
      have hs1 := Hkw.out.size
      have hP := l_part Hl.out 45 #[.pointer (some ⟨b1, 0, none⟩)] (hitK rs) enter_a2 (fun w' z hk _ => by
        refine ack2_c (by have := (hk.whole hbw (fun h => h)).cell 0; rw [Hm.out]; simpa using this) (by rw [Hm.out]; exact hk.src hxw (fun _ _ h => h)) (by rw [Hm.out]; exact hlen) z) hzl
      have HP := Lib.hid hP
      have Hkl : Hid (Kp (fun k => k = l) w wr) := Lib.hid (Hkw.out.no.trans Hkp.out)
      clear hbw hxw hP
      go_wp2_with fail
      with_reducible refine (HP.out).mono ?_
      rintro e w2 ⟨r, rfl, hp⟩
      have Hp := Lib.hid hp
      clear hp
      go_wp2_with fail
      go_ret2
      exact ⟨_, _, _, rfl, Hag.out, Hkl.out, Hp.out⟩

theorem find_here {α : Type} {p : α → Bool} {z : α} : ∀ {zs : List α} {i : Nat}, zs[i]? = some z → (∀ y ∈ zs.take i, p y = false) → p z = true → zs.find? p = some z
  | [], i, h, _, _ => by simp at h
  | y :: ys, 0, h, _, hp => by simp only [List.getElem?_cons_zero, Option.some.injEq] at h; subst h; simp [hp]
  | y :: ys, i + 1, h, hn, hp => by
    have hy : p y = false := hn y (by simp)
    rw [List.find?_cons, hy]
    exact find_here (by simpa using h) (fun y hy => hn y (by simp [hy])) hp
/-- The oldest one that elicits. -/
def oldK (zs : List Pk) : Int × Bool := match zs.find? (fun z => z.el) with
  | some z => (z.a, true)
  | none => (0, false)

set_option maxRecDepth 100000 in
set_option maxHeartbeats 1000000 in
theorem l_oldest {w : World} {l : Nat} {tc : TypeId} {cs : Array Value} {v : Value} {zs : List Pk} {next top : Int} (h : LIn w l tc cs v zs next top) (hlen : zs.length ≤ 2199023255552) :
    Calls Try.prog 31 #[.pointer (some ⟨l, 4, none⟩)] w fun e w' => e = .returned (.tuple #[.int .i64 (oldK zs).1, .bool (oldK zs).2]) ∧ Kp (fun _ => False) w w' := by
  have H := Lib.hid h
  have hll := h.cell.lt
  obtain ⟨A, cap, rfl⟩ := h.row.form
  have c0 := h.c4
  clear h
  generalize hzl : zs.length = m at *
  have Hzl := Lib.hid hzl
  clear hzl
  go_enter Try.func31, Try.ntmps31
  go_wp2_with fail
  go_loopw [11] (fun vi wr => ∃ (i : Nat), i ≤ m ∧ vi = .int .i64 i ∧ Hid (∀ y ∈ zs.take i, y.el = false) ∧ Kp (fun _ => False) w wr)
    (fun vi _ => m - (intOf vi).toNat)
  case atStart => exact ⟨0, by omega, rfl, Lib.hid (fun y hy => by simp at hy), Kp.refl _ _⟩
  case round =>
    obtain ⟨i, him, rfl, Hn, hkp⟩ := hrel
    have Hkp := Lib.hid hkp
    clear hkp
    by_cases hlt : i < m
    · obtain ⟨b, off, c', hv, _, hb, _, _, _, hcell⟩ := H.out.row.full (by rw [Hzl.out]; omega)
      cases hv
      obtain ⟨z, hzi⟩ : ∃ z, zs[i]? = some z := ⟨_, List.getElem?_eq_getElem (by rw [Hzl.out]; exact hlt)⟩
      have e0 := hcell (i * 4) _ (kk0 hzi)
      have e1 := hcell (i * 4 + 1) _ (kk1 hzi)
      have e2 := hcell (i * 4 + 2) _ (kk2 hzi)
      have e3 := hcell (i * 4 + 3) _ (kk3 hzi)
      rw [← Hkp.out.cell (p := ⟨b, _, none⟩) hb (fun h => h)] at e0 e1 e2 e3
      rw [← Nat.add_assoc] at e1 e2 e3
      have Hzi := Lib.hid hzi
      clear hcell hzi
      obtain ⟨z1, z2, z3, zA, zc, zl⟩ := z
      dsimp only at e0 e1 e2 e3
      cases z3 with
      | true =>
        have Ho := Lib.hid (find_here (p := fun z : Pk => z.el) Hzi.out Hn.out rfl)
        go_wp2_with fail
        go_ret2
        exact ⟨by unfold oldK; rw [Ho.out]; rfl, Hkp.out.alloc _⟩
      | false =>
        go_wp2_with fail
        go_roundw
        case rel => exact ⟨i + 1, by omega, by go_num, Lib.hid (by
          rw [takeL Hzi.out]
          intro y hy
          rcases List.mem_append.1 hy with hy | hy
          · exact Hn.out y hy
          · rw [List.mem_singleton.1 hy]), Hkp.out.alloc _⟩
        case measure => simp [intOf]; omega
    · obtain rfl : i = m := by omega
      rw [List.take_of_length_le (by rw [Hzl.out]; omega)] at Hn
      have Ho : Hid (zs.find? (fun z => z.el) = none) := Lib.hid (List.find?_eq_none.2 (fun y hy => by simp [Hn.out y hy]))
      go_wp2_with fail
      go_ret2
      exact ⟨by unfold oldK; rw [Ho.out]; rfl, Hkp.out⟩
end Go.Proofs.Ytoiakdddghbdnaa
