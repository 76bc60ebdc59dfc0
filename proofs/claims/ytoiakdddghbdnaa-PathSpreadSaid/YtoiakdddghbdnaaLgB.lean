/-
  Package ledger, in a path's block: part, by whatever test; Take, Lose, Flight, Oldest.
-/
import Derived.Test.YtoiakdddghbdnaaLgA
namespace Go.Proofs.Ytoiakdddghbdnaa
open Go.RowKit

/-- What a part leaves: those that are so, told in a row of their own; the others stay. -/
def Parted (w w' : World) (l : Nat) (tc : TypeId) (cs : Array Value) (zs : List Pk) (next top : Int) (so : Pk → Bool) (e : Value) : Prop :=
  ∃ A vo cs', e = .slice A (zs.filter so).length (zs.filter so).length ∧ RowAt w' w.heap.size 4 (.slice A (zs.filter so).length (zs.filter so).length) (zs.filter so).length (encs encK (zs.filter so)) ∧
    LIn w' l tc cs' vo (zs.filter fun z => !so z) next top ∧ Agree cs cs' ∧ Kp (fun k => k = l) w w' ∧ (∀ k, vo.ownBlock = some k → w.heap.size ≤ k) ∧ (∀ k, e.ownBlock = some k → vo.ownBlock ≠ some k)

set_option maxRecDepth 100000 in
set_option maxHeartbeats 2000000 in
theorem l_part {w : World} {l : Nat} {tc : TypeId} {cs : Array Value} {v : Value} {zs : List Pk} {next top : Int} (h : LIn w l tc cs v zs next top) (f : FuncId) (caps : Array Value) (so : Pk → Bool) (hen : ∀ (args : Array Value) (w : World), (callFunc f args).run Try.prog w = .ok (.enter f args) w)
    (hso : ∀ w' z, Kp (fun _ => False) w w' → z ∈ zs → Calls Try.prog f (#[aggK z] ++ caps) w' fun e w'' => e = .returned (.bool (so z)) ∧ Kp (fun _ => False) w' w'') (hlen : zs.length ≤ 2199023255552) :
    Calls Try.prog 44 #[.pointer (some ⟨l, 4, none⟩), .func (.func f) #[] caps] w fun e w' => ∃ r, e = .returned r ∧ Parted w w' l tc cs zs next top so r := by
  obtain ⟨i0, hii, hz0, hz1, hz2⟩ := info_parts infoK
  have Hi := Lib.hid hii
  have Hz0 := Lib.hid hz0
  have Hz1 := Lib.hid hz1
  have Hz2 := Lib.hid hz2
  have H := Lib.hid h
  have Hso := Lib.hid hso
  have hll := h.cell.lt
  obtain ⟨A, cap, rfl⟩ := h.row.form
  have c0 := h.c4
  clear h hso hii hz0 hz1 hz2
  generalize hzl : zs.length = m at *
  have Hzl := Lib.hid hzl
  clear hzl
  go_enter Try.func44, Try.ntmps44
  go_wp2_with fail
  go_loopw [5, 6, 14] (fun vg vo vi wr => ∃ (i gn on : Nat), i ≤ m ∧ gn ≤ i ∧ on ≤ i ∧ vi = .int .i64 i ∧ Hid (((zs.take i).filter so).length = gn) ∧ Hid (((zs.take i).filter fun z => !so z).length = on) ∧
      RowAt wr w.heap.size 4 vg gn (encs encK ((zs.take i).filter so)) ∧ RowAt wr w.heap.size 4 vo on (encs encK ((zs.take i).filter fun z => !so z)) ∧ Kp (fun _ => False) w wr ∧ ∀ k, vg.ownBlock = some k → vo.ownBlock ≠ some k)
    (fun _ _ vi _ => m - (intOf vi).toNat)
  case atStart => exact ⟨0, 0, 0, by omega, by omega, by omega, rfl, Lib.hid rfl, Lib.hid rfl, RowAt.nil _ _ _, RowAt.nil _ _ _, Kp.refl _ _, fun k hk => by cases hk⟩
  case round =>
    obtain ⟨i, gn, on, him, hgn, hon, rfl, Hgn, Hon, hrg, hro, hkp, hap⟩ := hrel
    obtain ⟨Ag, cg, rfl⟩ := hrg.form
    obtain ⟨Ao, co, rfl⟩ := hro.form
    have Hrg := Lib.hid hrg
    have Hro := Lib.hid hro
    have Hkp := Lib.hid hkp
    have Hap := Lib.hid hap
    clear hrg hro hkp hap
    by_cases hlt : i < m
    · obtain ⟨b, off, c', hv, _, hb, _, _, _, hcell⟩ := H.out.row.full (by rw [Hzl.out]; omega)
      cases hv
      obtain ⟨z, hzi⟩ : ∃ z, zs[i]? = some z := ⟨_, List.getElem?_eq_getElem (by rw [Hzl.out]; exact hlt)⟩
      have e0 := hcell (i * 4) _ (kk0 hzi)
      have e1 := hcell (i * 4 + 1) _ (kk1 hzi)
      have e2 := hcell (i * 4 + 2) _ (kk2 hzi)
      have e3 := hcell (i * 4 + 3) _ (kk3 hzi)
      rw [← Hkp.out.cell (p := ⟨b, _, none⟩) hb (fun h => h)] at e0 e1 e2 e3
      rw [← Nat.add_assoc] at e1 e2 e3
      have hbw := Nat.lt_of_lt_of_le hb Hkp.out.size
      have hzm := List.mem_of_getElem? hzi
      have Hzi := Lib.hid hzi
      clear hcell hzi
      obtain ⟨z1, z2, z3, zA, zc, zl⟩ := z
      dsimp only at e0 e1 e2 e3
      have hka : Kp (fun _ => False) wr (wr.alloc (.cells #[.int .i64 z1, .int .i64 z2, .bool z3, .slice zA zl.length zc] 66)) := (Kp.refl _ wr).alloc _
      have hxw : Whole (wr.alloc (.cells #[.int .i64 z1, .int .i64 z2, .bool z3, .slice zA zl.length zc] 66)) wr.heap.size 66 #[.int .i64 z1, .int .i64 z2, .bool z3, .slice zA zl.length zc] := Whole.new _ _ _
      have hC : Calls Try.prog f (#[.agg #[.int .i64 z1, .int .i64 z2, .bool z3, .slice zA zl.length zc]] ++ caps) _ _ := Hso.out _ ⟨z1, z2, z3, zA, zc, zl⟩ (Hkp.out.trans hka) hzm
      have hk0 : Kp (fun _ => False) w (wr.alloc (.cells #[.int .i64 z1, .int .i64 z2, .bool z3, .slice zA zl.length zc] 66)) := Hkp.out.trans hka
      have hg0 := Hrg.out.kp hka (fun _ _ h => h)
      have ho0 := Hro.out.kp hka (fun _ _ h => h)
      go_upto_region 5 with (fail)
      generalize wr.alloc (.cells #[.int .i64 z1, .int .i64 z2, .bool z3, .slice zA zl.length zc] 66) = w3 at hka hxw hC hk0 hg0 ho0 ⊢
      have HC := Lib.hid hC
      have Hk0 := Lib.hid hk0
      have Hxw := Lib.hid hxw
      have Hg0 := Lib.hid hg0
      have Ho0 := Lib.hid ho0
      have x0 := hxw.cell 0
      have x1 := hxw.cell 1
      have x2 := hxw.cell 2
      have x3 := hxw.cell 3
      simp at x0 x1 x2 x3
      clear hka hxw hzm hC hk0 hg0 ho0 e0 e1 e2 e3
      generalize wr.heap.size = bx at *
      cases hsz : so ⟨z1, z2, z3, zA, zc, zl⟩ with
      | true =>
        rw [hsz] at HC
        go_wp2_with fail
        with_reducible refine (HC.out).mono ?_
        rintro e w4 ⟨rfl, hk4⟩
        have hka : Kp (fun _ => False) w3 (w4.alloc (.cells #[.int .i64 z1, .int .i64 z2, .bool z3, .slice zA zl.length zc] 66)) := hk4.alloc _
        have hkw : Kp (fun _ => False) w (w4.alloc (.cells #[.int .i64 z1, .int .i64 z2, .bool z3, .slice zA zl.length zc] 66)) := Hk0.out.trans hka
        have hxw4 := hk4.whole Hxw.out (fun h => h)
        have x0 := hxw4.cell 0
        have x1 := hxw4.cell 1
        have x2 := hxw4.cell 2
        have x3 := hxw4.cell 3
        have hxl := hxw4.lt
        simp at x0 x1 x2 x3
        have HG := Lib.hid (RowAt.kp Hg0.out hka (fun _ _ h => h))
        have HO := Lib.hid (RowAt.kp Ho0.out hka (fun _ _ h => h))
        have HS : Hid (Src (w4.alloc (.cells #[.int .i64 z1, .int .i64 z2, .bool z3, .slice zA zl.length zc] 66)) 4 (.slice (some ⟨w4.heap.size, 0, none⟩) 1 1) 1 (encK ⟨z1, z2, z3, zA, zc, zl⟩)) := Lib.hid (srcW _ (Whole.new _ _ _) rfl (fun u hu => by simp [encK] at hu; rcases hu with rfl | rfl | rfl | rfl <;> rfl))
        have Hkw := Lib.hid hkw
        have Hsz := Lib.hid hsz
        clear hk4 hka hkw hxw4 hsz
        go_wp2_with (at_builtin; refine wpList_row rfl (.tmp 21) (.tmp 23) 45 rfl w.heap.size 66 i0 _ 4 48 Try.underlying45 Hi.out Hz0.out Hz1.out Hz2.out rfl (by decide) _ gn _ rfl HG.out _ 1 _ rfl HS.out (by unfold maxLen; omega) (by omega) (by have := Hkw.out.size; exact this) ?_; intro v5 w5 hr5 hg5 hn5; obtain ⟨A5, c5, rfl⟩ := hr5.form; have hk5 : Kp (fun _ => False) w w5 := Hkw.out.grown hg5 (fun i hi hlt => absurd (HG.out.lt i hi).1 (by omega)); have hkm : Kp (fun k => (Value.slice Ag gn cg).ownBlock = some k) _ w5 := Kp.of_grown hg5 (fun i hi _ => hi); have hot := HO.out.kp hkm (fun k ho hg => Hap.out k hg ho); have hap5 : ∀ k, (Value.slice A5 (gn + 1) c5).ownBlock = some k → (Value.slice Ao on co).ownBlock ≠ some k := (fun k hg ho => hn5.elim (fun h => Hap.out k (h ▸ hg) ho) (fun h => by have := h k hg; have := (HO.out.lt k ho).2; omega)); have Hr5 := Lib.hid hr5; have Hk5 := Lib.hid hk5; have Hot := Lib.hid hot; have Hap5 := Lib.hid hap5; clear hr5 hg5 hn5 hk5 hkm hot hap5)
        go_roundw
        case rel => exact ⟨i + 1, gn + 1, on, by omega, by omega, by omega, by go_num, Lib.hid (by rw [filter_snoc _ _ _ _ Hzi.out, Hsz.out]; rw [cond_true, List.length_append, Hgn.out]; rfl), Lib.hid (by rw [filter_snoc _ _ _ _ Hzi.out, Hsz.out]; simpa using Hon.out), by rw [filter_snoc _ _ _ _ Hzi.out, Hsz.out]; rw [cond_true, encs_append, show encs encK [⟨z1, z2, z3, zA, zc, zl⟩] = encK ⟨z1, z2, z3, zA, zc, zl⟩ by simp [encs]]; exact Hr5.out, by rw [filter_snoc _ _ _ _ Hzi.out, Hsz.out]; simpa using Hot.out, Hk5.out, Hap5.out⟩
        case measure => simp [intOf]; omega
      | false =>
        rw [hsz] at HC
        go_wp2_with fail
        with_reducible refine (HC.out).mono ?_
        rintro e w4 ⟨rfl, hk4⟩
        have hka : Kp (fun _ => False) w3 (w4.alloc (.cells #[.int .i64 z1, .int .i64 z2, .bool z3, .slice zA zl.length zc] 66)) := hk4.alloc _
        have hkw : Kp (fun _ => False) w (w4.alloc (.cells #[.int .i64 z1, .int .i64 z2, .bool z3, .slice zA zl.length zc] 66)) := Hk0.out.trans hka
        have hxw4 := hk4.whole Hxw.out (fun h => h)
        have x0 := hxw4.cell 0
        have x1 := hxw4.cell 1
        have x2 := hxw4.cell 2
        have x3 := hxw4.cell 3
        have hxl := hxw4.lt
        simp at x0 x1 x2 x3
        have HG := Lib.hid (RowAt.kp Hg0.out hka (fun _ _ h => h))
        have HO := Lib.hid (RowAt.kp Ho0.out hka (fun _ _ h => h))
        have HS : Hid (Src (w4.alloc (.cells #[.int .i64 z1, .int .i64 z2, .bool z3, .slice zA zl.length zc] 66)) 4 (.slice (some ⟨w4.heap.size, 0, none⟩) 1 1) 1 (encK ⟨z1, z2, z3, zA, zc, zl⟩)) := Lib.hid (srcW _ (Whole.new _ _ _) rfl (fun u hu => by simp [encK] at hu; rcases hu with rfl | rfl | rfl | rfl <;> rfl))
        have Hkw := Lib.hid hkw
        have Hsz := Lib.hid hsz
        clear hk4 hka hkw hxw4 hsz
        go_wp2_with (at_builtin; refine wpList_row rfl (.tmp 25) (.tmp 27) 45 rfl w.heap.size 66 i0 _ 4 48 Try.underlying45 Hi.out Hz0.out Hz1.out Hz2.out rfl (by decide) _ on _ rfl HO.out _ 1 _ rfl HS.out (by unfold maxLen; omega) (by omega) (by have := Hkw.out.size; exact this) ?_; intro v5 w5 hr5 hg5 hn5; obtain ⟨A5, c5, rfl⟩ := hr5.form; have hk5 : Kp (fun _ => False) w w5 := Hkw.out.grown hg5 (fun i hi hlt => absurd (HO.out.lt i hi).1 (by omega)); have hkm : Kp (fun k => (Value.slice Ao on co).ownBlock = some k) _ w5 := Kp.of_grown hg5 (fun i hi _ => hi); have hot := HG.out.kp hkm (fun k hg ho => Hap.out k hg ho); have hap5 : ∀ k, (Value.slice Ag gn cg).ownBlock = some k → (Value.slice A5 (on + 1) c5).ownBlock ≠ some k := (fun k hg ho => hn5.elim (fun h => Hap.out k hg (h ▸ ho)) (fun h => by have := h k ho; have := (HG.out.lt k hg).2; omega)); have Hr5 := Lib.hid hr5; have Hk5 := Lib.hid hk5; have Hot := Lib.hid hot; have Hap5 := Lib.hid hap5; clear hr5 hg5 hn5 hk5 hkm hot hap5)
        go_roundw
        case rel => exact ⟨i + 1, gn, on + 1, by omega, by omega, by omega, by go_num, Lib.hid (by rw [filter_snoc _ _ _ _ Hzi.out, Hsz.out]; simpa using Hgn.out), Lib.hid (by rw [filter_snoc _ _ _ _ Hzi.out, Hsz.out]; rw [Bool.not_false, cond_true, List.length_append, Hon.out]; rfl), by rw [filter_snoc _ _ _ _ Hzi.out, Hsz.out]; simpa using Hot.out, by rw [filter_snoc _ _ _ _ Hzi.out, Hsz.out]; rw [Bool.not_false, cond_true, encs_append, show encs encK [⟨z1, z2, z3, zA, zc, zl⟩] = encK ⟨z1, z2, z3, zA, zc, zl⟩ by simp [encs]]; exact Hr5.out, Hk5.out, Hap5.out⟩
        case measure => simp [intOf]; omega
    · obtain rfl : i = m := by omega
      have hta : zs.take i = zs := List.take_of_length_le (by rw [Hzl.out]; omega)
      rw [hta] at Hgn Hon Hrg Hro
      have hcw := Hkp.out.whole H.out.cell (fun h => h)
      have hf0 := hcw.frozen 4
      have hc0 := (Hkp.out.cell (p := ⟨l, 4, none⟩) hll (fun h => h)).trans H.out.c4
      have hset : Kp (fun k => k = l) wr (wr.setCell ⟨l, 4, none⟩ (.slice Ao on co)) := Kp.set (S := fun k => k = l) (Kp.refl _ wr) (p := ⟨l, 4, none⟩) (.inl rfl) _
      have hfo : ∀ k, (Value.slice Ao on co).ownBlock = some k → k ≠ l := fun k hk e => by have := (Hro.out.lt k hk).1; omega
      have hfg : ∀ k, (Value.slice Ag gn cg).ownBlock = some k → k ≠ l := fun k hk e => by have := (Hrg.out.lt k hk).1; omega
      have hend : Parted w (wr.setCell ⟨l, 4, none⟩ (.slice Ao on co)) l tc cs zs next top so (.slice Ag gn gn) := by
        have h1 := LIn.set4 (zs2 := zs.filter fun z => !so z) H.out hcw (by rw [Hon.out]; exact Hro.out.base (Nat.zero_le _)) hfo
        exact ⟨Ag, _, _, by rw [Hgn.out], by rw [Hgn.out]; exact (Hrg.out.kp hset hfg).clip, h1, (Agree.refl cs).set 4 ⟨by omega, by omega⟩ _, Hkp.out.no.trans hset, fun k hk => (Hro.out.lt k hk).1, fun k hk => Hap.out k (own_map.trans (own_map.symm.trans hk))⟩
      have Hend := Lib.hid hend
      have hcap := (row_capL Hrg.out).1
      have hadd : ∀ a, Ag = some a → a.add 0 = a := row_add Hrg.out
      have Hadd := Lib.hid hadd
      clear hcw hset hfo hfg hend hadd
      go_wp2_with fail
      with_reducible refine (clip_k hcap Hadd.out).mono ?_
      rintro e w2 ⟨rfl, rfl⟩
      go_wp2_with fail
      go_ret
      exact ⟨_, rfl, Hend.out⟩

theorem enter_take (args : Array Value) (w : World) : (callFunc 49 args).run Try.prog w = .ok (.enter 49 args) w := by
  go_simp
theorem enter_lose (args : Array Value) (w : World) : (callFunc 48 args).run Try.prog w = .ok (.enter 48 args) w := by
  go_simp

theorem take_c (w : World) (z : Pk) :
    Calls Try.prog 49 #[aggK z] w fun e w' => e = .returned (.bool true) ∧ Kp (fun _ => False) w w' := by
  obtain ⟨z1, z2, z3, zA, zc, zl⟩ := z
  go_enter Try.func49, Try.ntmps49
  go_wp2_with fail
  go_ret
  exact ⟨rfl, (Kp.refl _ _).alloc _⟩

theorem l_take {w : World} {l : Nat} {tc : TypeId} {cs : Array Value} {v : Value} {zs : List Pk} {next top : Int} (h : LIn w l tc cs v zs next top) (hlen : zs.length ≤ 2199023255552) :
    Calls Try.prog 33 #[.pointer (some ⟨l, 4, none⟩)] w fun e w' => ∃ r, e = .returned r ∧ Parted w w' l tc cs zs next top (fun _ => true) r := by
  have HP := Lib.hid (l_part h 49 #[] (fun _ => true) enter_take (fun w' z _ _ => take_c w' z) hlen)
  clear h
  go_enter Try.func33, Try.ntmps33
  go_wp2_with fail
  with_reducible refine (HP.out).mono ?_
  rintro e w1 ⟨r, rfl, hp⟩
  have Hp := Lib.hid hp
  clear hp
  go_wp2_with fail
  go_ret
  exact ⟨_, rfl, Hp.out⟩

/-- Which are lost. -/
def lostK (top now late : Int) (z : Pk) : Bool := decide (z.n < top - 1) && (decide (z.n ≤ top - 1 - 3) || decide (z.a ≤ now - late))

set_option maxRecDepth 100000 in
set_option maxHeartbeats 1000000 in
theorem lose_c {w : World} {a b c : Nat} {acked now late : Int} (ha : w.cell? ⟨a, 0, none⟩ = some (.int .i64 acked)) (hb : w.cell? ⟨b, 0, none⟩ = some (.int .i64 now)) (hc : w.cell? ⟨c, 0, none⟩ = some (.int .i64 late))
    (h1 : -4611686018427387904 ≤ acked ∧ acked ≤ 4611686018427387904) (h2 : -4611686018427387904 ≤ now - late ∧ now - late ≤ 4611686018427387904) (z : Pk) :
    Calls Try.prog 48 #[aggK z, .pointer (some ⟨a, 0, none⟩), .pointer (some ⟨b, 0, none⟩), .pointer (some ⟨c, 0, none⟩)] w fun e w' => e = .returned (.bool (lostK (acked + 1) now late z)) ∧ Kp (fun _ => False) w w' := by
  obtain ⟨z1, z2, z3, zA, zc, zl⟩ := z
  have hal := World.block_lt_of_cell? w _ ha
  have hbl := World.block_lt_of_cell? w _ hb
  have hcl := World.block_lt_of_cell? w _ hc
  dsimp only at hal hbl hcl
  have hl : lostK (acked + 1) now late ⟨z1, z2, z3, zA, zc, zl⟩ = (decide (z1 < acked) && (decide (z1 ≤ acked - 3) || decide (z2 ≤ now - late))) := by
    rw [lostK, show acked + 1 - 1 = acked by omega]
  have Hl := Lib.hid hl
  clear hl
  by_cases t1 : z1 < acked
  · by_cases t2 : z1 ≤ acked - 3
    · go_enter Try.func48, Try.ntmps48
      go_wp2_with fail
      go_ret
      exact ⟨by rw [Hl.out, decide_eq_true t1, decide_eq_true t2]; rfl, (Kp.refl _ _).alloc _⟩
    · by_cases t3 : z2 ≤ now - late
      · go_enter Try.func48, Try.ntmps48
        go_wp2_with fail
        go_ret
        exact ⟨by rw [Hl.out, decide_eq_true t1, decide_eq_false (by omega), decide_eq_true t3]; rfl, (Kp.refl _ _).alloc _⟩
      · go_enter Try.func48, Try.ntmps48
        go_wp2_with fail
        go_ret
        exact ⟨by rw [Hl.out, decide_eq_true t1, decide_eq_false (by omega), decide_eq_false (by omega)]; rfl, (Kp.refl _ _).alloc _⟩
  · go_enter Try.func48, Try.ntmps48
    go_wp2_with fail
    go_ret
    exact ⟨by rw [Hl.out, decide_eq_false (by omega)]; rfl, (Kp.refl _ _).alloc _⟩

set_option maxRecDepth 100000 in
set_option maxHeartbeats 1000000 in
theorem l_lose {w : World} {l : Nat} {tc : TypeId} {cs : Array Value} {v : Value} {zs : List Pk} {next top : Int} (h : LIn w l tc cs v zs next top) (now late : Int) (h0 : 0 ≤ top) (h1 : top ≤ 4611686018427387904) (h2 : -4611686018427387904 ≤ now - late ∧ now - late ≤ 4611686018427387904) (hlen : zs.length ≤ 2199023255552) :
    Calls Try.prog 28 #[.pointer (some ⟨l, 4, none⟩), .int .i64 now, .int .i64 late] w fun e w' => ∃ r W1, e = .returned r ∧ Kp (fun _ => False) w W1 ∧ Parted W1 w' l tc cs zs next top (lostK top now late) r := by
  have H := Lib.hid h
  clear h
  go_enter Try.func28, Try.ntmps28
  go_wp2_with fail
  with_reducible refine (l_acked (H.out.no (((Kp.refl (fun _ => False) w).alloc _).alloc _)) h0 h1).mono ?_
  rintro e w1 ⟨rfl, rfl⟩
  go_wp2_with fail
  have hk : Kp (fun _ => False) w (((w.alloc (.cells #[.int .i64 now] 3)).alloc (.cells #[.int .i64 late] 3)).alloc (.cells #[.int .i64 (top - 1)] 3)) := (((Kp.refl _ w).alloc _).alloc _).alloc _
  have ha : Whole (((w.alloc (.cells #[.int .i64 now] 3)).alloc (.cells #[.int .i64 late] 3)).alloc (.cells #[.int .i64 (top - 1)] 3)) w.heap.size 3 #[.int .i64 now] := ((whole_at _ _ rfl rfl).alloc _).alloc _
  have hb : Whole (((w.alloc (.cells #[.int .i64 now] 3)).alloc (.cells #[.int .i64 late] 3)).alloc (.cells #[.int .i64 (top - 1)] 3)) (w.heap.size + 1) 3 #[.int .i64 late] := (whole_at _ _ rfl (by simp)).alloc _
  have hc : Whole (((w.alloc (.cells #[.int .i64 now] 3)).alloc (.cells #[.int .i64 late] 3)).alloc (.cells #[.int .i64 (top - 1)] 3)) (w.heap.size + 1 + 1) 3 #[.int .i64 (top - 1)] := whole_at _ _ rfl (by simp)
  generalize ((w.alloc (.cells #[.int .i64 now] 3)).alloc (.cells #[.int .i64 late] 3)).alloc (.cells #[.int .i64 (top - 1)] 3) = w1 at hk ha hb hc ⊢
  have hl1 := H.out.kp hk (fun h => h) (fun _ _ h => h)
  have hP := l_part hl1 48 #[.pointer (some ⟨w.heap.size + 1 + 1, 0, none⟩), .pointer (some ⟨w.heap.size, 0, none⟩), .pointer (some ⟨w.heap.size + 1, 0, none⟩)] (lostK top now late) enter_lose (fun w' z hk' _ => by
    have := lose_c (z := z) (by simpa using (hk'.whole hc (fun h => h)).cell 0) (by simpa using (hk'.whole ha (fun h => h)).cell 0) (by simpa using (hk'.whole hb (fun h => h)).cell 0) (by omega) h2
    rw [show top - 1 + 1 = top by omega] at this
    exact this) hlen
  have HP := Lib.hid hP
  have Hk := Lib.hid hk
  clear hk ha hb hc hl1 hP
  with_reducible refine (HP.out).mono ?_
  rintro e w2 ⟨r, rfl, hp⟩
  have Hp := Lib.hid hp
  clear hp
  go_wp2_with fail
  go_ret
  exact ⟨_, _, rfl, Hk.out, Hp.out⟩

set_option maxRecDepth 100000 in
set_option maxHeartbeats 1000000 in
theorem l_flight {w : World} {l : Nat} {tc : TypeId} {cs : Array Value} {v : Value} {zs : List Pk} {next top : Int} (h : LIn w l tc cs v zs next top) (hlen : zs.length ≤ 2199023255552) :
    Calls Try.prog 19 #[.pointer (some ⟨l, 4, none⟩)] w fun e w' => e = .returned (.int .i64 ((zs.filter fun z => z.el).length : Nat)) ∧ Kp (fun _ => False) w w' := by
  have H := Lib.hid h
  have hll := h.cell.lt
  obtain ⟨A, cap, rfl⟩ := h.row.form
  have c0 := h.c4
  clear h
  generalize hzl : zs.length = m at *
  have Hzl := Lib.hid hzl
  clear hzl
  go_enter Try.func19, Try.ntmps19
  go_wp2_with fail
  go_loopw [3, 11] (fun vs vi wr => ∃ (i n : Nat), i ≤ m ∧ n ≤ i ∧ vi = .int .i64 i ∧ vs = .int .i64 n ∧ Hid (((zs.take i).filter fun z => z.el).length = n) ∧ Kp (fun _ => False) w wr)
    (fun _ vi _ => m - (intOf vi).toNat)
  case atStart => exact ⟨0, 0, by omega, by omega, rfl, rfl, Lib.hid rfl, Kp.refl _ _⟩
  case round =>
    obtain ⟨i, n, him, hn, rfl, rfl, Hn, hkp⟩ := hrel
    have Hkp := Lib.hid hkp
    clear hkp
    by_cases hlt : i < m
    · obtain ⟨b, off, c', hv, _, hb, _, _, _, hcell⟩ := H.out.row.full (by rw [Hzl.out]; omega)
      cases hv
      obtain ⟨z, hzi⟩ : ∃ z, zs[i]? = some z := ⟨_, List.getElem?_eq_getElem (by rw [Hzl.out]; exact hlt)⟩
      have e0 := hcell (i * 4) _ (kk0 hzi)
      have e1 := hcell (i * 4 + 1) _ (kk1 hzi)
      have e2 := hcell (i * 4 + 2) _ (kk2 hzi)
      have e3 := hcell (i * 4 + 3) _ (kk3 hzi)
      rw [← Hkp.out.cell (p := ⟨b, _, none⟩) hb (fun h => h)] at e0 e1 e2 e3
      rw [← Nat.add_assoc] at e1 e2 e3
      have Hzi := Lib.hid hzi
      clear hcell hzi
      obtain ⟨z1, z2, z3, zA, zc, zl⟩ := z
      dsimp only at e0 e1 e2 e3
      cases z3 with
      | true =>
        go_wp2_with fail
        go_roundw
        case rel => exact ⟨i + 1, n + 1, by omega, by omega, by go_num, by go_num, Lib.hid (by rw [filter_snoc _ _ _ _ Hzi.out, cond_true, List.length_append, Hn.out]; rfl), Hkp.out.alloc _⟩
        case measure => simp [intOf]; omega
      | false =>
        go_wp2_with fail
        go_roundw
        case rel => exact ⟨i + 1, n, by omega, by omega, by go_num, rfl, Lib.hid (by rw [filter_snoc _ _ _ _ Hzi.out, cond_false, List.append_nil]; exact Hn.out), Hkp.out.alloc _⟩
        case measure => simp [intOf]; omega
    · obtain rfl : i = m := by omega
      rw [List.take_of_length_le (by rw [Hzl.out]; omega)] at Hn
      go_wp2_with fail
      go_ret
      exact ⟨by rw [Hn.out]; rfl, Hkp.out⟩
end Go.Proofs.Ytoiakdddghbdnaa
