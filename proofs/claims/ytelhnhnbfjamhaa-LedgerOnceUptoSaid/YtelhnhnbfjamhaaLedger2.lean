/-
  Package ledger: part, by whatever test; Next, Acked, Flight, Take, Lose.
-/
import Derived.Test.YtelhnhnbfjamhaaLedger
namespace Go.Proofs.Ytelhnhnbfjamhaa
open Go.RowKit

theorem l_next {w : World} {l B : Nat} {v : Value} {zs : List St} {next top : Int} (h : LAt w l B v zs next top) :
    Calls Try.prog 42 #[.pointer (some ⟨l, 0, none⟩)] w fun e w' => e = .returned (.int .i64 next) ∧ w = w' := by
  have c := h.cell.cell 1
  simp at c
  clear h
  go_enter Try.func42, Try.ntmps42
  go_wp2_with fail
  go_ret
  exact ⟨rfl, rfl⟩
theorem l_acked {w : World} {l B : Nat} {v : Value} {zs : List St} {next top : Int} (h : LAt w l B v zs next top) (h0 : 0 ≤ top) (h1 : top ≤ 4611686018427387904) :
    Calls Try.prog 43 #[.pointer (some ⟨l, 0, none⟩)] w fun e w' => e = .returned (.int .i64 (top - 1)) ∧ w = w' := by
  have c := h.cell.cell 2
  simp at c
  clear h
  go_enter Try.func43, Try.ntmps43
  go_wp2_with fail
  go_ret
  exact ⟨rfl, rfl⟩

set_option maxHeartbeats 400000 in
theorem clip_s {w : World} {A : Option Addr} {n cap : Nat} (h : n ≤ cap) (hA : ∀ a, A = some a → a.add 0 = a) :
    Calls Try.prog 73 #[.slice A n cap] w fun e w' => e = .returned (.slice A n n) ∧ w = w' := by
  cases A with
  | none =>
    go_enter Try.func73, Try.ntmps73
    go_wp2_with fail
    go_ret
    exact ⟨by simp, rfl⟩
  | some a =>
    have ha := hA a rfl
    clear hA
    go_enter Try.func73, Try.ntmps73
    go_wp2_with fail
    go_ret
    exact ⟨by simp, rfl⟩

theorem filter_snoc {α : Type} (p : α → Bool) (zs : List α) (i : Nat) (z : α) (h : zs[i]? = some z) : (zs.take (i + 1)).filter p = (zs.take i).filter p ++ (bif p z then [z] else []) := by
  rw [List.take_add_one, h, List.filter_append]
  cases hp : p z <;> simp [hp]

/-- A row that is cut to its length. -/
theorem RowAt.clip {w : World} {B sz n c : Nat} {A : Option Addr} {xs : List Value} (h : RowAt w B sz (.slice A n c) n xs) : RowAt w B sz (.slice A n n) n xs := by
  refine ⟨h.1, ?_⟩
  rcases h.2 with ⟨h1, h2⟩ | ⟨g, off, cap, h1, h2, h3, h4, h5, h6, h7, h8⟩
  · cases h1
    exact .inl ⟨rfl, rfl⟩
  · cases h1
    exact .inr ⟨g, off, n, rfl, h2, h3, Nat.le_refl _, by omega, fun j hj => h6 j (Nat.lt_of_lt_of_le hj (Nat.mul_le_mul_right _ h4)), h7, h8⟩

theorem row_capL {w : World} {B sz n c : Nat} {A : Option Addr} {xs : List Value} (h : RowAt w B sz (.slice A n c) n xs) : n ≤ c ∧ c ≤ maxLen := by
  rcases h.2 with ⟨hv, rfl⟩ | ⟨g, off, cap, hv, _, _, h1, h2, _⟩
  · cases hv; exact ⟨Nat.le_refl _, Nat.zero_le _⟩
  · cases hv; exact ⟨h1, h2⟩
theorem row_add {w : World} {B sz n c : Nat} {A : Option Addr} {xs : List Value} (h : RowAt w B sz (.slice A n c) n xs) : ∀ a, A = some a → a.add 0 = a := by
  intro a ha
  rcases h.2 with ⟨hv, rfl⟩ | ⟨g, off, cap, hv, _⟩
  · cases hv; cases ha
  · cases hv; cases ha; rw [Addr.add_lit, Nat.add_zero]

/-- What a part leaves: those that are so, told in a row of their own; the others stay. -/
def Parted (w w' : World) (l B : Nat) (zs : List St) (next top : Int) (so : St → Bool) (e : Value) : Prop :=
  ∃ A vo, e = .slice A (zs.filter so).length (zs.filter so).length ∧ RowAt w' w.heap.size 4 (.slice A (zs.filter so).length (zs.filter so).length) (zs.filter so).length (encs encS (zs.filter so)) ∧
    LAt w' l B vo (zs.filter fun z => !so z) next top ∧ Kp (fun k => k = l) w w' ∧ (∀ k, vo.ownBlock = some k → w.heap.size ≤ k)

set_option maxRecDepth 100000 in
set_option maxHeartbeats 2000000 in
theorem l_part {w : World} {l B : Nat} {v : Value} {zs : List St} {next top : Int} (h : LAt w l B v zs next top) (hB : B ≤ w.heap.size) (f : FuncId) (caps : Array Value) (so : St → Bool) (hen : ∀ (args : Array Value) (w : World), (callFunc f args).run Try.prog w = .ok (.enter f args) w)
    (hso : ∀ w' z, Kp (fun _ => False) w w' → z ∈ zs → Calls Try.prog f (#[aggS z] ++ caps) w' fun e w'' => e = .returned (.bool (so z)) ∧ Kp (fun _ => False) w' w'') (hlen : zs.length ≤ 1099511627776) :
    Calls Try.prog 59 #[.pointer (some ⟨l, 0, none⟩), .func (.func f) #[] caps] w fun e w' => ∃ r, e = .returned r ∧ Parted w w' l B zs next top so r := by
  obtain ⟨i0, hii, hz0, hz1, hz2⟩ := info_parts infoS
  have Hi := Lib.hid hii
  have Hz0 := Lib.hid hz0
  have Hz1 := Lib.hid hz1
  have Hz2 := Lib.hid hz2
  have H := Lib.hid h
  have Hso := Lib.hid hso
  have hll := h.cell.lt
  obtain ⟨A, cap, rfl⟩ := h.row.form
  have c0 := h.cell.cell 0
  simp only [List.getElem?_toArray, List.getElem?_cons_zero] at c0
  clear h hso hii hz0 hz1 hz2
  generalize hzl : zs.length = m at *
  have Hzl := Lib.hid hzl
  clear hzl
  go_enter Try.func59, Try.ntmps59
  go_wp2_with fail
  go_loopw [5, 6, 14] (fun vg vo vi wr => ∃ (i gn on : Nat), i ≤ m ∧ gn ≤ i ∧ on ≤ i ∧ vi = .int .i64 i ∧ Hid (((zs.take i).filter so).length = gn) ∧ Hid (((zs.take i).filter fun z => !so z).length = on) ∧
      RowAt wr w.heap.size 4 vg gn (encs encS ((zs.take i).filter so)) ∧ RowAt wr w.heap.size 4 vo on (encs encS ((zs.take i).filter fun z => !so z)) ∧ Kp (fun _ => False) w wr ∧ ∀ k, vg.ownBlock = some k → vo.ownBlock ≠ some k)
    (fun _ _ vi _ => m - (intOf vi).toNat)
  case atStart => exact ⟨0, 0, 0, by omega, by omega, by omega, rfl, Lib.hid rfl, Lib.hid rfl, RowAt.nil _ _ _, RowAt.nil _ _ _, Kp.refl _ _, fun k hk => by cases hk⟩
  case round =>
    obtain ⟨i, gn, on, him, hgn, hon, rfl, Hgn, Hon, hrg, hro, hkp, hap⟩ := hrel
    obtain ⟨Ag, cg, rfl⟩ := hrg.form
    obtain ⟨Ao, co, rfl⟩ := hro.form
    have Hrg := Lib.hid hrg
    have Hro := Lib.hid hro
    have Hkp := Lib.hid hkp
    have Hap := Lib.hid hap
    clear hrg hro hkp hap
    by_cases hlt : i < m
    · obtain ⟨b, off, c', hv, _, hb, _, _, _, hcell⟩ := H.out.row.full (by rw [Hzl.out]; omega)
      cases hv
      obtain ⟨z, hzi⟩ : ∃ z, zs[i]? = some z := ⟨_, List.getElem?_eq_getElem (by rw [Hzl.out]; exact hlt)⟩
      have e0 := hcell (i * 4) _ (ss0 hzi)
      have e1 := hcell (i * 4 + 1) _ (ss1 hzi)
      have e2 := hcell (i * 4 + 2) _ (ss2 hzi)
      have e3 := hcell (i * 4 + 3) _ (ss3 hzi)
      rw [← Hkp.out.cell (p := ⟨b, _, none⟩) hb (fun h => h)] at e0 e1 e2 e3
      rw [← Nat.add_assoc] at e1 e2 e3
      have hbw := Nat.lt_of_lt_of_le hb Hkp.out.size
      have hzm := List.mem_of_getElem? hzi
      have Hzi := Lib.hid hzi
      clear hcell hzi
      obtain ⟨z1, z2, z3⟩ := z
      dsimp only at e0 e1 e2 e3
      have hka : Kp (fun _ => False) wr (wr.alloc (.cells #[.int .i64 z1, .int .i64 z2, .bool z3, .slice none 0 0] 80)) := (Kp.refl _ wr).alloc _
      have hxw : Whole (wr.alloc (.cells #[.int .i64 z1, .int .i64 z2, .bool z3, .slice none 0 0] 80)) wr.heap.size 80 #[.int .i64 z1, .int .i64 z2, .bool z3, .slice none 0 0] := Whole.new _ _ _
      have hC : Calls Try.prog f (#[.agg #[.int .i64 z1, .int .i64 z2, .bool z3, .slice none 0 0]] ++ caps) _ _ := Hso.out _ (z1, z2, z3) (Hkp.out.trans hka) hzm
      have hk0 : Kp (fun _ => False) w (wr.alloc (.cells #[.int .i64 z1, .int .i64 z2, .bool z3, .slice none 0 0] 80)) := Hkp.out.trans hka
      have hg0 := Hrg.out.kp hka (fun _ _ h => h)
      have ho0 := Hro.out.kp hka (fun _ _ h => h)
      go_upto_region 5 with (fail)
      generalize wr.alloc (.cells #[.int .i64 z1, .int .i64 z2, .bool z3, .slice none 0 0] 80) = w3 at hka hxw hC hk0 hg0 ho0 ⊢
      have HC := Lib.hid hC
      have Hk0 := Lib.hid hk0
      have Hxw := Lib.hid hxw
      have Hg0 := Lib.hid hg0
      have Ho0 := Lib.hid ho0
      have x0 := hxw.cell 0
      have x1 := hxw.cell 1
      have x2 := hxw.cell 2
      have x3 := hxw.cell 3
      simp at x0 x1 x2 x3
      clear hka hxw hzm hC hk0 hg0 ho0 e0 e1 e2 e3
      generalize wr.heap.size = bx at *
      cases hsz : so (z1, z2, z3) with
      | true =>
        rw [hsz] at HC
        go_wp2_with fail
        with_reducible refine (HC.out).mono ?_
        rintro e w4 ⟨rfl, hk4⟩
        have hka : Kp (fun _ => False) w3 (w4.alloc (.cells #[.int .i64 z1, .int .i64 z2, .bool z3, .slice none 0 0] 80)) := hk4.alloc _
        have hkw : Kp (fun _ => False) w (w4.alloc (.cells #[.int .i64 z1, .int .i64 z2, .bool z3, .slice none 0 0] 80)) := Hk0.out.trans hka
        have hxw4 := hk4.whole Hxw.out (fun h => h)
        have x0 := hxw4.cell 0
        have x1 := hxw4.cell 1
        have x2 := hxw4.cell 2
        have x3 := hxw4.cell 3
        have hxl := hxw4.lt
        simp at x0 x1 x2 x3
        have HG := Lib.hid (RowAt.kp Hg0.out hka (fun _ _ h => h))
        have HO := Lib.hid (RowAt.kp Ho0.out hka (fun _ _ h => h))
        have HS : Hid (Src (w4.alloc (.cells #[.int .i64 z1, .int .i64 z2, .bool z3, .slice none 0 0] 80)) 4 (.slice (some ⟨w4.heap.size, 0, none⟩) 1 1) 1 (encS (z1, z2, z3))) := Lib.hid (srcW _ (Whole.new _ _ _) rfl (fun u hu => by simp [encS] at hu; rcases hu with rfl | rfl | rfl | rfl <;> rfl))
        have Hkw := Lib.hid hkw
        have Hsz := Lib.hid hsz
        clear hk4 hka hkw hxw4 hsz
        go_wp2_with (at_builtin; refine wpList_row rfl (.tmp 21) (.tmp 23) 74 rfl w.heap.size 80 i0 _ 4 48 Try.underlying74 Hi.out Hz0.out Hz1.out Hz2.out rfl (by decide) _ gn _ rfl HG.out _ 1 _ rfl HS.out (by unfold maxLen; omega) (by omega) (by have := Hkw.out.size; exact this) ?_; intro v5 w5 hr5 hg5 hn5; obtain ⟨A5, c5, rfl⟩ := hr5.form; have hk5 : Kp (fun _ => False) w w5 := Hkw.out.grown hg5 (fun i hi hlt => absurd (HG.out.lt i hi).1 (by omega)); have hkm : Kp (fun k => (Value.slice Ag gn cg).ownBlock = some k) _ w5 := Kp.of_grown hg5 (fun i hi _ => hi); have hot := HO.out.kp hkm (fun k ho hg => Hap.out k hg ho); have hap5 : ∀ k, (Value.slice A5 (gn + 1) c5).ownBlock = some k → (Value.slice Ao on co).ownBlock ≠ some k := (fun k hg ho => hn5.elim (fun h => Hap.out k (h ▸ hg) ho) (fun h => by have := h k hg; have := (HO.out.lt k ho).2; omega)); have Hr5 := Lib.hid hr5; have Hk5 := Lib.hid hk5; have Hot := Lib.hid hot; have Hap5 := Lib.hid hap5; clear hr5 hg5 hn5 hk5 hkm hot hap5)
        go_roundw
        case rel => exact ⟨i + 1, gn + 1, on, by omega, by omega, by omega, by go_num, Lib.hid (by rw [filter_snoc _ _ _ _ Hzi.out, Hsz.out]; rw [cond_true, List.length_append, Hgn.out]; rfl), Lib.hid (by rw [filter_snoc _ _ _ _ Hzi.out, Hsz.out]; simpa using Hon.out), by rw [filter_snoc _ _ _ _ Hzi.out, Hsz.out]; rw [cond_true, encs_append, show encs encS [(z1, z2, z3)] = encS (z1, z2, z3) by simp [encs]]; exact Hr5.out, by rw [filter_snoc _ _ _ _ Hzi.out, Hsz.out]; simpa using Hot.out, Hk5.out, Hap5.out⟩
        case measure => simp [intOf]; omega
      | false =>
        rw [hsz] at HC
        go_wp2_with fail
        with_reducible refine (HC.out).mono ?_
        rintro e w4 ⟨rfl, hk4⟩
        have hka : Kp (fun _ => False) w3 (w4.alloc (.cells #[.int .i64 z1, .int .i64 z2, .bool z3, .slice none 0 0] 80)) := hk4.alloc _
        have hkw : Kp (fun _ => False) w (w4.alloc (.cells #[.int .i64 z1, .int .i64 z2, .bool z3, .slice none 0 0] 80)) := Hk0.out.trans hka
        have hxw4 := hk4.whole Hxw.out (fun h => h)
        have x0 := hxw4.cell 0
        have x1 := hxw4.cell 1
        have x2 := hxw4.cell 2
        have x3 := hxw4.cell 3
        have hxl := hxw4.lt
        simp at x0 x1 x2 x3
        have HG := Lib.hid (RowAt.kp Hg0.out hka (fun _ _ h => h))
        have HO := Lib.hid (RowAt.kp Ho0.out hka (fun _ _ h => h))
        have HS : Hid (Src (w4.alloc (.cells #[.int .i64 z1, .int .i64 z2, .bool z3, .slice none 0 0] 80)) 4 (.slice (some ⟨w4.heap.size, 0, none⟩) 1 1) 1 (encS (z1, z2, z3))) := Lib.hid (srcW _ (Whole.new _ _ _) rfl (fun u hu => by simp [encS] at hu; rcases hu with rfl | rfl | rfl | rfl <;> rfl))
        have Hkw := Lib.hid hkw
        have Hsz := Lib.hid hsz
        clear hk4 hka hkw hxw4 hsz
        go_wp2_with (at_builtin; refine wpList_row rfl (.tmp 25) (.tmp 27) 74 rfl w.heap.size 80 i0 _ 4 48 Try.underlying74 Hi.out Hz0.out Hz1.out Hz2.out rfl (by decide) _ on _ rfl HO.out _ 1 _ rfl HS.out (by unfold maxLen; omega) (by omega) (by have := Hkw.out.size; exact this) ?_; intro v5 w5 hr5 hg5 hn5; obtain ⟨A5, c5, rfl⟩ := hr5.form; have hk5 : Kp (fun _ => False) w w5 := Hkw.out.grown hg5 (fun i hi hlt => absurd (HO.out.lt i hi).1 (by omega)); have hkm : Kp (fun k => (Value.slice Ao on co).ownBlock = some k) _ w5 := Kp.of_grown hg5 (fun i hi _ => hi); have hot := HG.out.kp hkm (fun k hg ho => Hap.out k hg ho); have hap5 : ∀ k, (Value.slice Ag gn cg).ownBlock = some k → (Value.slice A5 (on + 1) c5).ownBlock ≠ some k := (fun k hg ho => hn5.elim (fun h => Hap.out k hg (h ▸ ho)) (fun h => by have := h k ho; have := (HG.out.lt k hg).2; omega)); have Hr5 := Lib.hid hr5; have Hk5 := Lib.hid hk5; have Hot := Lib.hid hot; have Hap5 := Lib.hid hap5; clear hr5 hg5 hn5 hk5 hkm hot hap5)
        go_roundw
        case rel => exact ⟨i + 1, gn, on + 1, by omega, by omega, by omega, by go_num, Lib.hid (by rw [filter_snoc _ _ _ _ Hzi.out, Hsz.out]; simpa using Hgn.out), Lib.hid (by rw [filter_snoc _ _ _ _ Hzi.out, Hsz.out]; rw [Bool.not_false, cond_true, List.length_append, Hon.out]; rfl), by rw [filter_snoc _ _ _ _ Hzi.out, Hsz.out]; simpa using Hot.out, by rw [filter_snoc _ _ _ _ Hzi.out, Hsz.out]; rw [Bool.not_false, cond_true, encs_append, show encs encS [(z1, z2, z3)] = encS (z1, z2, z3) by simp [encs]]; exact Hr5.out, Hk5.out, Hap5.out⟩
        case measure => simp [intOf]; omega
    · obtain rfl : i = m := by omega
      have hta : zs.take i = zs := List.take_of_length_le (by rw [Hzl.out]; omega)
      rw [hta] at Hgn Hon Hrg Hro
      have hcw := Hkp.out.whole H.out.cell (fun h => h)
      have hf0 := hcw.frozen 0
      have hc0 := hcw.cell 0
      simp only [List.getElem?_toArray, List.getElem?_cons_zero] at hc0
      have hset : Kp (fun k => k = l) wr (wr.setCell ⟨l, 0, none⟩ (.slice Ao on co)) := Kp.set (S := fun k => k = l) (Kp.refl _ wr) (p := ⟨l, 0, none⟩) (.inl rfl) _
      have hfo : ∀ k, (Value.slice Ao on co).ownBlock = some k → k ≠ l := fun k hk e => by have := (Hro.out.lt k hk).1; omega
      have hfg : ∀ k, (Value.slice Ag gn cg).ownBlock = some k → k ≠ l := fun k hk e => by have := (Hrg.out.lt k hk).1; omega
      have hend : Parted w (wr.setCell ⟨l, 0, none⟩ (.slice Ao on co)) l B zs next top so (.slice Ag gn gn) := by
        have h1 := LAt.set0 (B := B) (zs2 := zs.filter fun z => !so z) hcw (by rw [Hon.out]; exact Hro.out.base hB) hfo
        refine ⟨Ag, _, by rw [Hgn.out], by rw [Hgn.out]; exact (Hrg.out.kp hset hfg).clip, h1, Hkp.out.no.trans hset, fun k hk => (Hro.out.lt k hk).1⟩
      have Hend := Lib.hid hend
      have hcap := (row_capL Hrg.out).1
      have hadd : ∀ a, Ag = some a → a.add 0 = a := row_add Hrg.out
      have Hadd := Lib.hid hadd
      clear hcw hset hfo hfg hend hadd
      go_wp2_with fail
      with_reducible refine (clip_s hcap Hadd.out).mono ?_
      rintro e w2 ⟨rfl, rfl⟩
      go_wp2_with fail
      go_ret
      exact ⟨_, rfl, Hend.out⟩
end Go.Proofs.Ytelhnhnbfjamhaa
