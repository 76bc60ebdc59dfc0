/-
  Package ledger: Ack.
-/
import Derived.Test.YtelhnhnbfjamhaaLedger3
namespace Go.Proofs.Ytelhnhnbfjamhaa
open Go.RowKit

/-- A run of numbers. -/
abbrev Pr := Int × Int
def encP (r : Pr) : List Value := [.int .i64 r.1, .int .i64 r.2]
abbrev aggP (r : Pr) : Value := .agg #[.int .i64 r.1, .int .i64 r.2]
theorem encP_len (r : Pr) : (encP r).length = 2 := rfl
theorem encP_one (rs : List Pr) : ∀ u ∈ encs encP rs, u.oneCell' = true :=
  encs_one (fun z _ u hu => by
    simp only [encP, List.mem_cons, List.not_mem_nil, or_false] at hu
    rcases hu with rfl | rfl <;> rfl)
theorem pp0 {rs : List Pr} {i : Nat} {z : Pr} (hi : rs[i]? = some z) : (encs encP rs)[i * 2]? = some (.int .i64 z.1) := encs_get encP_len rs i 0 z hi (by omega)
theorem pp1 {rs : List Pr} {i : Nat} {z : Pr} (hi : rs[i]? = some z) : (encs encP rs)[i * 2 + 1]? = some (.int .i64 z.2) := encs_get encP_len rs i 1 z hi (by omega)

theorem enter_a1 (args : Array Value) (w : World) : (callFunc 58 args).run Try.prog w = .ok (.enter 58 args) w := by
  go_simp
theorem enter_a2 (args : Array Value) (w : World) : (callFunc 60 args).run Try.prog w = .ok (.enter 60 args) w := by
  go_simp
theorem enter_a21 (args : Array Value) (w : World) : (callFunc 61 args).run Try.prog w = .ok (.enter 61 args) w := by
  go_simp

theorem any_snoc {α : Type} (p : α → Bool) (rs : List α) (i : Nat) (r : α) (h : rs[i]? = some r) : (rs.take (i + 1)).any p = ((rs.take i).any p || p r) := by
  rw [List.take_add_one, h, List.any_append]; simp

set_option maxRecDepth 100000 in
set_option maxHeartbeats 1000000 in
theorem if_any {w : World} {A : Option Addr} {c : Nat} {rs : List Pr} (hx : Src w 2 (.slice A rs.length c) rs.length (encs encP rs)) (f : FuncId) (caps : Array Value) (p : Pr → Bool) (hen : ∀ (args : Array Value) (w : World), (callFunc f args).run Try.prog w = .ok (.enter f args) w)
    (hp : ∀ w' r, Kp (fun _ => False) w w' → r ∈ rs → Calls Try.prog f (#[aggP r] ++ caps) w' fun e w'' => e = .returned (.bool (p r)) ∧ Kp (fun _ => False) w' w'') (hlen : rs.length ≤ 1099511627776) :
    Calls Try.prog 72 #[.slice A rs.length c, .func (.func f) #[] caps] w fun e w' => ∃ i : Int, e = .returned (.int .i64 i) ∧ decide (0 ≤ i) = rs.any p ∧ Kp (fun _ => False) w w' := by
  have Hx := Lib.hid hx
  have Hp := Lib.hid hp
  clear hx hp
  generalize hn : rs.length = n at *
  have Hn := Lib.hid hn
  clear hn
  go_enter Try.func72, Try.ntmps72
  go_wp2_with fail
  go_loopw [8] (fun vi wr => ∃ i : Nat, i ≤ n ∧ vi = .int .i64 i ∧ Hid ((rs.take i).any p = false) ∧ Kp (fun _ => False) w wr) (fun vi _ => n - (intOf vi).toNat)
  case atStart => exact ⟨0, by omega, rfl, Lib.hid rfl, Kp.refl _ _⟩
  case round =>
    obtain ⟨i, him, rfl, Hno, hkp⟩ := hrel
    have Hkp := Lib.hid hkp
    clear hkp
    by_cases hlt : i < n
    · obtain ⟨b, off, c', hv, hb, hc⟩ := Src.wide Hx.out (by omega) (by omega)
      cases hv
      obtain ⟨r, hri⟩ : ∃ r, rs[i]? = some r := ⟨_, List.getElem?_eq_getElem (by rw [Hn.out]; exact hlt)⟩
      have e0 := hc (i * 2) _ (pp0 hri)
      have e1 := hc (i * 2 + 1) _ (pp1 hri)
      rw [← Nat.add_assoc] at e1
      rw [← Hkp.out.cell (p := ⟨b, _, none⟩) hb (fun h => h)] at e0 e1
      have hC : Calls Try.prog f (#[.agg #[.int .i64 r.1, .int .i64 r.2]] ++ caps) _ _ := Hp.out _ r Hkp.out (List.mem_of_getElem? hri)
      have HC := Lib.hid hC
      have Hri := Lib.hid hri
      have hgr : b < wr.heap.size := Nat.lt_of_lt_of_le hb Hkp.out.size
      clear hri hc hC
      obtain ⟨r1, r2⟩ := r
      dsimp only at e0 e1 HC
      cases hpr : p (r1, r2) with
      | true =>
        rw [hpr] at HC
        have Hpr := Lib.hid hpr
        clear hpr
        go_wp2_with fail
        with_reducible refine (HC.out).mono ?_
        rintro e w1 ⟨rfl, hk⟩
        have Hk := Lib.hid hk
        clear hk
        go_wp2_with fail
        go_ret
        refine ⟨_, rfl, ?_, Hkp.out.trans Hk.out⟩
        rw [List.any_eq_true.2 ⟨_, List.mem_of_getElem? Hri.out, Hpr.out⟩]
        exact decide_eq_true (by omega)
      | false =>
        rw [hpr] at HC
        have Hpr := Lib.hid hpr
        clear hpr
        go_wp2_with fail
        with_reducible refine (HC.out).mono ?_
        rintro e w1 ⟨rfl, hk⟩
        have Hk := Lib.hid hk
        clear hk
        go_wp2_with fail
        go_roundw
        case rel => exact ⟨i + 1, by omega, by go_num, Lib.hid (by rw [any_snoc _ _ _ _ Hri.out, Hno.out, Hpr.out]; rfl), Hkp.out.trans Hk.out⟩
        case measure => simp [intOf]; omega
    · obtain rfl : i = n := by omega
      rw [List.take_of_length_le (by rw [Hn.out]; omega)] at Hno
      go_wp2_with fail
      go_ret
      exact ⟨_, rfl, by rw [Hno.out]; rfl, Hkp.out⟩

theorem cf_any {w : World} {A : Option Addr} {c : Nat} {rs : List Pr} (hx : Src w 2 (.slice A rs.length c) rs.length (encs encP rs)) (f : FuncId) (caps : Array Value) (p : Pr → Bool) (hen : ∀ (args : Array Value) (w : World), (callFunc f args).run Try.prog w = .ok (.enter f args) w)
    (hp : ∀ w' r, Kp (fun _ => False) w w' → r ∈ rs → Calls Try.prog f (#[aggP r] ++ caps) w' fun e w'' => e = .returned (.bool (p r)) ∧ Kp (fun _ => False) w' w'') (hlen : rs.length ≤ 1099511627776) :
    Calls Try.prog 57 #[.slice A rs.length c, .func (.func f) #[] caps] w fun e w' => e = .returned (.bool (rs.any p)) ∧ Kp (fun _ => False) w w' := by
  have HI := Lib.hid (if_any hx f caps p hen hp hlen)
  clear hx hp hen
  generalize rs.length = n at *
  go_enter Try.func57, Try.ntmps57
  go_wp2_with fail
  with_reducible refine (HI.out).mono ?_
  rintro e w1 ⟨i, rfl, hi, hk⟩
  have Hi := Lib.hid hi
  clear hi
  go_wp2_with fail
  go_ret
  exact ⟨by rw [← Hi.out]; simp, hk⟩

/-- A run that tells of what was never sent. -/
def overP (next : Int) (r : Pr) : Bool := decide (next ≤ r.2)
theorem ack1_c {w : World} {bl l : Nat} {next : Int} (h0 : w.cell? ⟨bl, 0, none⟩ = some (.pointer (some ⟨l, 0, none⟩))) (h1 : w.cell? ⟨l, 1, none⟩ = some (.int .i64 next)) (r : Pr) :
    Calls Try.prog 58 #[aggP r, .pointer (some ⟨bl, 0, none⟩)] w fun e w' => e = .returned (.bool (overP next r)) ∧ Kp (fun _ => False) w w' := by
  obtain ⟨r1, r2⟩ := r
  have hbl := World.block_lt_of_cell? w _ h0
  have hll := World.block_lt_of_cell? w _ h1
  dsimp only at hbl hll
  go_enter Try.func58, Try.ntmps58
  go_wp2_with fail
  go_quiet (fail)
  all_goals
    go_wp2_with fail
    go_ret
    exact ⟨rfl, ((Kp.refl _ _).alloc _).drewN _⟩

/-- The run holds the number. -/
def hitP (n : Int) (r : Pr) : Bool := decide (0 ≤ r.1) && (decide (r.1 ≤ n) && decide (n ≤ r.2))
theorem ack21_c {w : World} {bx : Nat} {n : Int} (h0 : w.cell? ⟨bx, 0, none⟩ = some (.int .i64 n)) (r : Pr) :
    Calls Try.prog 61 #[aggP r, .pointer (some ⟨bx, 0, none⟩)] w fun e w' => e = .returned (.bool (hitP n r)) ∧ Kp (fun _ => False) w w' := by
  obtain ⟨r1, r2⟩ := r
  have hbl := World.block_lt_of_cell? w _ h0
  dsimp only at hbl
  have Hl : Hid (hitP n (r1, r2) = (decide (0 ≤ r1) && (decide (r1 ≤ n) && decide (n ≤ r2)))) := Lib.hid rfl
  by_cases t1 : 0 ≤ r1
  · by_cases t2 : r1 ≤ n
    · by_cases t3 : n ≤ r2
      · go_enter Try.func61, Try.ntmps61
        go_wp2_with fail
        go_ret
        exact ⟨by rw [Hl.out, decide_eq_true t1, decide_eq_true t2, decide_eq_true t3]; rfl, (Kp.refl _ _).alloc _⟩
      · go_enter Try.func61, Try.ntmps61
        go_wp2_with fail
        go_ret
        exact ⟨by rw [Hl.out, decide_eq_true t1, decide_eq_true t2, decide_eq_false (by omega)]; rfl, (Kp.refl _ _).alloc _⟩
    · go_enter Try.func61, Try.ntmps61
      go_wp2_with fail
      go_ret
      exact ⟨by rw [Hl.out, decide_eq_true t1, decide_eq_false (p := r1 ≤ n) (by omega)]; rfl, (Kp.refl _ _).alloc _⟩
  · go_enter Try.func61, Try.ntmps61
    go_wp2_with fail
    go_ret
    exact ⟨by rw [Hl.out, decide_eq_false (p := 0 ≤ r1) (by omega)]; rfl, (Kp.refl _ _).alloc _⟩

/-- Which are acknowledged. -/
def hitS (rs : List Pr) (z : St) : Bool := rs.any (hitP z.1)
theorem ack2_c {w : World} {bs : Nat} {A : Option Addr} {c : Nat} {rs : List Pr} (h0 : w.cell? ⟨bs, 0, none⟩ = some (.slice A rs.length c)) (hx : Src w 2 (.slice A rs.length c) rs.length (encs encP rs)) (hlen : rs.length ≤ 1099511627776) (z : St) :
    Calls Try.prog 60 #[aggS z, .pointer (some ⟨bs, 0, none⟩)] w fun e w' => e = .returned (.bool (hitS rs z)) ∧ Kp (fun _ => False) w w' := by
  obtain ⟨z1, z2, z3⟩ := z
  have hbl := World.block_lt_of_cell? w _ h0
  dsimp only at hbl
  have hka : Kp (fun _ => False) w (w.alloc (.cells #[.int .i64 z1, .int .i64 z2, .bool z3, .slice none 0 0] 80)) := (Kp.refl _ w).alloc _
  have hxw : Whole (w.alloc (.cells #[.int .i64 z1, .int .i64 z2, .bool z3, .slice none 0 0] 80)) w.heap.size 80 #[.int .i64 z1, .int .i64 z2, .bool z3, .slice none 0 0] := Whole.new _ _ _
  have HC := Lib.hid (cf_any (hka.src hx (fun _ _ h => h)) 61 #[.pointer (some ⟨w.heap.size, 0, none⟩)] (hitP z1) enter_a21 (fun w' r hk _ => ack21_c (by simpa using (hk.whole hxw (fun h => h)).cell 0) r) hlen)
  have Hka := Lib.hid hka
  clear hx hka hxw
  have Hs : Hid (hitS rs (z1, z2, z3) = rs.any (hitP z1)) := Lib.hid rfl
  generalize rs.length = n at *
  go_enter Try.func60, Try.ntmps60
  go_wp2_with fail
  with_reducible refine (HC.out).mono ?_
  rintro e w1 ⟨rfl, hk⟩
  have Hk := Lib.hid hk
  clear hk
  go_wp2_with fail
  go_ret
  exact ⟨by rw [Hs.out]; rfl, Hka.out.trans Hk.out⟩
end Go.Proofs.Ytelhnhnbfjamhaa
