/-
  The calls of package queue: Drop.
-/
import Derived.Test.YtelhnhnbfjamhaaInts
namespace Go.Proofs.Ytelhnhnbfjamhaa
open Go.RowKit

/-- The block nb holds the list of notes that a Drop was called with. -/
def NotesAt (w : World) (nb : Nat) (l : List Int) : Prop := ∃ A cap, Whole w nb 58 #[.slice A l.length cap] ∧ Src w 1 (.slice A l.length cap) l.length (encN l)

theorem NotesAt.kp {S : Nat → Prop} {w w' : World} {nb : Nat} {l : List Int} (h : NotesAt w nb l) (hk : Kp S w w') (h1 : ¬ S nb) (h2 : ∀ A cap, w.cell? ⟨nb, 0, none⟩ = some (.slice A l.length cap) → ∀ k, A.map (·.block) = some k → ¬ S k) : NotesAt w' nb l := by
  obtain ⟨A, cap, h3, h4⟩ := h
  exact ⟨A, cap, hk.whole h3 h1, hk.src h4 (fun k hk' => h2 A cap (by rw [h3.cell 0]; rfl) k (own_map.symm.trans hk'))⟩

set_option maxRecDepth 100000 in
set_option maxHeartbeats 1000000 in
theorem dropc_any {w : World} {nb : Nat} {l : List Int} (h : NotesAt w nb l) (hl : l.length ≤ 4611686018427387904) (note : Int) (v : Value) (_hv : v.oneCell' = true) :
    Calls Try.prog 53 #[.agg #[.int .i64 note, v], .pointer (some ⟨nb, 0, none⟩)] w fun e w' => e = .returned (.bool (decide (note ∈ l))) ∧ Kp (fun _ => False) w w' := by
  obtain ⟨A, cap, h1, h2⟩ := h
  have c0 := h1.cell 0
  rw [show (#[Value.slice A l.length cap] : Array Value)[0]? = some (.slice A l.length cap) from rfl] at c0
  have hnb := h1.lt
  have hC := contains_i (((Kp.refl (fun _ => False) w).alloc (.cells #[.int .i64 note, v] 55)).src h2 (fun _ _ h => h)) note hl
  have HC := Lib.hid hC
  clear h1 h2 hC
  generalize l.length = n at *
  go_enter Try.func53, Try.ntmps53
  go_wp2_with fail
  refine (HC.out).mono ?_
  rintro e w1 ⟨rfl, rfl⟩
  go_wp2_with fail
  go_ret
  exact ⟨rfl, (Kp.refl _ _).alloc _⟩

/-- Those that a Drop leaves. -/
def keepZ (l : List Int) (zs : List Zt) : List Zt := zs.filter fun z => !decide (z.1 ∈ l)

set_option maxRecDepth 100000 in
set_option maxHeartbeats 1000000 in
theorem indexf_any {w : World} {nb : Nat} {l : List Int} (hN : NotesAt w nb l) (hl : l.length ≤ 4611686018427387904) {B : Nat} {A : Option Addr} {cap : Nat} {zs : List Zt} (hr : RowAt w B 2 (.slice A zs.length cap) zs.length (encs encZ zs))
    (hz : ∀ z ∈ zs, ∃ A c, z.2.1 = .slice A z.2.2.length c) (hn : zs.length ≤ 1048576) :
    Calls Try.prog 66 #[.slice A zs.length cap, .func (.func 53) #[] #[.pointer (some ⟨nb, 0, none⟩)]] w fun e w' => ∃ r : Int, e = .returned (.int .i64 r) ∧ Kp (fun _ => False) w w' ∧
      ((r = -1 ∧ ∀ z ∈ zs, ¬ z.1 ∈ l) ∨ ∃ i : Nat, r = i ∧ i < zs.length ∧ (∀ z ∈ zs.take i, ¬ z.1 ∈ l) ∧ ∃ z, zs[i]? = some z ∧ z.1 ∈ l) := by
  have HN := Lib.hid hN
  have Hr := Lib.hid hr
  have Hz := Lib.hid hz
  clear hN hr hz
  generalize hlen : zs.length = n at *
  have Hlen := Lib.hid hlen
  clear hlen
  go_enter Try.func66, Try.ntmps66
  go_wp2_with fail
  go_loopw [8] (fun vi wr => ∃ i : Nat, i ≤ n ∧ vi = .int .i64 i ∧ Hid (∀ z ∈ zs.take i, ¬ z.1 ∈ l) ∧ Kp (fun _ => False) w wr) (fun vi _ => n - (intOf vi).toNat)
  case atStart => exact ⟨0, by omega, rfl, Lib.hid (fun z hz => by cases hz), Kp.refl _ _⟩
  case round =>
    obtain ⟨i, hi, rfl, hno, hkp⟩ := hrel
    have Hkp := Lib.hid hkp
    clear hkp
    by_cases hlt : i < n
    · obtain ⟨g, off, c, hv, _, hg, _, _, _, hc⟩ := Hr.out.full (by omega)
      cases hv
      obtain ⟨z, hzi⟩ : ∃ z, zs[i]? = some z := ⟨_, List.getElem?_eq_getElem (by rw [Hlen.out]; exact hlt)⟩
      have e0 := hc (i * 2) _ (zt0 hzi)
      have e1 := hc (i * 2 + 1) _ (zt1 hzi)
      rw [← Nat.add_assoc] at e1
      rw [← Hkp.out.cell (p := ⟨g, _, none⟩) hg (fun h => h)] at e0 e1
      obtain ⟨Az, cz, hza⟩ := Hz.out z (List.mem_of_getElem? hzi)
      have Hzi := Lib.hid hzi
      obtain ⟨note, v, d⟩ := z
      dsimp only at e0 e1 hza
      subst hza
      have hgr : g < wr.heap.size := Nat.lt_of_lt_of_le hg Hkp.out.size
      clear hzi hc
      have hD := dropc_any (HN.out.kp Hkp.out (fun h => h) (fun _ _ _ _ _ h => h)) hl note (.slice Az d.length cz) rfl
      by_cases hm : note ∈ l
      · rw [decide_eq_true hm] at hD
        have HD := Lib.hid hD
        have Hm := Lib.hid hm
        clear hD hm
        go_wp2_with fail
        with_reducible refine (HD.out).mono ?_
        rintro e w1 ⟨rfl, hk⟩
        have Hk := Lib.hid hk
        clear hk
        go_wp2_with fail
        go_ret
        exact ⟨_, rfl, Hkp.out.trans Hk.out, .inr ⟨i, rfl, hlt, hno.out, _, Hzi.out, Hm.out⟩⟩
      · rw [decide_eq_false hm] at hD
        have HD := Lib.hid hD
        have Hm := Lib.hid hm
        clear hD hm
        go_wp2_with fail
        with_reducible refine (HD.out).mono ?_
        rintro e w1 ⟨rfl, hk⟩
        have Hk := Lib.hid hk
        clear hk
        go_wp2_with fail
        go_roundw
        case rel =>
          refine ⟨i + 1, by omega, by go_num, Lib.hid (fun y hy => ?_), Hkp.out.trans Hk.out⟩
          rw [List.take_add_one, Hzi.out] at hy
          rcases List.mem_append.1 hy with hy | hy
          · exact hno.out y hy
          · simp at hy; subst hy; exact Hm.out
        case measure => simp [intOf]; omega
    · go_wp2_with fail
      go_ret
      refine ⟨_, rfl, Hkp.out, .inl ⟨rfl, ?_⟩⟩
      have := hno.out
      rwa [List.take_of_length_le (by rw [Hlen.out]; omega)] at this

/-- 'clear' of what lies behind a row's elements, wherever the row lies. -/
theorem clear_row {P : Program} (w : World) (t ty e : TypeId) (i : TypeInfo) (z : Value) (size : Nat) (ht : P.underlying t = some (.slice e)) (hi : P.info? e = some i) (hz : i.zero = some z) (hzs : z.cells.size = size) (hz1 : ∀ u ∈ z.cells.toList, u.oneCell' = true)
    (g o m c : Nat) (hc : ∀ j, j < m * size → (w.cell? ⟨g, o + j, none⟩).isSome = true) (hf : ∀ j, w.frozen? ⟨g, j, none⟩ = false) :
    (Builtin.clear_ #[t] ty #[.slice (some ⟨g, o, none⟩) m c]).run P w = .ok (.tuple #[]) (w.setCells g o (Builtin.zeroCells z.cells m).toList) := by
  have hzl : (Builtin.zeroCells z.cells m).toList.length = m * size := by rw [Array.length_toList, size_zeroCells, hzs]
  have hst := run_storeCells_cells (P := P) g o (Builtin.zeroCells z.cells m).toList 0 w (by intro j hj; rw [hzl] at hj; exact hc j hj) (fun j hj => hf _) (by
    intro u hu
    have hu' : ∃ a, a < m * z.cells.size ∧ z.cells[a % z.cells.size]! = u := by simpa [Builtin.zeroCells] using hu
    obtain ⟨a, ha, rfl⟩ := hu'
    have hpos : 0 < z.cells.size := by
      rcases Nat.eq_zero_or_pos z.cells.size with h0 | h0
      · rw [h0] at ha; simp at ha
      · exact h0
    have hlt := Nat.mod_lt a hpos
    rw [getElem!_pos z.cells _ hlt]
    exact hz1 _ (by simp))
  simp only [Nat.add_zero] at hst
  cases m with
  | zero =>
    have e : (Builtin.zeroCells z.cells 0).toList = [] := List.eq_nil_of_length_eq_zero (by rw [hzl, Nat.zero_mul])
    rw [e]
    simp [Builtin.clear_, run_underlying ht]
    rfl
  | succ m => simp [Builtin.clear_, run_underlying ht, zeroValue, typeInfo, hi, hz, hst]

theorem wpList_clearR {P : Program} {w : World} {ops : Array Oper} {rest : List Oper} {o : Oper} {a : Act} {Q : Exit → Act → World → Prop}
    (hg : o.guard = none) (x : Operand) (t : TypeId) (hop : o.op = Op.call { callee := Callee.builtin Builtin.clear, args := #[x], argTypes := #[t] })
    (e : TypeId) (i : TypeInfo) (z : Value) (size : Nat) (ht : P.underlying t = some (.slice e)) (hi : P.info? e = some i) (hz : i.zero = some z) (hzs : z.cells.size = size) (hz1 : ∀ u ∈ z.cells.toList, u.oneCell' = true)
    (g off m c : Nat) (hx : a.eval x = .slice (some ⟨g, off, none⟩) m c) (hc : ∀ j, j < m * size → (w.cell? ⟨g, off + j, none⟩).isSome = true) (hf : ∀ j, w.frozen? ⟨g, j, none⟩ = false)
    (h : wpList P ops Q rest (a.put o.dst (.tuple #[])) (w.setCells g off (Builtin.zeroCells z.cells m).toList)) : wpList P ops Q (o :: rest) a w := by
  refine wpList_plain hg fun K hK' => ?_
  have hrun := clear_row (P := P) w t o.type e i z size ht hi hz hzs hz1 g off m c hc hf
  unfold Oper.wp
  simp [execOp, hop, resolve, invoke, builtin, hx, hrun, Result.andThen]
  exact hK' _ _ h

/-- A row's elements stay where what lies behind them is written. -/
theorem RowAt.cleared {w : World} {B sz n g off cap o : Nat} {xs vs : List Value} (h : RowAt w B sz (.slice (some ⟨g, off, none⟩) n cap) n xs) (ho : off + n * sz ≤ o) (hc : ∀ j, j < vs.length → (w.cell? ⟨g, o + j, none⟩).isSome = true) :
    RowAt (w.setCells g o vs) B sz (.slice (some ⟨g, off, none⟩) n cap) n xs := by
  obtain ⟨hl, ⟨hv, _⟩ | ⟨g', off', cap', hv, hB, hg, hnc, hcm, h1, h2, h3⟩⟩ := h
  · cases hv
  · cases hv
    refine ⟨hl, .inr ⟨g, off, cap, rfl, hB, by rw [size_setCells]; exact hg, hnc, hcm, fun j hj => ?_, fun j => by rw [frozen_setCells]; exact h2 j, fun j u hj => ?_⟩⟩
    · rw [cell_setCells vs w g o hc]
      split
      · rename_i hh
        rw [List.getElem?_eq_getElem (by omega)]; rfl
      · exact h1 j hj
    · have hjl := (List.getElem?_eq_some_iff.1 hj).1
      rw [cell_setCells vs w g o hc, if_neg (by omega)]
      exact h3 j u hj

theorem encZ_set (zs : List Zt) (k : Nat) (q : Zt) (hk : k < zs.length) : ((encs encZ zs).set (k * 2) (.int .i64 q.1)).set (k * 2 + 1) q.2.1 = encs encZ (zs.set k q) := by
  induction zs generalizing k with
  | nil => simp at hk
  | cons a zs ih =>
    have e : encs encZ (a :: zs) = .int .i64 a.1 :: a.2.1 :: encs encZ zs := rfl
    cases k with
    | zero => rfl
    | succ k =>
      rw [e, show (k + 1) * 2 = k * 2 + 1 + 1 by omega, List.set_cons_succ, List.set_cons_succ, List.set_cons_succ, List.set_cons_succ, ih k (by simpa using hk)]
      rfl

/-- The loop of a DeleteFunc, behind j elements: the first i places hold those that stay, from the j-th on all is as it was. -/
structure DelIn (l : List Int) (zs cs : List Zt) (i j : Nat) : Prop where
  len : cs.length = zs.length
  le : i ≤ j
  top : j ≤ zs.length
  head : cs.take i = keepZ l (zs.take j)
  tail : cs.drop j = zs.drop j
theorem DelIn.at {l : List Int} {zs cs : List Zt} {i j : Nat} (h : DelIn l zs cs i j) {z : Zt} (hz : zs[j]? = some z) : cs[j]? = some z := by
  have : (cs.drop j)[0]? = (zs.drop j)[0]? := by rw [h.tail]
  rw [List.getElem?_drop, List.getElem?_drop, Nat.add_zero] at this
  rw [this, hz]
theorem DelIn.skip {l : List Int} {zs cs : List Zt} {i j : Nat} (h : DelIn l zs cs i j) {z : Zt} (hz : zs[j]? = some z) (hm : z.1 ∈ l) : DelIn l zs cs i (j + 1) := by
  have hj := (List.getElem?_eq_some_iff.1 hz).1
  refine ⟨h.len, by have := h.le; omega, hj, ?_, ?_⟩
  · rw [h.head, List.take_add_one, hz]
    simp [keepZ, hm]
  · rw [← List.drop_drop, ← List.drop_drop, h.tail]
theorem DelIn.keep {l : List Int} {zs cs : List Zt} {i j : Nat} (h : DelIn l zs cs i j) {z : Zt} (hz : zs[j]? = some z) (hm : ¬ z.1 ∈ l) : DelIn l zs (cs.set i z) (i + 1) (j + 1) := by
  have hj := (List.getElem?_eq_some_iff.1 hz).1
  have hle := h.le
  have hln := h.len
  refine ⟨by rw [List.length_set]; exact h.len, by omega, hj, ?_, ?_⟩
  · rw [List.take_add_one, List.take_set_of_le (by omega), List.getElem?_set_self (by omega), h.head, List.take_add_one, hz]
    simp [keepZ, hm]
  · rw [List.drop_set_of_lt (by omega)]
    rw [← List.drop_drop, ← List.drop_drop, h.tail]
theorem DelIn.first {l : List Int} {zs : List Zt} {i : Nat} {z : Zt} (hz : zs[i]? = some z) (hm : z.1 ∈ l) (h : ∀ y ∈ zs.take i, ¬ y.1 ∈ l) : DelIn l zs zs i (i + 1) := by
  have hi := (List.getElem?_eq_some_iff.1 hz).1
  refine ⟨rfl, by omega, hi, ?_, rfl⟩
  rw [List.take_add_one, hz]
  unfold keepZ
  rw [List.filter_append]
  have e1 : (zs.take i).filter (fun z => !decide (z.1 ∈ l)) = zs.take i := List.filter_eq_self.2 (fun y hy => by simpa using h y hy)
  rw [e1]
  simp [hm]

set_option maxRecDepth 100000 in
set_option maxHeartbeats 2000000 in
theorem deletef_any {w : World} {nb : Nat} {l : List Int} (hN : NotesAt w nb l) (hl : l.length ≤ 4611686018427387904) {B : Nat} {A : Option Addr} {cap : Nat} {zs : List Zt} (hr : RowAt w B 2 (.slice A zs.length cap) zs.length (encs encZ zs))
    (hz : ∀ z ∈ zs, ∃ A c, z.2.1 = .slice A z.2.2.length c) (hn : zs.length ≤ 1048576) (hA1 : ¬ A.map (·.block) = some nb) (hA2 : ∀ A' c', w.cell? ⟨nb, 0, none⟩ = some (.slice A' l.length c') → ∀ k, A'.map (·.block) = some k → ¬ A.map (·.block) = some k) :
    Calls Try.prog 52 #[.slice A zs.length cap, .func (.func 53) #[] #[.pointer (some ⟨nb, 0, none⟩)]] w fun e w' => e = .returned (.slice A (keepZ l zs).length cap) ∧
      RowAt w' B 2 (.slice A (keepZ l zs).length cap) (keepZ l zs).length (encs encZ (keepZ l zs)) ∧ Kp (fun k => A.map (·.block) = some k) w w' := by
  have hI := indexf_any hN hl hr hz hn
  have HI := Lib.hid hI
  have HN := Lib.hid hN
  have Hr := Lib.hid hr
  have Hz := Lib.hid hz
  have HA2 := Lib.hid hA2
  clear hN hr hz hI hA2
  generalize hlen : zs.length = n at *
  have Hlen := Lib.hid hlen
  clear hlen
  go_enter Try.func52, Try.ntmps52
  go_wp2_with fail
  refine (HI.out).mono ?_
  rintro e w1 ⟨r, rfl, hk1, hr1⟩
  have Hk1 := Lib.hid hk1
  clear hk1
  rcases hr1 with ⟨rfl, hno⟩ | ⟨i, rfl, hi, hno, z, hzi, hm⟩
  · have hke : keepZ l zs = zs := List.filter_eq_self.2 (fun y hy => by simpa using hno y hy)
    have Hke := Lib.hid hke
    clear hno hke
    go_wp2_with fail
    go_ret
    rw [Hke.out, Hlen.out]
    exact ⟨rfl, Hr.out.kp Hk1.out (fun _ _ h => h), Hk1.out.no⟩
  · have hd := DelIn.first hzi hm hno
    have Hd := Lib.hid hd
    obtain ⟨g, off, c, hv, hBg, hg, hnc, hcm, _, _⟩ := Hr.out.full (by omega)
    cases hv
    obtain ⟨i0, hii, hz0, hz1, hz2⟩ := info_parts infoI
    have Hi := Lib.hid hii
    have Hz0 := Lib.hid hz0
    clear hd hzi hm hno hii hz0 hz1 hz2
    have hne : ((i : Int) == -1) = false := by simp
    have hn0 : 0 < n := by omega
    unfold maxLen at hcm
    go_wp2_with fail
    go_loopw [5, 6] (fun vi vj wr => ∃ (i j : Nat) (cs : List Zt), j ≤ n ∧ i ≤ j ∧ vi = .int .i64 i ∧ vj = .int .i64 j ∧ Hid (DelIn l zs cs i j) ∧ Hid (RowAt wr B 2 (.slice (some ⟨g, off, none⟩) n cap) n (encs encZ cs)) ∧ Hid (Kp (fun k => k = g) w wr))
      (fun _ vj _ => n - (intOf vj).toNat)
    case atStart => exact ⟨i, i + 1, zs, by omega, by omega, rfl, by go_num, Hd, Lib.hid (Hr.out.kp Hk1.out (fun _ _ h => h)), Lib.hid Hk1.out.no⟩
    case round =>
      clear hi hne
      obtain ⟨i, j, cs, hj, hij, rfl, rfl, HD, HR, HK⟩ := hrel
      by_cases hlt : j < n
      · obtain ⟨z, hzj⟩ : ∃ z, zs[j]? = some z := ⟨_, List.getElem?_eq_getElem (by rw [Hlen.out]; exact hlt)⟩
        obtain ⟨Az, cz, hza⟩ := Hz.out z (List.mem_of_getElem? hzj)
        have hcj := HD.out.at hzj
        obtain ⟨_, _, _, hv, _, hgr, _, _, hfr, hc⟩ := HR.out.full (by omega)
        cases hv
        have e0 := hc (j * 2) _ (zt0 hcj)
        have e1 := hc (j * 2 + 1) _ (zt1 hcj)
        rw [← Nat.add_assoc] at e1
        have Hzj := Lib.hid hzj
        have Hfr := Lib.hid hfr
        obtain ⟨note, v, d⟩ := z
        dsimp only at e0 e1 hza
        subst hza
        clear hcj hc hzj hfr
        have hD := dropc_any ((HN.out.kp HK.out (fun e => hA1 (by rw [e]; rfl)) (fun A' c' h k hk e => HA2.out A' c' h k hk (by rw [e]; rfl))).kp ((Kp.refl (fun _ => False) wr).alloc (.cells #[.int .i64 note, .slice Az d.length cz] 55)) (fun h => h) (fun _ _ _ _ _ h => h)) hl note (.slice Az d.length cz) rfl
        by_cases hm : note ∈ l
        · rw [decide_eq_true hm] at hD
          have HDc := Lib.hid hD
          have Hm := Lib.hid hm
          clear hD hm
          go_wp2_with fail
          with_reducible refine (HDc.out).mono ?_
          rintro e w2 ⟨rfl, hk⟩
          have Hk := Lib.hid hk
          clear hk
          go_wp2_with fail
          go_roundw
          case rel => exact ⟨i, j + 1, cs, by omega, by omega, rfl, by go_num, Lib.hid (HD.out.skip Hzj.out Hm.out), Lib.hid (HR.out.kp (((Kp.refl (fun _ => False) wr).alloc _).trans Hk.out) (fun _ _ h => h)), Lib.hid (HK.out.trans (((Kp.refl (fun _ => False) wr).alloc _).trans Hk.out).no)⟩
          case measure => simp [intOf]; omega
        · rw [decide_eq_false hm] at hD
          have HDc := Lib.hid hD
          have Hm := Lib.hid hm
          clear hD hm
          go_wp2_with fail
          with_reducible refine (HDc.out).mono ?_
          rintro e w2 ⟨rfl, hk⟩
          have hk3 : Kp (fun _ => False) wr w2 := ((Kp.refl _ wr).alloc _).trans hk
          have hR2 := HR.out.kp hk3 (fun _ _ h => h)
          have b0 := (hk.whole (Whole.new wr 55 #[.int .i64 note, .slice Az d.length cz]) (fun h => h)).cell 0
          have b1 := (hk.whole (Whole.new wr 55 #[.int .i64 note, .slice Az d.length cz]) (fun h => h)).cell 1
          simp at b0 b1
          obtain ⟨_, _, _, hv, _, hg2, _, _, hf2, hc2⟩ := hR2.full (by omega)
          cases hv
          have hcl := hR2.1
          obtain ⟨u0, f0⟩ : ∃ u, w2.cell? ⟨g, off + i * 2, none⟩ = some u := ⟨_, hc2 (i * 2) _ (List.getElem?_eq_getElem (by omega))⟩
          obtain ⟨u1, f1⟩ : ∃ u, w2.cell? ⟨g, off + i * 2 + 1, none⟩ = some u := ⟨_, by rw [Nat.add_assoc]; exact hc2 (i * 2 + 1) _ (List.getElem?_eq_getElem (by omega))⟩
          have f2 := hf2 (off + i * 2)
          have f3 := hf2 (off + i * 2 + 1)
          have HR2 := Lib.hid hR2
          have Hk3 := Lib.hid hk3
          have hgw : g ≠ wr.heap.size := by omega
          clear hk hk3 hR2 hf2 hc2 hcl
          go_wp2_with fail
          go_roundw
          case rel =>
            refine ⟨i + 1, j + 1, cs.set i (note, .slice Az d.length cz, d), by omega, by omega, by go_num, by go_num, Lib.hid (HD.out.keep Hzj.out Hm.out), Lib.hid ?_, Lib.hid ?_⟩
            · have z := (HR2.out.set (i * 2) (.int .i64 note) (by omega)).set (i * 2 + 1) (.slice Az d.length cz) (by omega)
              rw [encZ_set cs i (note, .slice Az d.length cz, d) (by have := HD.out.len; rw [Hlen.out] at this; omega)] at z
              exact z
            · exact kp_set1 _ _ _ (kp_set1 _ _ _ (HK.out.trans Hk3.out.no))
          case measure => simp [intOf]; omega
      · have hdt := HD.out.head
        rw [show zs.take j = zs by rw [List.take_of_length_le]; rw [Hlen.out]; omega] at hdt
        have hkl : (keepZ l zs).length = i := by
          rw [← hdt, List.length_take, HD.out.len, Hlen.out]; omega
        have Hdt := Lib.hid hdt
        have Hkl := Lib.hid hkl
        have hic : i ≤ cap := by omega
        have hin : i ≤ n := by omega
        obtain ⟨_, _, _, hv, _, hgr, _, _, hfr, hc⟩ := HR.out.full (by omega)
        cases hv
        by_cases hci : cap = i
        · subst hci
          obtain rfl : n = cap := by omega
          have hdr := True.intro
          have hspare : ∀ q, q < 0 * 2 → (wr.cell? ⟨g, off + q, none⟩).isSome = true := fun q hq => by
            have hq2 := hc (n * 2 + q) _ (List.getElem?_eq_getElem (by rw [HR.out.1]; omega))
            first
              | (exfalso; omega)
              | (rw [Nat.add_assoc, hq2]; rfl)
          have Hsp := Lib.hid hspare
          have Hfr := Lib.hid hfr
          have Hc := Lib.hid hc
          clear hdt hkl hc hfr hdr hspare
          go_wp2_with (refine wpList_clearR rfl (.tmp 38) 49 rfl 55 i0 _ 2 Try.underlying49 Hi.out Hz0.out rfl (by decide) g (off) 0 0 (by first | rfl | simp [Act.eval]) Hsp.out Hfr.out ?_)
          go_ret
          rw [Hkl.out]
          have ht := HR.out.take rfl n (Nat.le_refl _)
          rw [show (encs encZ cs).take (n * 2) = encs encZ (keepZ l zs) by rw [← Hdt.out]; exact encs_take encZ_len cs n] at ht
          have e : (Builtin.zeroCells #[.int .i64 0, .slice none 0 0] 0).toList = [] := List.eq_nil_of_length_eq_zero (by rw [Array.length_toList, size_zeroCells, Nat.zero_mul])
          have hkf := HK.out.mono (S' := fun k => (some (⟨g, off, none⟩ : Addr)).map (·.block) = some k) (fun k _ e => by rw [e]; rfl)
          refine ⟨rfl, ?_, ?_⟩
          · rw [e]; exact ht
          · rw [e]; exact hkf
        · skip
          have hdr := HR.out.drop i (by omega)
          have hspare : ∀ q, q < (n - i) * 2 → (wr.cell? ⟨g, off + i * 2 + q, none⟩).isSome = true := fun q hq => by
            have hq2 := hc (i * 2 + q) _ (List.getElem?_eq_getElem (by rw [HR.out.1]; omega))
            first
              | (exfalso; omega)
              | (rw [Nat.add_assoc, hq2]; rfl)
          have Hsp := Lib.hid hspare
          have Hfr := Lib.hid hfr
          have Hc := Lib.hid hc
          clear hdt hkl hc hfr hdr hspare
          go_wp2_with (refine wpList_clearR rfl (.tmp 38) 49 rfl 55 i0 _ 2 Try.underlying49 Hi.out Hz0.out rfl (by decide) g (off + i * 2) (n - i) (cap - i) (by first | rfl | simp [Act.eval]) Hsp.out Hfr.out ?_)
          go_ret
          rw [Hkl.out]
          have ht := HR.out.take rfl i hin
          rw [show (encs encZ cs).take (i * 2) = encs encZ (keepZ l zs) by rw [← Hdt.out]; exact encs_take encZ_len cs i] at ht
          refine ⟨rfl, ?_, ?_⟩
          · exact ht.cleared (by omega) (fun q hq => Hsp.out q (by rw [Array.length_toList, size_zeroCells] at hq; exact hq))
          · exact (kp_setCells _ _ HK.out (.inl rfl)).mono (fun k _ e => by rw [e]; rfl)

theorem NewB.form {w : World} {B : Nat} {v : Value} {d : List UInt8} (h : NewB w B v d) : ∃ A c, v = .slice A d.length c := h.1.form

set_option maxRecDepth 100000 in
set_option maxHeartbeats 1000000 in
theorem q_drop {w : World} {q B : Nat} {v : Value} {zs : List Zt} (h : QAt w q B v zs) (A0 : Option Addr) (c0' : Nat) (l : List Int) (hx : Src w 1 (.slice A0 l.length c0') l.length (encN l)) (hl : l.length ≤ 4611686018427387904)
    (hf : ∀ k, A0.map (·.block) = some k → ¬ QS q v k) :
    Calls Try.prog 28 #[.pointer (some ⟨q, 0, none⟩), .slice A0 l.length c0'] w fun e w' => e = .returned (.int .i64 ((zs.length - (keepZ l zs).length : Nat) : Int)) ∧ ∃ v', QAt w' q B v' (keepZ l zs) ∧ v'.ownBlock = v.ownBlock ∧ Kp (QS q v) w w' := by
  obtain ⟨A, cap, rfl⟩ := h.row.form
  have hle : (keepZ l zs).length ≤ zs.length := List.length_filter_le _ _
  have hq := h.cell.lt
  have c0 := h.cell.cell 0
  rw [show (#[Value.slice A zs.length cap] : Array Value)[0]? = some (.slice A zs.length cap) from rfl] at c0
  have hkA : Kp (fun _ => False) w ((w.alloc (.cells #[.slice A0 l.length c0'] 58)).drew) := ((Kp.refl _ w).alloc _).drew
  have hkB : Kp (fun _ => False) w (w.alloc (.cells #[.slice A0 l.length c0'] 58)) := (Kp.refl _ w).alloc _
  have hNB : NotesAt (w.alloc (.cells #[.slice A0 l.length c0'] 58)) w.heap.size l := ⟨A0, c0', Whole.new _ _ _, hkB.src hx (fun _ _ h => h)⟩
  have hAlt : ∀ k, A.map (·.block) = some k → k < w.heap.size := fun k hk => (h.row.lt k (own_map.trans hk)).2
  have hD := deletef_any hNB hl (h.row.kp hkB (fun _ _ h => h)) (fun z hz => (h.data z hz).1.form) (by have := h.few; omega) (fun e => by have := hAlt _ e; omega) (fun A' c' hc k hk e => by
    rw [(Whole.new w 58 #[.slice A0 l.length c0']).cell 0] at hc
    cases hc
    exact hf k hk (.inr (own_map.trans e)))
  have HD := Lib.hid hD
  have H := Lib.hid h
  have hf2 := h.few
  have Hle := Lib.hid hle
  have HkB := Lib.hid hkB
  have HAlt := Lib.hid hAlt
  clear hkA hNB hD h hx hkB hAlt
  generalize hn : zs.length = n at *
  generalize hm : (keepZ l zs).length = m at *
  have Hn := Lib.hid hn
  have Hm := Lib.hid hm
  have hmn : m ≤ 32 := by omega
  clear hn hm
  go_enter Try.func28, Try.ntmps28
  go_wp2_with fail
  refine (HD.out).mono ?_
  rintro e w1 ⟨rfl, hr, hk⟩
  have hkw : Kp (fun k => A.map (·.block) = some k) w w1 := HkB.out.no.trans hk
  have hqA : ¬ A.map (·.block) = some q := fun e => H.out.far q (own_map.trans e) rfl
  have s0 := (hkw.whole H.out.cell hqA).cell 0
  have s1 := (hkw.whole H.out.cell hqA).frozen 0
  have hqs : Kp (fun k => k = q) w1 (w1.setCell ⟨q, 0, none⟩ (.slice A m cap)) := kp_set1 _ _ _ (Kp.refl _ w1)
  have hfin : QAt (w1.setCell ⟨q, 0, none⟩ (.slice A m cap)) q B (.slice A m cap) (keepZ l zs) := by
    refine ⟨(hkw.whole H.out.cell hqA).set 0 _, ?_, fun z hz => ?_, fun k hk => H.out.far k (own_map.trans (own_map.symm.trans hk)), by rw [Hm.out]; exact hmn, fun z hz => H.out.short z (List.mem_filter.1 hz).1⟩
    · rw [Hm.out]
      exact hr.kp hqs (fun k hk e => hqA (by rw [← e]; exact own_map.symm.trans hk))
    · obtain ⟨⟨d1, d2, d3⟩, d4⟩ := H.out.data z (List.mem_filter.1 hz).1
      refine ⟨⟨(d1.kp hkw (fun k hk e => (d4 k hk).2 (own_map.trans e))).kp hqs (fun k hk e => (d4 k hk).1 e), fun k hk' => ?_, d3⟩, fun k hk' => ⟨(d4 k hk').1, fun e => (d4 k hk').2 (own_map.trans (own_map.symm.trans e))⟩⟩
      have := d2 k hk'; have := hkw.size; simp only [World.size_setCell]; omega
  have hkf : Kp (QS q (.slice A n cap)) w (w1.setCell ⟨q, 0, none⟩ (.slice A m cap)) := (hkw.mono (fun k _ e => .inr (own_map.trans e))).set (p := ⟨q, 0, none⟩) (.inl (.inl rfl)) _
  have Hfin := Lib.hid hfin
  have Hkf := Lib.hid hkf
  clear hr hk hkw hqs hfin hkf
  go_wp2_with fail
  go_ret
  refine ⟨?_, _, Hfin.out, own_map.trans own_map.symm, Hkf.out⟩
  have := Hle.out
  rw [Int.natCast_sub this]
  rfl
end Go.Proofs.Ytelhnhnbfjamhaa
