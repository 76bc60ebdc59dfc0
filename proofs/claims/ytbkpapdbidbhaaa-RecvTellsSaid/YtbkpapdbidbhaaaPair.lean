/-
  Rows of runs ([][2]int): read, cloned, clipped, searched.
-/
import Derived.Test.YtbkpapdbidbhaaaSpanP
import Derived.Test.YtbkpapdbidbhaaaPick
import Derived.Lib.SliceRun
import Derived.Deep.CutBlock
import Derived.Deep.QuietTactic
import Derived.BigQuiet
import Derived.Outline
namespace Go.Proofs.Ytbkpapdbidbhaaa
open Go.RowKit

theorem Src.wide {w : World} {sz m : Nat} {v : Value} {xs : List Value} (h : Src w sz v m xs) (hm : 0 < m) (hs : 0 < sz) : ∃ b off c, v = .slice (some ⟨b, off, none⟩) m c ∧ b < w.heap.size ∧ ∀ j u, xs[j]? = some u → w.cell? ⟨b, off + j, none⟩ = some u := by
  obtain ⟨hl, _, ⟨rfl, h0⟩ | ⟨a, c, rfl, hc⟩⟩ := h
  · omega
  · have hpos : 0 < xs.length := by rw [hl]; exact Nat.mul_pos hm hs
    have h00 := hc 0 xs[0] (List.getElem?_eq_getElem hpos)
    have hlt := World.block_lt_of_cell? w _ h00
    have hsp : a.spot = none := by
      unfold World.cell? at h00
      split at h00
      · split at h00
        · cases h00
        · rename_i hsp
          cases a with
          | mk b o sp =>
            cases sp with
            | none => rfl
            | some x => simp [Addr.add] at hsp
      · cases h00
    obtain ⟨b, off, sp⟩ := a
    obtain rfl := hsp
    refine ⟨b, off, c, rfl, ?_, fun j u hj => ?_⟩
    · rw [Addr.add_lit] at hlt; exact hlt
    · have := hc j u hj
      rw [Addr.add_lit] at this
      exact this

/-- A block that holds a row's cells, as a slice that is read. -/
theorem srcW {w : World} {b : Nat} {e : TypeId} {sz n c : Nat} (xs : List Value) (h : Whole w b e xs.toArray) (hl : xs.length = n * sz) (h1 : ∀ u ∈ xs, u.oneCell' = true) : Src w sz (.slice (some ⟨b, 0, none⟩) n c) n xs := by
  refine ⟨hl, h1, .inr ⟨_, _, rfl, fun j u hj => ?_⟩⟩
  rw [Addr.add_lit, Nat.zero_add, h.cell]
  simpa using hj

def encP (r : Pr) : List Value := [.int .i64 r.1, .int .i64 r.2]
abbrev aggP (r : Pr) : Value := .agg #[.int .i64 r.1, .int .i64 r.2]
theorem encP_len (r : Pr) : (encP r).length = 2 := rfl
theorem encP_one (rs : List Pr) : ∀ u ∈ encs encP rs, u.oneCell' = true :=
  encs_one (fun z _ u hu => by
    simp only [encP, List.mem_cons, List.not_mem_nil, or_false] at hu
    rcases hu with rfl | rfl <;> rfl)
theorem pp0 {rs : List Pr} {i : Nat} {z : Pr} (hi : rs[i]? = some z) : (encs encP rs)[i * 2]? = some (.int .i64 z.1) := encs_get encP_len rs i 0 z hi (by omega)
theorem pp1 {rs : List Pr} {i : Nat} {z : Pr} (hi : rs[i]? = some z) : (encs encP rs)[i * 2 + 1]? = some (.int .i64 z.2) := encs_get encP_len rs i 1 z hi (by omega)
theorem encP_app (rs : List Pr) (r : Pr) : encs encP (rs ++ [r]) = encs encP rs ++ encP r := by
  rw [encs_append, show encs encP [r] = encP r by simp [encs]]
theorem infoPr : (Try.prog.info? 63).map (fun i => (i.zero, i.size, i.bytes)) = some (some (.agg #[.int .i64 0, .int .i64 0]), 2, 16) := by kernel_rfl
theorem takeP {rs : List Pr} {i : Nat} {r : Pr} (h : rs[i]? = some r) : rs.take (i + 1) = rs.take i ++ [r] := by rw [List.take_add_one, h]; rfl
/-- One run that was laid, as a slice. -/
theorem src_pr {w : World} {b : Nat} {e : TypeId} (r : Pr) (h : Whole w b e #[.int .i64 r.1, .int .i64 r.2]) : Src w 2 (.slice (some ⟨b, 0, none⟩) 1 1) 1 (encP r) :=
  srcW _ h rfl (fun u hu => by simp [encP] at hu; rcases hu with rfl | rfl <;> rfl)

/-- A row that is cut to its length. -/
theorem RowAt.clip {w : World} {B sz n c : Nat} {A : Option Addr} {xs : List Value} (h : RowAt w B sz (.slice A n c) n xs) : RowAt w B sz (.slice A n n) n xs := by
  refine ⟨h.1, ?_⟩
  rcases h.2 with ⟨h1, h2⟩ | ⟨g, off, cap, h1, h2, h3, h4, h5, h6, h7, h8⟩
  · cases h1
    exact .inl ⟨rfl, rfl⟩
  · cases h1
    exact .inr ⟨g, off, n, rfl, h2, h3, Nat.le_refl _, by omega, fun j hj => h6 j (Nat.lt_of_lt_of_le hj (Nat.mul_le_mul_right _ h4)), h7, h8⟩

theorem row_capL {w : World} {B sz n c : Nat} {A : Option Addr} {xs : List Value} (h : RowAt w B sz (.slice A n c) n xs) : n ≤ c ∧ c ≤ maxLen := by
  rcases h.2 with ⟨hv, rfl⟩ | ⟨g, off, cap, hv, _, _, h1, h2, _⟩
  · cases hv; exact ⟨Nat.le_refl _, Nat.zero_le _⟩
  · cases hv; exact ⟨h1, h2⟩
theorem row_add {w : World} {B sz n c : Nat} {A : Option Addr} {xs : List Value} (h : RowAt w B sz (.slice A n c) n xs) : ∀ a, A = some a → a.add 0 = a := by
  intro a ha
  rcases h.2 with ⟨hv, rfl⟩ | ⟨g, off, cap, hv, _⟩
  · cases hv; cases ha
  · cases hv; cases ha; rw [Addr.add_lit, Nat.add_zero]

theorem any_snoc {α : Type} (p : α → Bool) (rs : List α) (i : Nat) (r : α) (h : rs[i]? = some r) : (rs.take (i + 1)).any p = ((rs.take i).any p || p r) := by
  rw [List.take_add_one, h, List.any_append]; simp

set_option maxRecDepth 100000 in
set_option maxHeartbeats 1000000 in
theorem if_any {w : World} {A : Option Addr} {c : Nat} {rs : List Pr} (hx : Src w 2 (.slice A rs.length c) rs.length (encs encP rs)) (f : FuncId) (caps : Array Value) (p : Pr → Bool) (hen : ∀ (args : Array Value) (w : World), (callFunc f args).run Try.prog w = .ok (.enter f args) w)
    (hp : ∀ w' r, Kp (fun _ => False) w w' → r ∈ rs → Calls Try.prog f (#[aggP r] ++ caps) w' fun e w'' => e = .returned (.bool (p r)) ∧ Kp (fun _ => False) w' w'') (hlen : rs.length ≤ 1099511627776) :
    Calls Try.prog 58 #[.slice A rs.length c, .func (.func f) #[] caps] w fun e w' => ∃ i : Int, e = .returned (.int .i64 i) ∧ decide (0 ≤ i) = rs.any p ∧ Kp (fun _ => False) w w' := by
  have Hx := Lib.hid hx
  have Hp := Lib.hid hp
  clear hx hp
  generalize hn : rs.length = n at *
  have Hn := Lib.hid hn
  clear hn
  go_enter Try.func58, Try.ntmps58
  go_wp2_with fail
  go_loopw [8] (fun vi wr => ∃ i : Nat, i ≤ n ∧ vi = .int .i64 i ∧ Hid ((rs.take i).any p = false) ∧ Kp (fun _ => False) w wr) (fun vi _ => n - (intOf vi).toNat)
  case atStart => exact ⟨0, by omega, rfl, Lib.hid rfl, Kp.refl _ _⟩
  case round =>
    obtain ⟨i, him, rfl, Hno, hkp⟩ := hrel
    have Hkp := Lib.hid hkp
    clear hkp
    by_cases hlt : i < n
    · obtain ⟨b, off, c', hv, hb, hc⟩ := Src.wide Hx.out (by omega) (by omega)
      cases hv
      obtain ⟨r, hri⟩ : ∃ r, rs[i]? = some r := ⟨_, List.getElem?_eq_getElem (by rw [Hn.out]; exact hlt)⟩
      have e0 := hc (i * 2) _ (pp0 hri)
      have e1 := hc (i * 2 + 1) _ (pp1 hri)
      rw [← Nat.add_assoc] at e1
      rw [← Hkp.out.cell (p := ⟨b, _, none⟩) hb (fun h => h)] at e0 e1
      have hC : Calls Try.prog f (#[.agg #[.int .i64 r.1, .int .i64 r.2]] ++ caps) _ _ := Hp.out _ r Hkp.out (List.mem_of_getElem? hri)
      have HC := Lib.hid hC
      have Hri := Lib.hid hri
      have hgr : b < wr.heap.size := Nat.lt_of_lt_of_le hb Hkp.out.size
      clear hri hc hC
      obtain ⟨r1, r2⟩ := r
      dsimp only at e0 e1 HC
      cases hpr : p (r1, r2) with
      | true =>
        rw [hpr] at HC
        have Hpr := Lib.hid hpr
        clear hpr
        go_wp2_with fail
        with_reducible refine (HC.out).mono ?_
        rintro e w1 ⟨rfl, hk⟩
        have Hk := Lib.hid hk
        clear hk
        go_wp2_with fail
        go_ret
        refine ⟨_, rfl, ?_, Hkp.out.trans Hk.out⟩
        rw [List.any_eq_true.2 ⟨_, List.mem_of_getElem? Hri.out, Hpr.out⟩]
        exact decide_eq_true (by omega)
      | false =>
        rw [hpr] at HC
        have Hpr := Lib.hid hpr
        clear hpr
        go_wp2_with fail
        with_reducible refine (HC.out).mono ?_
        rintro e w1 ⟨rfl, hk⟩
        have Hk := Lib.hid hk
        clear hk
        go_wp2_with fail
        go_roundw
        case rel => exact ⟨i + 1, by omega, by go_num, Lib.hid (by rw [any_snoc _ _ _ _ Hri.out, Hno.out, Hpr.out]; rfl), Hkp.out.trans Hk.out⟩
        case measure => simp [intOf]; omega
    · obtain rfl : i = n := by omega
      rw [List.take_of_length_le (by rw [Hn.out]; omega)] at Hno
      go_wp2_with fail
      go_ret
      exact ⟨_, rfl, by rw [Hno.out]; rfl, Hkp.out⟩

theorem cf_any {w : World} {A : Option Addr} {c : Nat} {rs : List Pr} (hx : Src w 2 (.slice A rs.length c) rs.length (encs encP rs)) (f : FuncId) (caps : Array Value) (p : Pr → Bool) (hen : ∀ (args : Array Value) (w : World), (callFunc f args).run Try.prog w = .ok (.enter f args) w)
    (hp : ∀ w' r, Kp (fun _ => False) w w' → r ∈ rs → Calls Try.prog f (#[aggP r] ++ caps) w' fun e w'' => e = .returned (.bool (p r)) ∧ Kp (fun _ => False) w' w'') (hlen : rs.length ≤ 1099511627776) :
    Calls Try.prog 53 #[.slice A rs.length c, .func (.func f) #[] caps] w fun e w' => e = .returned (.bool (rs.any p)) ∧ Kp (fun _ => False) w w' := by
  have HI := Lib.hid (if_any hx f caps p hen hp hlen)
  clear hx hp hen
  generalize rs.length = n at *
  go_enter Try.func53, Try.ntmps53
  go_wp2_with fail
  with_reducible refine (HI.out).mono ?_
  rintro e w1 ⟨i, rfl, hi, hk⟩
  have Hi := Lib.hid hi
  clear hi
  go_wp2_with fail
  go_ret
  exact ⟨by rw [← Hi.out]; simp, hk⟩

end Go.Proofs.Ytbkpapdbidbhaaa
