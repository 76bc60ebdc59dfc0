/-
  Package spans: Count, First.
-/
import Derived.Test.YtbkpapdbidbhaaaSpan3
namespace Go.Proofs.Ytbkpapdbidbhaaa
open Go.RowKit

/-- How many numbers the runs hold. -/
def countL (L : List Pr) : Int := (L.map (fun r => r.2 - r.1)).sum
theorem count_nil : countL [] = 0 := rfl
theorem count_cons (r : Pr) (L : List Pr) : countL (r :: L) = (r.2 - r.1) + countL L := by simp [countL]
theorem count_app (L M : List Pr) : countL (L ++ M) = countL L + countL M := by simp [countL]
theorem count_bound {E : Int} : ∀ (L : List Pr) (lo : Int), NormL E L → (∀ x ∈ L, lo ≤ x.1) → lo ≤ E → 0 ≤ countL L ∧ countL L ≤ E - lo := by
  intro L
  induction L with
  | nil => intro lo _ _ h; rw [count_nil]; omega
  | cons r L ih =>
    intro lo hN hlo hE
    obtain ⟨h0, h1, h2, h3, h4⟩ := hN.cons
    have := ih r.2 h0 (fun x hx => by have := h1 x hx; omega) h4
    have := hlo r (by simp)
    rw [count_cons]
    omega
theorem NormL.take {E : Int} {L : List Pr} (h : NormL E L) (i : Nat) : NormL E (L.take i) :=
  ⟨h.asc.sublist (List.take_sublist _ _), fun r hr => h.run r (List.mem_of_mem_take hr)⟩
theorem count_take {L : List Pr} (h : NormL EndS L) (i : Nat) : 0 ≤ countL (L.take i) ∧ countL (L.take i) ≤ EndS := by
  have := count_bound (L.take i) 0 (h.take i) (fun x hx => ((h.take i).run x hx).1) (by unfold EndS; omega)
  omega

set_option maxRecDepth 100000 in
set_option maxHeartbeats 1000000 in
theorem t_count {w : World} {s o : Nat} {tc : TypeId} {cs : Array Value} {v : Value} {L : List Pr} (h : SetIn w s o tc cs v L) (hN : NormL EndS L) (hlen : L.length ≤ 1073741824) :
    Calls Try.prog 20 #[.pointer (some ⟨s, o, none⟩)] w fun e w' => e = .returned (.int .i64 (countL L)) ∧ Kp (fun _ => False) w w' := by
  have H := Lib.hid h
  have HN := Lib.hid hN
  have hsl := h.cell.lt
  have c0 := h.c0
  obtain ⟨A, cap, rfl⟩ : ∃ A cap, v = .slice A L.length cap := by
    rcases h.src.2.2 with ⟨h1, h2⟩ | ⟨a, c, h1, _⟩
    · exact ⟨none, 0, by rw [h1, h2]⟩
    · exact ⟨_, _, h1⟩
  clear h hN
  generalize hm : L.length = m at *
  have Hm := Lib.hid hm
  clear hm
  go_enter Try.func20, Try.ntmps20
  go_wp2_with fail
  go_loopw [3, 11] (fun vs vi wr => ∃ (i : Nat) (c : Int), i ≤ m ∧ vi = .int .i64 i ∧ vs = .int .i64 c ∧ Hid (countL (L.take i) = c) ∧ 0 ≤ c ∧ c ≤ 4611686018427387904 ∧ Kp (fun _ => False) w wr)
    (fun _ vi _ => m - (intOf vi).toNat)
  case atStart => exact ⟨0, 0, by omega, rfl, rfl, Lib.hid rfl, by omega, by omega, Kp.refl _ _⟩
  case round =>
    obtain ⟨i, c, him, rfl, rfl, Hc, hc0, hc1, hk⟩ := hrel
    have Hk := Lib.hid hk
    clear hk
    by_cases hlt : i < m
    · obtain ⟨b, off, c', hv, hb, hc⟩ := Src.wide H.out.src (by rw [Hm.out]; omega) (by omega)
      cases hv
      obtain ⟨r, hri⟩ : ∃ r, L[i]? = some r := ⟨_, List.getElem?_eq_getElem (by rw [Hm.out]; exact hlt)⟩
      have e0 := hc (i * 2) _ (pp0 hri)
      have e1 := hc (i * 2 + 1) _ (pp1 hri)
      rw [← Hk.out.cell (p := ⟨b, _, none⟩) hb (fun h => h)] at e0 e1
      rw [← Nat.add_assoc] at e1
      have hbw := Nat.lt_of_lt_of_le hb Hk.out.size
      have hr := HN.out.run r (List.mem_of_getElem? hri)
      have hnx : countL (L.take (i + 1)) = c + (r.2 - r.1) := by rw [takeP hri, count_app, Hc.out]; simp [countL]
      have hbd := count_take HN.out (i + 1)
      rw [hnx] at hbd
      obtain ⟨hbd1, hbd2⟩ := hbd
      obtain ⟨hr0, hr1, hr2⟩ := hr
      have Hnx := Lib.hid hnx
      clear hc hri hnx
      obtain ⟨r1, r2⟩ := r
      unfold EndS at *
      dsimp only at e0 e1 hr0 hr1 hr2 hbd1 hbd2 Hnx
      obtain ⟨c2, hc2⟩ : ∃ c2, c2 = c + (r2 - r1) := ⟨_, rfl⟩
      go_wp2_with fail
      go_roundw
      case rel => exact ⟨i + 1, c2, by omega, by go_num, by rw [hc2], Lib.hid (by rw [Hnx.out, hc2]), by omega, by omega, (Hk.out.alloc _)⟩
      case measure => simp [intOf]; omega
    · obtain rfl : i = m := by omega
      rw [List.take_of_length_le (by rw [Hm.out]; omega)] at Hc
      go_wp2_with fail
      go_ret
      exact ⟨by simp [Hc.out], Hk.out⟩

theorem s_count {w : World} {s : Nat} {v : Value} {L : List Pr} (h : SetAt w s v L) (hN : NormL EndS L) (hlen : L.length ≤ 1073741824) :
    Calls Try.prog 20 #[.pointer (some ⟨s, 0, none⟩)] w fun e w' => e = .returned (.int .i64 (countL L)) ∧ Kp (fun _ => False) w w' := t_count h.inn hN hlen

/-- The first number from one on that is not in it. -/
def firstL (L : List Pr) (n : Int) : Int := ((L.find? (hasP n)).map (·.2)).getD n
theorem find_snoc {L : List Pr} {i : Nat} {r : Pr} (p : Pr → Bool) (h : L[i]? = some r) (hn : (L.take i).any p = false) : (L.take (i + 1)).find? p = if p r then some r else none := by
  rw [takeP h, List.find?_append, List.find?_eq_none.2 (fun x hx hp => by
    have := List.any_eq_true.2 ⟨x, hx, hp⟩
    rw [hn] at this
    cases this)]
  simp [List.find?]
  split <;> simp_all
theorem find_here {L : List Pr} {i : Nat} {r : Pr} (p : Pr → Bool) (h : L[i]? = some r) (hn : (L.take i).any p = false) (hp : p r = true) : L.find? p = some r := by
  have h1 := find_snoc p h hn
  rw [if_pos hp] at h1
  rw [← List.take_append_drop (i + 1) L, List.find?_append, h1]
  rfl

set_option maxRecDepth 100000 in
set_option maxHeartbeats 1000000 in
theorem t_first {w : World} {s o : Nat} {tc : TypeId} {cs : Array Value} {v : Value} {L : List Pr} (h : SetIn w s o tc cs v L) (hlen : L.length ≤ 1073741824) (n0 n : Int) (hn0 : n = max 0 n0) :
    Calls Try.prog 37 #[.pointer (some ⟨s, o, none⟩), .int .i64 n0] w fun e w' => e = .returned (.int .i64 (firstL L n)) ∧ Kp (fun _ => False) w w' := by
  have H := Lib.hid h
  have hsl := h.cell.lt
  have c0 := h.c0
  obtain ⟨A, cap, rfl⟩ : ∃ A cap, v = .slice A L.length cap := by
    rcases h.src.2.2 with ⟨h1, h2⟩ | ⟨a, c, h1, _⟩
    · exact ⟨none, 0, by rw [h1, h2]⟩
    · exact ⟨_, _, h1⟩
  have Hn0 := Lib.hid hn0
  clear h hn0
  generalize hm : L.length = m at *
  have Hm := Lib.hid hm
  clear hm
  go_enter Try.func37, Try.ntmps37
  go_upto_region 1 with (fail)
  go_cut [1] (fun v1 wx => v1 = .int .i64 n ∧ wx = w)
  case first =>
    by_cases hp : 0 < n0
    · obtain rfl : n = n0 := by have := Hn0.out; omega
      go_wp2_with fail
      go_meet
      case rel => exact ⟨rfl, rfl⟩
    · obtain rfl : n = 0 := by have := Hn0.out; omega
      go_wp2_with fail
      go_meet
      case rel => exact ⟨rfl, rfl⟩
  case rest =>
  obtain ⟨rfl, rfl⟩ := hcut
  go_wp2_with fail
  go_loopw [14] (fun vi wr => ∃ (i : Nat), i ≤ m ∧ vi = .int .i64 i ∧ Hid ((L.take i).any (hasP n) = false) ∧ Kp (fun _ => False) wc wr)
    (fun vi _ => m - (intOf vi).toNat)
  case atStart => exact ⟨0, by omega, rfl, Lib.hid rfl, Kp.refl _ _⟩
  case round =>
    obtain ⟨i, him, rfl, Hno, hk⟩ := hrel
    have Hk := Lib.hid hk
    clear hk
    by_cases hlt : i < m
    · obtain ⟨b, off, c', hv, hb, hc⟩ := Src.wide H.out.src (by rw [Hm.out]; omega) (by omega)
      cases hv
      obtain ⟨r, hri⟩ : ∃ r, L[i]? = some r := ⟨_, List.getElem?_eq_getElem (by rw [Hm.out]; exact hlt)⟩
      have e0 := hc (i * 2) _ (pp0 hri)
      have e1 := hc (i * 2 + 1) _ (pp1 hri)
      rw [← Hk.out.cell (p := ⟨b, _, none⟩) hb (fun h => h)] at e0 e1
      rw [← Nat.add_assoc] at e1
      have hbw := Nat.lt_of_lt_of_le hb Hk.out.size
      have Hri := Lib.hid hri
      clear hc hri
      obtain ⟨r1, r2⟩ := r
      dsimp only at e0 e1
      have Hp : Hid (hasP n (r1, r2) = (decide (r1 ≤ n) && decide (n < r2))) := Lib.hid rfl
      by_cases t1 : r1 ≤ n
      · by_cases t2 : n < r2
        · rw [decide_eq_true t1, decide_eq_true t2] at Hp
          go_wp2_with fail
          go_ret
          exact ⟨by rw [firstL, find_here _ Hri.out Hno.out Hp.out]; rfl, Hk.out.alloc _⟩
        · rw [decide_eq_true t1, decide_eq_false t2] at Hp
          go_wp2_with fail
          go_roundw
          case rel => exact ⟨i + 1, by omega, by go_num, Lib.hid (by rw [any_snoc _ _ _ _ Hri.out, Hno.out, Hp.out]; rfl), (Hk.out.alloc _)⟩
          case measure => simp [intOf]; omega
      · rw [decide_eq_false t1] at Hp
        go_wp2_with fail
        go_roundw
        case rel => exact ⟨i + 1, by omega, by go_num, Lib.hid (by rw [any_snoc _ _ _ _ Hri.out, Hno.out, Hp.out]; rfl), (Hk.out.alloc _)⟩
        case measure => simp [intOf]; omega
    · obtain rfl : i = m := by omega
      rw [List.take_of_length_le (by rw [Hm.out]; omega)] at Hno
      go_wp2_with fail
      go_ret
      exact ⟨by rw [firstL, List.find?_eq_none.2 (fun x hx hp => by have := List.any_eq_true.2 ⟨x, hx, hp⟩; rw [Hno.out] at this; cases this)]; rfl, Hk.out⟩
theorem s_first {w : World} {s : Nat} {v : Value} {L : List Pr} (h : SetAt w s v L) (hlen : L.length ≤ 1073741824) (n0 n : Int) (hn0 : n = max 0 n0) :
    Calls Try.prog 37 #[.pointer (some ⟨s, 0, none⟩), .int .i64 n0] w fun e w' => e = .returned (.int .i64 (firstL L n)) ∧ Kp (fun _ => False) w w' := t_first h.inn hlen n0 n hn0

end Go.Proofs.Ytbkpapdbidbhaaa
