/-
  argosyhand: Num, May, Runs; bytes read as a string.
-/
import Derived.Test.YtoiakdddghbdnaaPaA
import Derived.Test.YtoiakdddghbdnaaFew
import Derived.Laws.IdiomStrings
namespace Go.Proofs.Ytoiakdddghbdnaa
open Go.RowKit

def SomeI (w : World) (e : Ending) (w' : World) : Prop := ∃ v : Int, e = .returned (.int .i64 v) ∧ -9223372036854775808 ≤ v ∧ v ≤ 9223372036854775807 ∧ w = w'
set_option maxHeartbeats 2000000 in
set_option maxRecDepth 100000 in
theorem num_any (n : Int) (l : -9223372036854775808 ≤ n) (h : n ≤ 9223372036854775807) (w : World) : Calls Try.prog 38 #[.int .i64 n] w (SomeI w) := by
  have p0 := pickF_lo (n.tdiv 9) 3 (by omega)
  have p0' := pickF_hi (n.tdiv 9) 3 (by omega)
  have p1 := pickF_lo n 9 (by omega)
  have p1' := pickF_hi n 9 (by omega)
  have p2 := pickF_lo (n.tdiv 9) 500 (by omega)
  have p2' := pickF_hi (n.tdiv 9) 500 (by omega)
  go_enter Try.func38, Try.ntmps38
  go_wp2_with (go_at_call 9; refine (pick_any _ _ _ (by omega) (by omega)).mono ?_; rintro e w' ⟨rfl, rfl⟩)
  all_goals go_ret
  all_goals exact ⟨_, rfl, by omega, by omega, rfl⟩
def mayB (n : Int) : Bool := decide (0 ≤ n ∧ n ≤ 4611686018427387903)
theorem rmay_any (n : Int) (w : World) : Calls Try.prog 50 #[.int .i64 n] w fun e w' => e = .returned (.bool (mayB n)) ∧ w = w' := by
  obtain ⟨r, hr⟩ : ∃ r, r = mayB n := ⟨_, rfl⟩
  rw [← hr]
  have Hr := Lib.hid hr
  clear hr
  by_cases h1 : 0 ≤ n
  · by_cases h2 : n ≤ 4611686018427387903
    · have e : r = true := by rw [Hr.out]; exact decide_eq_true ⟨h1, h2⟩
      subst e
      go_enter Try.func50, Try.ntmps50
      go_wp2_with fail
      go_ret
      exact ⟨rfl, rfl⟩
    · have e : r = false := by rw [Hr.out]; exact decide_eq_false (fun h => h2 h.2)
      subst e
      go_enter Try.func50, Try.ntmps50
      go_wp2_with fail
      go_ret
      exact ⟨rfl, rfl⟩
  · have e : r = false := by rw [Hr.out]; exact decide_eq_false (fun h => h1 h.1)
    subst e
    go_enter Try.func50, Try.ntmps50
    go_wp2_with fail
    go_ret
    exact ⟨rfl, rfl⟩
def SomeM (w : World) (e : Ending) (w' : World) : Prop := ∃ v : Int, e = .returned (.int .i64 v) ∧ 0 ≤ v ∧ v ≤ 4611686018427387903 ∧ w = w'
theorem may_any (n : Int) (l : -9223372036854775808 ≤ n) (h : n ≤ 9223372036854775807) (w : World) : Calls Try.prog 36 #[.int .i64 n] w (SomeM w) := by
  have HN := Lib.hid (num_any n l h)
  have p1 := pickF_lo n 1048576 (by omega)
  have p1' := pickF_hi n 1048576 (by omega)
  have HP := Lib.hid (fun w => pick_any n 1048576 w (by omega) (by omega))
  generalize pickF n 1048576 = q at *
  clear l h
  go_enter Try.func36, Try.ntmps36
  go_wp2_with fail
  with_reducible refine (HN.out _).mono ?_
  rintro e w1 ⟨m, rfl, hm1, hm2, rfl⟩
  have HM := Lib.hid (rmay_any m)
  cases hb : mayB m with
  | true =>
    have hb2 : 0 ≤ m ∧ m ≤ 4611686018427387903 := of_decide_eq_true hb
    rw [hb] at HM
    clear hb
    have Hb := Lib.hid hb2
    clear hb2
    go_wp2_with fail
    with_reducible refine (HM.out _).mono ?_
    rintro e w1 ⟨rfl, rfl⟩
    go_wp2_with fail
    go_ret
    exact ⟨m, rfl, Hb.out.1, Hb.out.2, rfl⟩
  | false =>
    rw [hb] at HM
    clear hb
    go_wp2_with fail
    with_reducible refine (HM.out _).mono ?_
    rintro e w1 ⟨rfl, rfl⟩
    go_wp2_with fail
    with_reducible refine (HP.out _).mono ?_
    rintro e w1 ⟨rfl, rfl⟩
    go_wp2_with fail
    go_ret
    exact ⟨q, rfl, p1, by omega, rfl⟩

/-- 'string(..)' of a row that holds the bytes d. -/
theorem conv_row {w : World} {g off c n : Nat} {d : List UInt8} (hn : d.length = n) (h : ∀ j u, (encB d)[j]? = some u → w.cell? ⟨g, off + j, none⟩ = some u) :
    (convert 28 9 (.slice (some ⟨g, off, none⟩) n c)).run Try.prog w = .ok (.string ⟨d.toArray⟩) w := by
  subst hn
  exact run_convert_bytes_back (P := Try.prog) w 28 9 5 ⟨g, off, none⟩ c d Try.underlying28 Try.underlying5 Try.underlying9 (fun j hj => by
    rw [Addr.add_lit]
    exact h j _ (by simp [encB, List.getElem?_eq_getElem hj]))
theorem conv_bs {w : World} {c : Nat} {A : Option Addr} {d : List UInt8} (h : Bs w (.slice A d.length c) d) (m : Nat) (hm : d.length = m) :
    (convert 28 9 (.slice A m c)).run Try.prog w = .ok (.string ⟨d.toArray⟩) w := by
  subst hm
  by_cases h0 : 0 < d.length
  · obtain ⟨b, off, c', hv, hb, hc⟩ := Src.wide h h0 (by omega)
    cases hv
    exact conv_row rfl hc
  · obtain rfl : d = [] := List.eq_nil_of_length_eq_zero (by omega)
    cases A with
    | none =>
      obtain ⟨_, _, ⟨hv, _⟩ | ⟨a, c', hv, _⟩⟩ := h
      · cases hv
        have := run_convert_bytes_string (P := Try.prog) w 28 9 5 none 0 0 Try.underlying28 Try.underlying5 Try.underlying9
        rw [show ([] : List UInt8).length = 0 from rfl, this]
        simp [Conv.bytesToString]
        rfl
      · cases hv
    | some a =>
      exact run_convert_bytes_back (P := Try.prog) w 28 9 5 a c [] Try.underlying28 Try.underlying5 Try.underlying9 (fun j hj => by simp at hj)

/-- Ints that are read. -/
def IntsOk (w : World) (A : Option Addr) (n : Nat) : Prop := n = 0 ∨ ∃ b o, A = some ⟨b, o, none⟩ ∧ b < w.heap.size ∧ ∀ i, i < n → ∃ x : Int, w.cell? ⟨b, o + i, none⟩ = some (.int .i64 x) ∧ -9223372036854775808 ≤ x ∧ x ≤ 9223372036854775807
theorem IntsOk.kp {w w' : World} {A : Option Addr} {n : Nat} (h : IntsOk w A n) (hk : Kp (fun _ => False) w w') : IntsOk w' A n := by
  rcases h with h | ⟨b, o, rfl, hb, hc⟩
  · exact .inl h
  · exact .inr ⟨b, o, rfl, Nat.lt_of_lt_of_le hb hk.size, fun i hi => by obtain ⟨x, h1, h2⟩ := hc i hi; exact ⟨x, (hk.cell (p := ⟨b, o + i, none⟩) hb (fun h => h)).trans h1, h2⟩⟩
theorem pick_natR (n m : Int) (w : World) (hm : 1 ≤ m) (hm2 : m ≤ 1152921504606846976) :
    Calls Try.prog 9 #[.int .i64 n, .int .i64 m] w fun e w' => ∃ i : Nat, (i : Int) < m ∧ e = .returned (.int .i64 (i : Int)) ∧ w = w' := by
  refine (pick_any n m w hm hm2).mono ?_
  rintro e w' ⟨rfl, rfl⟩
  exact ⟨(pickF n m).toNat, by have := pickF_hi n m hm; have := pickF_lo n m hm; omega, by rw [Int.toNat_of_nonneg (pickF_lo n m hm)], rfl⟩

set_option maxHeartbeats 400000 in
theorem pick_natBig (n m : Int) (w : World) (hm : 1 ≤ m) (hm2 : m ≤ 4611686018427387904) :
    Calls Try.prog 9 #[.int .i64 n, .int .i64 m] w fun e w' => ∃ i : Nat, (i : Int) < m ∧ e = .returned (.int .i64 (i : Int)) ∧ w = w' := by
  have h1 : -m < n.tmod m := by have := Int.lt_tmod_of_pos n (b := m) (by omega); omega
  have h2 : n.tmod m < m := Int.tmod_lt_of_pos n (by omega)
  have hz : (m == 0) = false := by simp; omega
  have hq : (((pickF n m).toNat : Nat) : Int) = pickF n m := Int.toNat_of_nonneg (pickF_lo n m hm)
  have hq2 := pickF_hi n m hm
  by_cases h : n.tmod m < 0
  · have Hq : Hid ((((pickF n m).toNat : Nat) : Int) = n.tmod m + m) := Lib.hid (by rw [hq]; simp [pickF, h])
    have Hq2 := Lib.hid (show (((pickF n m).toNat : Nat) : Int) < m by rw [hq]; exact hq2)
    clear hq hq2
    go_enter Try.func9, Try.ntmps9
    go_wp2
    go_ret
    exact ⟨_, Hq2.out, by rw [Hq.out]; rfl, rfl⟩
  · have Hq : Hid ((((pickF n m).toNat : Nat) : Int) = n.tmod m) := Lib.hid (by rw [hq]; rw [pickF, if_neg (by omega)])
    have Hq2 := Lib.hid (show (((pickF n m).toNat : Nat) : Int) < m by rw [hq]; exact hq2)
    clear hq hq2
    go_enter Try.func9, Try.ntmps9
    go_wp2
    go_ret
    exact ⟨_, Hq2.out, by rw [Hq.out]; rfl, rfl⟩

set_option maxRecDepth 100000 in
set_option maxHeartbeats 2000000 in
theorem runs_any {w : World} {A : Option Addr} {n c : Nat} (h : IntsOk w A n) (hn : n ≤ 17592186044416) :
    Calls Try.prog 35 #[.slice A n c] w fun e w' => ∃ Av cv L, e = .returned (.slice Av L.length cv) ∧ RowAt w' w.heap.size 2 (.slice Av L.length cv) L.length (encs encP L) ∧ L.length ≤ 8 ∧ Kp (fun _ => False) w w' := by
  obtain ⟨i0, hii, hz0, hz1, hz2⟩ := info_parts infoPr
  have Hi := Lib.hid hii
  have Hz0 := Lib.hid hz0
  have Hz1 := Lib.hid hz1
  have Hz2 := Lib.hid hz2
  have H := Lib.hid h
  clear h hii hz0 hz1 hz2
  go_enter Try.func35, Try.ntmps35
  go_wp2_with fail
  go_loopw [3, 4, 5] (fun vo vl vi wr => ∃ (i : Nat) (low : Int) (L : List Pr) (Av : Option Addr) (cv : Nat), i ≤ n ∧ i ≤ 8 ∧ vi = .int .i64 i ∧ vl = .int .i64 low ∧ 1099511627776 - 341 * (i : Int) ≤ low ∧ low ≤ 1099511627776 ∧ vo = .slice Av i cv ∧ Hid (L.length = i) ∧ Hid (RowAt wr w.heap.size 2 (.slice Av i cv) i (encs encP L)) ∧ Hid (Kp (fun _ => False) w wr))
    (fun _ _ vi _ => n - (intOf vi).toNat)
  case atStart => exact ⟨0, 1099511627776, [], none, 0, by omega, by omega, rfl, rfl, by omega, by omega, rfl, Lib.hid rfl, Lib.hid (RowAt.nil _ _ _), Lib.hid (Kp.refl _ _)⟩
  case round =>
    obtain ⟨i, low, L, Av, cv, hin, hi8, rfl, rfl, hl1, hl2, rfl, HL, HR, HK⟩ := hrel
    by_cases hlt : i < n
    · by_cases h8 : i < 8
      · rcases H.out with h0 | ⟨b, o, rfl, hb, hc⟩
        · omega
        · obtain ⟨x, hx, hx1, hx2⟩ := hc i hlt
          have hx' := (HK.out.cell (p := ⟨b, o + i, none⟩) hb (fun h => h)).trans hx
          have hbw := Nat.lt_of_lt_of_le hb HK.out.size
          have hws := HK.out.size
          clear hc hx
          have q1 : (i : Int) < (n : Int) := by omega
          have q2 : (i : Int) < 8 := by omega
          have q3 : (0 : Int) ≤ (i : Int) := by omega
          go_wp2_with fail
          with_reducible refine (pick_natR _ _ _ (by omega) (by omega)).mono ?_
          rintro e w' ⟨p1, hp1, rfl, rfl⟩
          go_wp2_with fail
          with_reducible refine (pick_natR _ _ _ (by omega) (by omega)).mono ?_
          rintro e w' ⟨p2, hp2, rfl, rfl⟩
          go_wp2_with (at_builtin; refine wpList_row rfl (.tmp 34) (.tmp 38) 29 rfl w.heap.size 37 i0 _ 2 16 Try.underlying29 Hi.out Hz0.out Hz1.out Hz2.out rfl (by decide) _ i _ rfl (HR.out.kp ((Kp.refl (fun _ => False) _).alloc _) (fun _ _ h => h)) _ 1 (encP (low - 2 - (p1 : Int) - (p2 : Int), low - 2 - (p1 : Int))) rfl (srcW _ (Whole.new _ _ _) rfl (fun u hu => by simp [encP] at hu; rcases hu with rfl | rfl <;> rfl)) (by unfold maxLen; omega) (by omega) (by simp only [World.size_alloc]; omega) ?_; intro v5 w5 hr5 hg5 hn5; obtain ⟨A5, c5, rfl⟩ := hr5.form; have hk5 : Kp (fun _ => False) w w5 := ((HK.out.alloc _).grown hg5 (fun i hi hlt => absurd (HR.out.lt i hi).1 (by omega))); have Hr5 := Lib.hid hr5; have Hk5 := Lib.hid hk5; clear hr5 hg5 hn5 hk5)
          go_roundw
          case rel => exact ⟨i + 1, low - 2 - (p1 : Int) - (p2 : Int), L ++ [(low - 2 - (p1 : Int) - (p2 : Int), low - 2 - (p1 : Int))], A5, c5, by omega, by omega, by go_num, by go_num, by omega, by omega, rfl, Lib.hid (by rw [List.length_append, HL.out]; rfl), Lib.hid (by rw [encP_app]; exact Hr5.out), Hk5⟩
          case measure => simp [intOf]; omega
      · obtain rfl : i = 8 := by omega
        have q1 : ((8 : Nat) : Int) < (n : Int) := by omega
        have HE : Hid (∃ Av' cv' L', Value.slice Av 8 cv = .slice Av' (List.length L') cv' ∧ RowAt wr w.heap.size 2 (.slice Av' (List.length L') cv') (List.length L') (encs encP L') ∧ (List.length L') ≤ 8 ∧ Kp (fun _ => False) w wr) := Lib.hid ⟨Av, cv, L, by rw [HL.out], by rw [HL.out]; exact HR.out, by rw [HL.out]; omega, HK.out⟩
        go_wp2_with fail
        go_ret
        obtain ⟨a1, a2, a3, a4, a5⟩ := HE.out
        exact ⟨a1, a2, a3, congrArg Ending.returned a4, a5⟩
    · obtain rfl : i = n := by omega
      by_cases h0 : i = 0
      · subst h0
        have HK2 : Hid (Kp (fun _ => False) w (wr.alloc (.cells #[.int .i64 3, .int .i64 3] 37))) := Lib.hid (HK.out.alloc _)
        have hws := HK.out.size
        go_wp2_with fail
        go_ret
        refine ⟨_, 1, [(3, 3)], rfl, ?_, by simp, HK2.out⟩
        exact RowAt.of_own (e := 37) ⟨rfl, .inr ⟨wr.heap.size, 1, #[.int .i64 3, .int .i64 3], rfl, hws, Whole.new _ _ _, Nat.le_refl _, by unfold maxLen; omega, rfl, rfl⟩⟩
      · have hb : ((i : Int) == 0) = false := by simp; omega
        have HE : Hid (∃ Av' cv' L', Value.slice Av i cv = .slice Av' (List.length L') cv' ∧ RowAt wr w.heap.size 2 (.slice Av' (List.length L') cv') (List.length L') (encs encP L') ∧ (List.length L') ≤ 8 ∧ Kp (fun _ => False) w wr) := Lib.hid ⟨Av, cv, L, by rw [HL.out], by rw [HL.out]; exact HR.out, by rw [HL.out]; omega, HK.out⟩
        go_wp2_with fail
        go_ret
        obtain ⟨a1, a2, a3, a4, a5⟩ := HE.out
        exact ⟨a1, a2, a3, congrArg Ending.returned a4, a5⟩
end Go.Proofs.Ytoiakdddghbdnaa
