/-
  The document's estimate (argosyref7.Rtt): each call does what rtt's does.
-/
import Derived.Test.YtklcmaaoomfkiaaRtt
namespace Go.Proofs.Ytklcmaaoomfkiaa
open Go.RowKit

def withinF (n lo hi : Int) : Int := max lo (min hi n)

set_option maxHeartbeats 400000 in
theorem within_any (n lo hi : Int) (w : World) :
    Calls Try.prog 43 #[.int .i64 n, .int .i64 lo, .int .i64 hi] w fun e w' => e = .returned (.int .i64 (withinF n lo hi)) ∧ w = w' := by
  by_cases h1 : n < hi
  · by_cases h2 : lo < n
    · rw [show withinF n lo hi = n by unfold withinF; omega]
      go_enter Try.func43, Try.ntmps43
      go_wp2
      go_ret
      exact ⟨rfl, rfl⟩
    · rw [show withinF n lo hi = lo by unfold withinF; omega]
      go_enter Try.func43, Try.ntmps43
      go_wp2
      go_ret
      exact ⟨rfl, rfl⟩
  · by_cases h2 : lo < hi
    · rw [show withinF n lo hi = hi by unfold withinF; omega]
      go_enter Try.func43, Try.ntmps43
      go_wp2
      go_ret
      exact ⟨rfl, rfl⟩
    · rw [show withinF n lo hi = lo by unfold withinF; omega]
      go_enter Try.func43, Try.ntmps43
      go_wp2
      go_ret
      exact ⟨rfl, rfl⟩

set_option maxHeartbeats 400000 in
theorem rround_any {w : World} {b o : Nat} {r : R4} (h : IsR w b o r) (hi : r.Inv) :
    Calls Try.prog 40 #[.pointer (some ⟨b, o, none⟩)] w fun e w' => e = .returned (.int .i64 r.round) ∧ w = w' := by
  obtain ⟨c0, _, _, c3, _, _, _, _⟩ := h
  obtain ⟨S, V, B, m⟩ := r
  obtain ⟨i0, i1, i2, i3, i4⟩ := hi
  dsimp only at c0 c3 i0 i1 i2 i3 i4
  cases m with
  | false =>
    rw [show R4.round ⟨S, V, B, false⟩ = 4 from rfl]
    go_enter Try.func40, Try.ntmps40
    go_wp2_with fail
    go_ret
    exact ⟨rfl, rfl⟩
  | true =>
    have h8 := i4 rfl
    rw [show R4.round ⟨S, V, B, true⟩ = S / 8 by unfold R4.round; rw [if_pos rfl]; dsimp only; omega]
    by_cases h1 : 1 < S / 8
    · go_enter Try.func40, Try.ntmps40
      go_wp2_with fail
      go_ret
      exact ⟨rfl, rfl⟩
    · have h2 : S / 8 = 1 := by omega
      rw [h2]
      clear h2
      go_enter Try.func40, Try.ntmps40
      go_wp2_with fail
      go_ret
      exact ⟨rfl, rfl⟩

set_option maxHeartbeats 400000 in
theorem rlate_any {w : World} {b o : Nat} {r : R4} (h : IsR w b o r) (hi : r.Inv) :
    Calls Try.prog 42 #[.pointer (some ⟨b, o, none⟩)] w fun e w' => e = .returned (.int .i64 r.late) ∧ w = w' := by
  have hr := R4.round_bounds hi
  have hr1 := hr.1
  have hr2 := hr.2
  have H := Lib.hid h
  have Hi := Lib.hid hi
  clear h hi hr
  go_enter Try.func42, Try.ntmps42
  go_wp2_with (go_at_call 40; refine (rround_any H.out Hi.out).mono ?_; rintro e w' ⟨rfl, rfl⟩)
  go_ret
  exact ⟨rfl, rfl⟩

set_option maxHeartbeats 2000000 in
set_option maxRecDepth 100000 in
theorem rsample_any {w : World} {b o : Nat} {r : R4} (h : IsR w b o r) (hi : r.Inv) (x : Int) :
    Calls Try.prog 39 #[.pointer (some ⟨b, o, none⟩), .int .i64 x] w fun e w' => e = .returned (.tuple #[]) ∧ Dr w' (setR w b o (r.sample x)) := by
  obtain ⟨c0, c1, c2, c3, f0, f1, f2, f3⟩ := h
  obtain ⟨S, V, B, m⟩ := r
  obtain ⟨i0, i1, i2, i3, i4⟩ := hi
  dsimp only at c0 c1 c2 c3 i0 i1 i2 i3 i4
  have hcl : withinF x 1 1000 = R4.clamp x := by unfold withinF R4.clamp; omega
  have hc1 : 1 ≤ R4.clamp x := by unfold R4.clamp; omega
  have hc2 : R4.clamp x ≤ 1000 := by unfold R4.clamp; omega
  have hsf : R4.sample ⟨S, V, B, false⟩ x = ⟨8 * R4.clamp x, 2 * R4.clamp x, 0, true⟩ := rfl
  have hst : R4.sample ⟨S, V, B, true⟩ x = ⟨S + (R4.clamp x - S / 8), V + (max (R4.clamp x - S / 8) (-(R4.clamp x - S / 8)) - V / 4), 0, true⟩ := rfl
  generalize R4.clamp x = y at hcl hc1 hc2 hsf hst
  have Hcl := Lib.hid hcl
  clear hcl
  cases m with
  | false =>
    rw [hsf]
    clear hsf hst i4
    go_enter Try.func39, Try.ntmps39
    go_wp2_with (go_at_call 43; refine (within_any _ _ _ _).mono ?_; rw [Hcl.out]; rintro e w' ⟨rfl, rfl⟩)
    go_end0
    refine ⟨rfl, 0, ?_⟩
    unfold setR
    simp (disch := omega) only [setCell_sort]
    rfl
  | true =>
    have h8 := i4 rfl
    rw [hst]
    clear hsf hst i4
    by_cases hd : S / 8 - y < 0
    · rw [show S + (y - S / 8) = S - S / 8 + y by omega, show V + (max (y - S / 8) (-(y - S / 8)) - V / 4) = V - V / 4 + -(S / 8 - y) by omega]
      go_enter Try.func39, Try.ntmps39
      go_wp2_with (go_at_call 43; refine (within_any _ _ _ _).mono ?_; rw [Hcl.out]; rintro e w' ⟨rfl, rfl⟩)
      go_region
      go_wp2_with fail
      go_region
      go_wp2_with fail
      go_end0
      refine ⟨rfl, ?_⟩
      unfold setR Dr
      simp only [World.setCell_drew, World.drew_is_drewN, setCell_drewN, World.drewN_drewN]
      simp (disch := omega) only [setCell_sort]
      exact ⟨_, rfl⟩
    · rw [show S + (y - S / 8) = S - S / 8 + y by omega, show V + (max (y - S / 8) (-(y - S / 8)) - V / 4) = V - V / 4 + (S / 8 - y) by omega]
      go_enter Try.func39, Try.ntmps39
      go_wp2_with (go_at_call 43; refine (within_any _ _ _ _).mono ?_; rw [Hcl.out]; rintro e w' ⟨rfl, rfl⟩)
      go_region
      go_wp2_with fail
      go_region
      go_wp2_with fail
      go_end0
      refine ⟨rfl, ?_⟩
      unfold setR Dr
      simp only [World.setCell_drew, World.drew_is_drewN, setCell_drewN, World.drewN_drewN]
      simp (disch := omega) only [setCell_sort]
      exact ⟨_, rfl⟩

/-- Doubled so many times, without a bound. -/
def dbl2 : Nat → Int → Int
  | 0, w => w
  | n + 1, w => 2 * dbl2 n w
theorem dbl_pos (n : Nat) : ∀ w : Int, 1 ≤ w → 1 ≤ R4.dbl n w := by
  induction n with
  | zero => exact fun w h => h
  | succ n ih => exact fun w h => ih _ (by omega)
theorem dbl2_min (n : Nat) (w : Int) (h : 1 ≤ w) : 1 ≤ dbl2 n w ∧ min (R4.dbl n w) 32 = min (dbl2 n w) 32 := by
  induction n with
  | zero => exact ⟨h, rfl⟩
  | succ n ih =>
    obtain ⟨h1, h2⟩ := ih
    have h3 := dbl_pos n w h
    rw [R4.dbl_succ, dbl2]
    omega
def p2 : Nat → Int
  | 0 => 1
  | n + 1 => 2 * p2 n
theorem p2_le : ∀ n : Nat, n ≤ 10 → p2 n ≤ 1024 := by decide
theorem dbl2_le (n : Nat) (w : Int) (h : w ≤ 9000) : dbl2 n w ≤ 9000 * p2 n := by
  induction n with
  | zero => simpa [dbl2, p2] using h
  | succ n ih => rw [dbl2, p2]; omega

set_option maxHeartbeats 2000000 in
set_option maxRecDepth 100000 in
theorem rwait_any {w : World} {b o : Nat} {r : R4} (h : IsR w b o r) (hi : r.Inv) :
    Calls Try.prog 41 #[.pointer (some ⟨b, o, none⟩)] w fun e w' => e = .returned (.int .i64 r.wait) ∧ Dr w' w := by
  have H := Lib.hid h
  have Hi := Lib.hid hi
  obtain ⟨c0, c1, c2, c3, _, _, _, _⟩ := h
  have hb := R4.base_bounds hi
  have hrd := R4.round_bounds hi
  have hb1 := hb.1
  have hb2 := hb.2
  have hrd1 := hrd.1
  have hrd2 := hrd.2
  obtain ⟨i0, i1, i2, i3, i4⟩ := hi
  clear hb hrd i4
  obtain ⟨tm, htm⟩ : ∃ tm, tm = R4.times r.B := ⟨_, rfl⟩
  have ht10 : tm ≤ 10 := by rw [htm]; unfold R4.times; omega
  have hwi : withinF r.B 0 10 = (tm : Int) := by rw [htm]; unfold withinF R4.times; omega
  have Hwi := Lib.hid hwi
  clear hwi
  have Htm := Lib.hid htm
  clear htm
  go_enter Try.func41, Try.ntmps41
  go_upto_if 8 with fail
  go_cut [3] (fun s3 wx => s3 = .int .i64 r.base ∧ Dr wx w)
  case first =>
    cases hm : r.m with
    | false =>
      have Hm := Lib.hid hm
      rw [hm] at c3
      clear hm
      have Hb := Lib.hid (show r.base = 8 by unfold R4.base; rw [if_neg (by rw [Hm.out]; simp)])
      go_wp2_with fail
      go_meet
      exact ⟨by rw [Hb.out], Dr.refl _⟩
    | true =>
      have Hm := Lib.hid hm
      rw [hm] at c3
      clear hm
      by_cases h1 : 1 < r.V
      · have Hb := Lib.hid (show r.base = r.round + r.V by unfold R4.base; rw [if_pos Hm.out]; omega)
        go_wp2_with fail
        go_quiet ((go_at_call 40; exact Calls.quiet_of_same ((rround_any (H.out.drewN _) Hi.out).mono fun _ _ ⟨he, hw⟩ => ⟨he, hw.symm⟩)))
        go_wp2_with fail
        go_meet
        exact ⟨by rw [Hb.out], _, rfl⟩
      · have Hb := Lib.hid (show r.base = r.round + 1 by unfold R4.base; rw [if_pos Hm.out]; omega)
        go_wp2_with fail
        go_quiet ((go_at_call 40; exact Calls.quiet_of_same ((rround_any (H.out.drewN _) Hi.out).mono fun _ _ ⟨he, hw⟩ => ⟨he, hw.symm⟩)))
        go_wp2_with fail
        go_meet
        exact ⟨by rw [Hb.out], _, rfl⟩
  case rest =>
    obtain ⟨rfl, dw, hdw⟩ := hcut
    have c2' : wc.cell? ⟨b, o + 2, none⟩ = some (.int .i64 r.B) := by rw [hdw]; exact c2
    have Hdw := Lib.hid hdw
    clear hdw c0 c1 c2 c3
    have hfin : ∀ (v : Int) (wx : World), v = dbl2 tm r.base → Dr wx wc → (Ending.returned (.int .i64 (min v 32)) = .returned (.int .i64 r.wait) ∧ Dr wx w) := by
      intro v wx hv hx
      refine ⟨by rw [hv, ← (dbl2_min tm r.base (by omega)).2]; unfold R4.wait; rw [← Htm.out], ?_⟩
      obtain ⟨n, rfl⟩ := hx
      rw [Hdw.out, World.drewN_drewN]
      exact ⟨_, rfl⟩
    have Hfin := Lib.hid hfin
    clear hfin
    go_wp2_with (go_at_call 43; refine (within_any _ _ _ _).mono ?_; rw [Hwi.out]; rintro e w' ⟨rfl, rfl⟩)
    go_loop [3, 4] (fun v3 v4 => ∃ k : Nat, k ≤ tm ∧ v4 = .int .i64 ((tm : Int) - k) ∧ v3 = .int .i64 (dbl2 k r.base)) (fun _ v4 => (intOf v4).toNat)
    case atStart => exact ⟨0, by omega, by simp, rfl⟩
    case round =>
      obtain ⟨k, hk, rfl, rfl⟩ := hrel
      have hd1 := (dbl2_min k r.base (by omega)).1
      have hd2 := dbl2_le k r.base hb2
      have hd3 := p2_le k (by omega)
      have hd4 : dbl2 k r.base ≤ 9216000 := by omega
      have hsu : dbl2 (k + 1) r.base = 2 * dbl2 k r.base := rfl
      clear hd2 hd3
      generalize hD : dbl2 k r.base = D at *
      have HD := Lib.hid hD
      have Hsu := Lib.hid hsu
      clear hD hsu
      by_cases hlt : k < tm
      · go_wp2_with fail
        go_round
        case rel => exact ⟨k + 1, by omega, by go_num, by rw [Hsu.out]⟩
        case measure => simp [intOf]; omega
      · obtain rfl : k = tm := by omega
        by_cases h32 : 32 < D
        · have hf := Hfin.out D wc HD.out.symm (Dr.refl _)
          rw [show min D 32 = 32 by omega] at hf
          have Hf := Lib.hid hf
          clear hf
          go_wp2_with fail
          go_ret
          exact Hf.out
        · have hf := Hfin.out D wc HD.out.symm (Dr.refl _)
          rw [show min D 32 = D by omega] at hf
          have Hf := Lib.hid hf
          clear hf
          go_wp2_with fail
          go_ret
          exact Hf.out
end Go.Proofs.Ytklcmaaoomfkiaa
