/-
  The calls of package rtt: what each answers, and what it does to the struct in memory.
-/
import Derived.Test.YtoiakdddghbdnaaBase
import Derived.Test.YtoiakdddghbdnaaRttPure
namespace Go.Proofs.Ytoiakdddghbdnaa
open Go.RowKit

def setR (w : World) (b o : Nat) (r : R4) : World :=
  (((w.setCell ⟨b, o, none⟩ (.int .i64 r.S)).setCell ⟨b, o + 1, none⟩ (.int .i64 r.V)).setCell ⟨b, o + 2, none⟩ (.int .i64 r.B)).setCell ⟨b, o + 3, none⟩ (.bool r.m)

structure IsR (w : World) (b o : Nat) (r : R4) : Prop where
  c0 : w.cell? ⟨b, o, none⟩ = some (.int .i64 r.S)
  c1 : w.cell? ⟨b, o + 1, none⟩ = some (.int .i64 r.V)
  c2 : w.cell? ⟨b, o + 2, none⟩ = some (.int .i64 r.B)
  c3 : w.cell? ⟨b, o + 3, none⟩ = some (.bool r.m)
  f0 : w.frozen? ⟨b, o, none⟩ = false
  f1 : w.frozen? ⟨b, o + 1, none⟩ = false
  f2 : w.frozen? ⟨b, o + 2, none⟩ = false
  f3 : w.frozen? ⟨b, o + 3, none⟩ = false

theorem IsR.drewN {w : World} {b o : Nat} {r : R4} (h : IsR w b o r) (n : Nat) : IsR (w.drewN n) b o r := ⟨h.c0, h.c1, h.c2, h.c3, h.f0, h.f1, h.f2, h.f3⟩
theorem isR_mk {w : World} {b : Nat} {t : TypeId} {S V B : Int} {m : Bool} (h : Whole w b t #[.int .i64 S, .int .i64 V, .int .i64 B, .bool m]) : IsR w b 0 ⟨S, V, B, m⟩ :=
  ⟨h.cell 0, h.cell 1, h.cell 2, h.cell 3, h.frozen 0, h.frozen 1, h.frozen 2, h.frozen 3⟩
theorem setR_whole {w : World} {b : Nat} {t : TypeId} {v0 v1 v2 v3 : Value} (h : Whole w b t #[v0, v1, v2, v3]) (r : R4) :
    Whole (setR w b 0 r) b t #[.int .i64 r.S, .int .i64 r.V, .int .i64 r.B, .bool r.m] := by
  have := (((h.set 0 (.int .i64 r.S)).set 1 (.int .i64 r.V)).set 2 (.int .i64 r.B)).set 3 (.bool r.m)
  simpa [setR] using this
theorem setR_kept (w : World) (b o : Nat) (r : R4) : w.grownBy (setR w b o r) (some b) :=
  kept_set (kept_set (kept_set (kept_set (kept_refl _ _) _ _) _ _) _ _) _ _

set_option maxHeartbeats 400000 in
theorem round_any {w : World} {b o : Nat} {r : R4} (h : IsR w b o r) (hi : r.Inv) :
    Calls Try.prog 15 #[.pointer (some ⟨b, o, none⟩)] w fun e w' => e = .returned (.int .i64 r.round) ∧ w = w' := by
  obtain ⟨c0, _, _, c3, _, _, _, _⟩ := h
  obtain ⟨S, V, B, m⟩ := r
  obtain ⟨i0, i1, i2, i3, i4⟩ := hi
  dsimp only at c0 c3 i0 i1 i2 i3 i4
  cases m with
  | false =>
    rw [show R4.round ⟨S, V, B, false⟩ = 4 from rfl]
    go_enter Try.func15, Try.ntmps15
    go_wp2_with fail
    go_ret
    exact ⟨rfl, rfl⟩
  | true =>
    have h8 := i4 rfl
    rw [show R4.round ⟨S, V, B, true⟩ = S / 8 by unfold R4.round; rw [if_pos rfl]; dsimp only; omega]
    by_cases h1 : 1 < S / 8
    · go_enter Try.func15, Try.ntmps15
      go_wp2_with fail
      go_ret
      exact ⟨rfl, rfl⟩
    · have h2 : S / 8 = 1 := by omega
      rw [h2]
      clear h2
      go_enter Try.func15, Try.ntmps15
      go_wp2_with fail
      go_ret
      exact ⟨rfl, rfl⟩

set_option maxHeartbeats 400000 in
theorem late_any {w : World} {b o : Nat} {r : R4} (h : IsR w b o r) (hi : r.Inv) :
    Calls Try.prog 29 #[.pointer (some ⟨b, o, none⟩)] w fun e w' => e = .returned (.int .i64 r.late) ∧ w = w' := by
  have hr := R4.round_bounds hi
  have hr1 := hr.1
  have hr2 := hr.2
  have H := Lib.hid h
  have Hi := Lib.hid hi
  clear h hi hr
  go_enter Try.func29, Try.ntmps29
  go_wp2_with (go_at_call 15; refine (round_any H.out Hi.out).mono ?_; rintro e w' ⟨rfl, rfl⟩)
  go_ret
  exact ⟨rfl, rfl⟩

set_option maxHeartbeats 2000000 in
set_option maxRecDepth 100000 in
theorem sample_any {w : World} {b o : Nat} {r : R4} (h : IsR w b o r) (hi : r.Inv) (x : Int) :
    Calls Try.prog 27 #[.pointer (some ⟨b, o, none⟩), .int .i64 x] w fun e w' => e = .returned (.tuple #[]) ∧ Dr w' (setR w b o (r.sample x)) := by
  obtain ⟨c0, c1, c2, c3, f0, f1, f2, f3⟩ := h
  obtain ⟨S, V, B, m⟩ := r
  obtain ⟨i0, i1, i2, i3, i4⟩ := hi
  dsimp only at c0 c1 c2 c3 i0 i1 i2 i3 i4
  have hcl := R4.clamp_cases x
  cases m with
  | false =>
    have hs : R4.sample ⟨S, V, B, false⟩ x = ⟨8 * R4.clamp x, 2 * R4.clamp x, 0, true⟩ := rfl
    rw [hs]
    clear hs i4
    rcases hcl with ⟨hr, h1⟩ | ⟨hr, h1, h2⟩ | ⟨hr, h1⟩
    all_goals
      rw [hr]
      clear hr
      go_enter Try.func27, Try.ntmps27
      go_wp2_with fail
      go_end0
      refine ⟨rfl, 0, ?_⟩
      unfold setR
      simp (disch := omega) only [setCell_sort]
      rfl
  | true =>
    have h8 := i4 rfl
    clear i4
    have hs : R4.sample ⟨S, V, B, true⟩ x = ⟨S + (R4.clamp x - S / 8), V + (max (R4.clamp x - S / 8) (-(R4.clamp x - S / 8)) - V / 4), 0, true⟩ := rfl
    rw [hs]
    clear hs
    rcases hcl with ⟨hr, h1⟩ | ⟨hr, h1, h2⟩ | ⟨hr, h1⟩
    · rw [hr]
      clear hr
      by_cases ha : (1 : Int) - S / 8 < -((1 : Int) - S / 8)
      · rw [show max ((1 : Int) - S / 8) (-((1 : Int) - S / 8)) = -((1 : Int) - S / 8) by omega]
        go_enter Try.func27, Try.ntmps27
        go_wp2_with fail
        go_region
        go_wp2_with fail
        go_region
        go_wp2_with fail
        go_end0
        refine ⟨rfl, ?_⟩
        unfold setR Dr
        simp only [World.drew_is_drewN, World.drewN_drewN]
        simp (disch := omega) only [setCell_sort]
        exact ⟨_, rfl⟩
      · rw [show max ((1 : Int) - S / 8) (-((1 : Int) - S / 8)) = (1 : Int) - S / 8 by omega]
        go_enter Try.func27, Try.ntmps27
        go_wp2_with fail
        go_region
        go_wp2_with fail
        go_region
        go_wp2_with fail
        go_end0
        refine ⟨rfl, ?_⟩
        unfold setR Dr
        simp only [World.drew_is_drewN, World.drewN_drewN]
        simp (disch := omega) only [setCell_sort]
        exact ⟨_, rfl⟩
    · rw [hr]
      clear hr
      by_cases ha : (x : Int) - S / 8 < -((x : Int) - S / 8)
      · rw [show max ((x : Int) - S / 8) (-((x : Int) - S / 8)) = -((x : Int) - S / 8) by omega]
        go_enter Try.func27, Try.ntmps27
        go_wp2_with fail
        go_region
        go_wp2_with fail
        go_region
        go_wp2_with fail
        go_end0
        refine ⟨rfl, ?_⟩
        unfold setR Dr
        simp only [World.drew_is_drewN, World.drewN_drewN]
        simp (disch := omega) only [setCell_sort]
        exact ⟨_, rfl⟩
      · rw [show max ((x : Int) - S / 8) (-((x : Int) - S / 8)) = (x : Int) - S / 8 by omega]
        go_enter Try.func27, Try.ntmps27
        go_wp2_with fail
        go_region
        go_wp2_with fail
        go_region
        go_wp2_with fail
        go_end0
        refine ⟨rfl, ?_⟩
        unfold setR Dr
        simp only [World.drew_is_drewN, World.drewN_drewN]
        simp (disch := omega) only [setCell_sort]
        exact ⟨_, rfl⟩
    · rw [hr]
      clear hr
      by_cases ha : (1000 : Int) - S / 8 < -((1000 : Int) - S / 8)
      · exfalso
        omega
      · rw [show max ((1000 : Int) - S / 8) (-((1000 : Int) - S / 8)) = (1000 : Int) - S / 8 by omega]
        go_enter Try.func27, Try.ntmps27
        go_wp2_with fail
        go_region
        go_wp2_with fail
        go_region
        go_wp2_with fail
        go_end0
        refine ⟨rfl, ?_⟩
        unfold setR Dr
        simp only [World.drew_is_drewN, World.drewN_drewN]
        simp (disch := omega) only [setCell_sort]
        exact ⟨_, rfl⟩


set_option maxHeartbeats 2000000 in
set_option maxRecDepth 100000 in
theorem wait_any {w : World} {b o : Nat} {r : R4} (h : IsR w b o r) (hi : r.Inv) :
    Calls Try.prog 32 #[.pointer (some ⟨b, o, none⟩)] w fun e w' => e = .returned (.int .i64 r.wait) ∧ Dr w' w := by
  have H := Lib.hid h
  have Hi := Lib.hid hi
  obtain ⟨c0, c1, c2, c3, _, _, _, _⟩ := h
  have hb := R4.base_bounds hi
  have hrd := R4.round_bounds hi
  have hb1 := hb.1
  have hb2 := hb.2
  have hrd1 := hrd.1
  have hrd2 := hrd.2
  obtain ⟨i0, i1, i2, i3, i4⟩ := hi
  clear hb hrd i4
  obtain ⟨tm, htm⟩ : ∃ tm, tm = R4.times r.B := ⟨_, rfl⟩
  have htc : (tm : Int) = 0 ∧ r.B ≤ 0 ∨ (tm : Int) = r.B ∧ 0 < r.B ∧ r.B ≤ 10 ∨ (tm : Int) = 10 ∧ 10 < r.B := by rw [htm]; unfold R4.times; omega
  have Htm := Lib.hid htm
  clear htm
  go_enter Try.func32, Try.ntmps32
  go_upto_if 7 with fail
  go_cut [3] (fun s3 wx => s3 = .int .i64 r.base ∧ Dr wx w)
  case first =>
    cases hm : r.m with
    | false =>
      have Hm := Lib.hid hm
      rw [hm] at c3
      clear hm
      have Hb := Lib.hid (show r.base = 8 by unfold R4.base; rw [if_neg (by rw [Hm.out]; simp)])
      go_wp2_with fail
      go_meet
      exact ⟨by rw [Hb.out], Dr.refl _⟩
    | true =>
      have Hm := Lib.hid hm
      rw [hm] at c3
      clear hm
      by_cases h1 : 1 < r.V
      · have Hb := Lib.hid (show r.base = r.round + r.V by unfold R4.base; rw [if_pos Hm.out]; omega)
        go_wp2_with fail
        go_quiet ((go_at_call 15; exact Calls.quiet_of_same ((round_any (H.out.drewN _) Hi.out).mono fun _ _ ⟨he, hw⟩ => ⟨he, hw.symm⟩)))
        go_wp2_with fail
        go_meet
        exact ⟨by rw [Hb.out], _, rfl⟩
      · have Hb := Lib.hid (show r.base = r.round + 1 by unfold R4.base; rw [if_pos Hm.out]; omega)
        go_wp2_with fail
        go_quiet ((go_at_call 15; exact Calls.quiet_of_same ((round_any (H.out.drewN _) Hi.out).mono fun _ _ ⟨he, hw⟩ => ⟨he, hw.symm⟩)))
        go_wp2_with fail
        go_meet
        exact ⟨by rw [Hb.out], _, rfl⟩
  case rest =>
    obtain ⟨rfl, dw, hdw⟩ := hcut
    have c2' : wc.cell? ⟨b, o + 2, none⟩ = some (.int .i64 r.B) := by rw [hdw]; exact c2
    have Hdw := Lib.hid hdw
    clear hdw c0 c1 c2 c3
    have hfin : ∀ (v : Int) (wx : World), v = R4.dbl tm r.base → Dr wx wc → (Ending.returned (.int .i64 (min v 32)) = .returned (.int .i64 r.wait) ∧ Dr wx w) := by
      intro v wx hv hx
      refine ⟨by rw [hv]; unfold R4.wait; rw [← Htm.out], ?_⟩
      obtain ⟨n, rfl⟩ := hx
      rw [Hdw.out, World.drewN_drewN]
      exact ⟨_, rfl⟩
    have Hfin := Lib.hid hfin
    clear hfin
    rcases htc with ⟨ht, hB⟩ | ⟨ht, hB, hB2⟩ | ⟨ht, hB⟩
    · go_wp2_with fail
      go_loop [3, 22] (fun v3 v22 => ∃ k : Nat, k ≤ tm ∧ v22 = .int .i64 k ∧ v3 = .int .i64 (R4.dbl k r.base)) (fun _ v22 => tm - (intOf v22).toNat)
      case atStart => exact ⟨0, by omega, rfl, rfl⟩
      case round =>
        obtain ⟨k, hk, rfl, rfl⟩ := hrel
        have hd := R4.dbl_bounds k r.base (by omega) hb2
        have hd1 := hd.1
        have hd2 := hd.2
        have hsu := R4.dbl_succ k r.base
        clear hd
        generalize hD : R4.dbl k r.base = D at *
        have HD := Lib.hid hD
        have Hsu := Lib.hid hsu
        clear hD hsu
        by_cases hlt : k < tm
        · exfalso
          omega
        · obtain rfl : k = tm := by omega
          by_cases h32 : 32 < D
          · have hf := Hfin.out D wc HD.out.symm (Dr.refl _)
            rw [show min D 32 = 32 by omega] at hf
            have Hf := Lib.hid hf
            clear hf
            go_wp2_with fail
            go_ret
            exact Hf.out
          · have hf := Hfin.out D wc HD.out.symm (Dr.refl _)
            rw [show min D 32 = D by omega] at hf
            have Hf := Lib.hid hf
            clear hf
            go_wp2_with fail
            go_ret
            exact Hf.out
    · go_wp2_with fail
      go_loop [3, 22] (fun v3 v22 => ∃ k : Nat, k ≤ tm ∧ v22 = .int .i64 k ∧ v3 = .int .i64 (R4.dbl k r.base)) (fun _ v22 => tm - (intOf v22).toNat)
      case atStart => exact ⟨0, by omega, rfl, rfl⟩
      case round =>
        obtain ⟨k, hk, rfl, rfl⟩ := hrel
        have hd := R4.dbl_bounds k r.base (by omega) hb2
        have hd1 := hd.1
        have hd2 := hd.2
        have hsu := R4.dbl_succ k r.base
        clear hd
        generalize hD : R4.dbl k r.base = D at *
        have HD := Lib.hid hD
        have Hsu := Lib.hid hsu
        clear hD hsu
        by_cases hlt : k < tm
        · by_cases h32 : 32 < 2 * D
          · go_wp2_with fail
            go_round
            case rel => exact ⟨k + 1, by omega, by go_num, by rw [Hsu.out, show min (2 * D) 32 = 32 by omega]⟩
            case measure => first | (simp [intOf]; omega) | simp [intOf]
          · go_wp2_with fail
            go_round
            case rel => exact ⟨k + 1, by omega, by go_num, by rw [Hsu.out, show min (2 * D) 32 = 2 * D by omega]⟩
            case measure => first | (simp [intOf]; omega) | simp [intOf]
        · obtain rfl : k = tm := by omega
          by_cases h32 : 32 < D
          · have hf := Hfin.out D wc HD.out.symm (Dr.refl _)
            rw [show min D 32 = 32 by omega] at hf
            have Hf := Lib.hid hf
            clear hf
            go_wp2_with fail
            go_ret
            exact Hf.out
          · have hf := Hfin.out D wc HD.out.symm (Dr.refl _)
            rw [show min D 32 = D by omega] at hf
            have Hf := Lib.hid hf
            clear hf
            go_wp2_with fail
            go_ret
            exact Hf.out
    · go_wp2_with fail
      go_loop [3, 22] (fun v3 v22 => ∃ k : Nat, k ≤ tm ∧ v22 = .int .i64 k ∧ v3 = .int .i64 (R4.dbl k r.base)) (fun _ v22 => tm - (intOf v22).toNat)
      case atStart => exact ⟨0, by omega, rfl, rfl⟩
      case round =>
        obtain ⟨k, hk, rfl, rfl⟩ := hrel
        have hd := R4.dbl_bounds k r.base (by omega) hb2
        have hd1 := hd.1
        have hd2 := hd.2
        have hsu := R4.dbl_succ k r.base
        clear hd
        generalize hD : R4.dbl k r.base = D at *
        have HD := Lib.hid hD
        have Hsu := Lib.hid hsu
        clear hD hsu
        by_cases hlt : k < tm
        · by_cases h32 : 32 < 2 * D
          · go_wp2_with fail
            go_round
            case rel => exact ⟨k + 1, by omega, by go_num, by rw [Hsu.out, show min (2 * D) 32 = 32 by omega]⟩
            case measure => first | (simp [intOf]; omega) | simp [intOf]
          · go_wp2_with fail
            go_round
            case rel => exact ⟨k + 1, by omega, by go_num, by rw [Hsu.out, show min (2 * D) 32 = 2 * D by omega]⟩
            case measure => first | (simp [intOf]; omega) | simp [intOf]
        · obtain rfl : k = tm := by omega
          by_cases h32 : 32 < D
          · have hf := Hfin.out D wc HD.out.symm (Dr.refl _)
            rw [show min D 32 = 32 by omega] at hf
            have Hf := Lib.hid hf
            clear hf
            go_wp2_with fail
            go_ret
            exact Hf.out
          · have hf := Hfin.out D wc HD.out.symm (Dr.refl _)
            rw [show min D 32 = D by omega] at hf
            have Hf := Lib.hid hf
            clear hf
            go_wp2_with fail
            go_ret
            exact Hf.out
end Go.Proofs.Ytoiakdddghbdnaa
