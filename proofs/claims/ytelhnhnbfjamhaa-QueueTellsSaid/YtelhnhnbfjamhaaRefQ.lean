/-
  The reference's queue: fits, Drop.
-/
import Derived.Test.YtelhnhnbfjamhaaQueueOff2
namespace Go.Proofs.Ytelhnhnbfjamhaa
open Go.RowKit

/-- The reference's queue r holds the items zs, in a row v behind B. -/
structure RAt (w : World) (r B : Nat) (v : Value) (zs : List Zt) : Prop where
  cell : Whole w r 64 #[v]
  row : RowAt w B 2 v zs.length (encs encZ zs)
  data : ∀ z ∈ zs, NewB w B z.2.1 z.2.2 ∧ ∀ k, z.2.1.ownBlock = some k → k ≠ r
  far : ∀ k, v.ownBlock = some k → k ≠ r
  few : zs.length ≤ 32

theorem RAt.one {w : World} {r B : Nat} {v : Value} {zs : List Zt} (h : RAt w r B v zs) : ∀ u ∈ encs encZ zs, u.oneCell' = true :=
  encs_one (fun z hz u hu => by
    simp only [encZ, List.mem_cons, List.not_mem_nil, or_false] at hu
    rcases hu with rfl | rfl
    · rfl
    · exact (h.data z hz).1.2.2)

theorem RAt.kp {S : Nat → Prop} {w w' : World} {r B : Nat} {v : Value} {zs : List Zt} (h : RAt w r B v zs) (hk : Kp S w w') (hS : ∀ k, QFoot r v zs k → ¬ S k) : RAt w' r B v zs :=
  ⟨hk.whole h.cell (hS r (.inl rfl)), h.row.kp hk (fun k hk' => hS k (.inr (.inl hk'))), fun z hz => ⟨⟨(h.data z hz).1.1.kp hk (fun k hk' => hS k (.inr (.inr ⟨z, hz, hk'⟩))), fun k hk' => by have := (h.data z hz).1.2.1 k hk'; have := hk.size; omega, (h.data z hz).1.2.2⟩, (h.data z hz).2⟩, h.far, h.few⟩

theorem fits_any {w : World} {A : Option Addr} {n c : Nat} (hn : n ≤ 4611686018427387904) : Calls Try.prog 55 #[.slice A n c] w fun e w' => e = .returned (.bool (decide (0 < n ∧ n ≤ 116))) ∧ w = w' := by
  by_cases h0 : 0 < n
  · by_cases h1 : n ≤ 116
    · go_enter Try.func55, Try.ntmps55
      go_wp2_with fail
      go_ret
      exact ⟨by simp [h0, h1]; omega, rfl⟩
    · go_enter Try.func55, Try.ntmps55
      go_wp2_with fail
      go_ret
      exact ⟨by simp [h1]; omega, rfl⟩
  · go_enter Try.func55, Try.ntmps55
    go_wp2_with fail
    go_ret
    exact ⟨by simp [h0], rfl⟩

theorem infoRI : (Try.prog.info? 68).map (fun i => (i.zero, i.size, i.bytes)) = some (some (.agg #[.int .i64 0, .slice none 0 0]), 2, 32) := by kernel_rfl

theorem keepZ_snoc {ns : List Int} {zs : List Zt} {j : Nat} {z : Zt} (h : zs[j]? = some z) : keepZ ns (zs.take (j + 1)) = keepZ ns (zs.take j) ++ (if decide (z.1 ∈ ns) then [] else [z]) := by
  rw [show zs.take (j + 1) = zs.take j ++ [z] by rw [List.take_add_one, h]; rfl, keepZ, List.filter_append, ← keepZ]
  congr 1
  by_cases h : z.1 ∈ ns <;> simp [h]
theorem mem_snoc {ns : List Int} {i : Nat} {x y : Int} (h : ns[i]? = some x) : decide (y ∈ ns.take (i + 1)) = (decide (y ∈ ns.take i) || (x == y)) := by
  rw [show ns.take (i + 1) = ns.take i ++ [x] by rw [List.take_add_one, h]; rfl]
  simp only [List.mem_append, List.mem_singleton, Bool.decide_or]
  congr 1
  rw [Bool.eq_iff_iff]
  simp
  exact eq_comm

/-- The reference's queue once a row of what it held is stored. -/
theorem rq_left {w w1 : World} {r B : Nat} {v v' : Value} {zs zs' : List Zt} (h : RAt w r B v zs) (hB : B ≤ w.heap.size) (hk : Kp (fun _ => False) w w1) (hr : RowAt w1 w.heap.size 2 v' zs'.length (encs encZ zs')) (hsub : ∀ z ∈ zs', z ∈ zs) (hf : zs'.length ≤ 32) :
    RAt (w1.setCell ⟨r, 0, none⟩ v') r B v' zs' ∧ Kp (fun k => k = r) w (w1.setCell ⟨r, 0, none⟩ v') := by
  have h1 := h.kp hk (fun _ _ h => h)
  have hkr : Kp (fun k => k = r) w1 (w1.setCell ⟨r, 0, none⟩ v') := kp_set1 _ _ _ (Kp.refl _ w1)
  have hrl := h.cell.lt
  have hfar : ∀ k, v'.ownBlock = some k → k ≠ r := fun k hk' e => by have := (hr.lt k hk').1; omega
  refine ⟨⟨h1.cell.set 0 _, (hr.kp hkr hfar).base hB, fun z hz => ⟨⟨(h1.data z (hsub z hz)).1.1.kp hkr (h1.data z (hsub z hz)).2, fun k hk' => by have := (h1.data z (hsub z hz)).1.2.1 k hk'; simpa using this, (h1.data z (hsub z hz)).1.2.2⟩, (h1.data z (hsub z hz)).2⟩, hfar, hf⟩, hk.no.trans hkr⟩

set_option maxRecDepth 100000 in
set_option maxHeartbeats 1000000 in
theorem rq_drop {w : World} {r B : Nat} {v : Value} {zs : List Zt} (h : RAt w r B v zs) (hB : B ≤ w.heap.size) (A0 : Option Addr) (c0 : Nat) (ns : List Int) (hx : Src w 1 (.slice A0 ns.length c0) ns.length (encN ns)) (hl : ns.length ≤ 4611686018427387904) :
    Calls Try.prog 32 #[.pointer (some ⟨r, 0, none⟩), .slice A0 ns.length c0] w fun e w' => e = .returned (.int .i64 ((zs.length : Int) - (keepZ ns zs).length)) ∧ ∃ v', RAt w' r B v' (keepZ ns zs) ∧ Kp (fun k => k = r) w w' ∧ ∀ k, v'.ownBlock = some k → w.heap.size ≤ k := by
  obtain ⟨i0, hii, hz0, hz1, hz2⟩ := info_parts infoRI
  have Hi := Lib.hid hii
  have Hz0 := Lib.hid hz0
  have Hz1 := Lib.hid hz1
  have Hz2 := Lib.hid hz2
  clear hii hz0 hz1 hz2
  have H := Lib.hid h
  have hf := h.few
  have hrl := h.cell.lt
  obtain ⟨A, cap, rfl⟩ := h.row.form
  have c1 := h.cell.cell 0
  have c2 := h.cell.frozen 0
  have Hx := Lib.hid hx
  simp at c1
  clear h hx
  generalize hzl : zs.length = zn at *
  have Hzl := Lib.hid hzl
  generalize hnl : ns.length = nn at *
  have Hnl := Lib.hid hnl
  clear hzl hnl
  have C1 := Lib.hid c1
  go_enter Try.func32, Try.ntmps32
  go_wp2_with fail
  go_loopw [5, 6] (fun vo vi wr => ∃ (j on : Nat), j ≤ zn ∧ on ≤ j ∧ vi = .int .i64 j ∧ Hid ((keepZ ns (zs.take j)).length = on) ∧ RowAt wr w.heap.size 2 vo on (encs encZ (keepZ ns (zs.take j))) ∧ Kp (fun _ => False) w wr)
    (fun _ vi _ => zn - (intOf vi).toNat)
  case atStart => exact ⟨0, 0, by omega, by omega, rfl, Lib.hid rfl, RowAt.nil _ _ _, Kp.refl _ _⟩
  case round =>
    obtain ⟨j, on, hjn, hon, rfl, Hon, hr, hk⟩ := hrel
    obtain ⟨Ao, co, rfl⟩ := hr.form
    have Hr := Lib.hid hr
    have Hk := Lib.hid hk
    rw [← hk.cell (p := ⟨r, _, none⟩) hrl (fun h => h)] at c1
    rw [← hk.frozen (p := ⟨r, _, none⟩) hrl (fun h => h)] at c2
    have hrl2 := Nat.lt_of_lt_of_le hrl hk.size
    clear hr hk
    by_cases hlt : j < zn
    · obtain ⟨z, hz⟩ : ∃ z, zs[j]? = some z := ⟨_, List.getElem?_eq_getElem (by rw [Hzl.out]; exact hlt)⟩
      have hzm := List.mem_of_getElem? hz
      obtain ⟨b, off, c', hv, _, hb, _, _, _, hc⟩ := H.out.row.full (by rw [Hzl.out]; omega)
      cases hv
      have e0 := hc _ _ (zt0 hz)
      have e1 := hc _ _ (zt1 hz)
      rw [← Nat.add_assoc] at e1
      rw [← Hk.out.cell (p := ⟨b, _, none⟩) hb (fun h => h)] at e0 e1
      have hb2 := Nat.lt_of_lt_of_le hb Hk.out.size
      obtain ⟨Az, cz, hzv⟩ := (H.out.data z hzm).1.1.form
      obtain ⟨z1, zv, zd⟩ := z
      dsimp only at hzv e0 e1
      subst hzv
      have Hz := Lib.hid hz
      clear hz hzm hc
      generalize wr = w4 at *
      generalize hdl : zd.length = dl at *
      go_upto_block 2 with (fail)
      go_cut [7] (fun vg wx => vg = .bool (decide (z1 ∈ ns)) ∧ Kp (fun _ => False) w4 wx)
      case first =>
        go_wp2_with fail
        go_loopw [7, 8] (fun vg vi wx => ∃ (i : Nat) (g : Bool), i ≤ nn ∧ vi = .int .i64 i ∧ vg = .bool g ∧ Hid (g = decide (z1 ∈ ns.take i)) ∧ Kp (fun _ => False) w4 wx)
          (fun _ vi _ => nn - (intOf vi).toNat)
        case atStart => exact ⟨0, false, by omega, rfl, rfl, Lib.hid (by simp), Kp.refl _ _⟩
        case round =>
          obtain ⟨i, g, hin, rfl, rfl, Hg, hkx⟩ := hrel
          by_cases hlti : i < nn
          · obtain ⟨x, hxi⟩ : ∃ x, ns[i]? = some x := ⟨_, List.getElem?_eq_getElem (by rw [Hnl.out]; exact hlti)⟩
            obtain ⟨bn, on2, cn, hvn, hbn, hcn⟩ := ((Hk.out.trans hkx).src Hx.out (fun _ _ h => h)).full (by omega) (by omega)
            cases hvn
            have n0 := hcn i _ (encN_get ns i x hxi)
            rw [← hkx.cell (p := ⟨b, _, none⟩) hb2 (fun h => h)] at e0
            rw [← hkx.cell (p := ⟨r, _, none⟩) hrl2 (fun h => h)] at c1
            have Hxi := Lib.hid hxi
            have Hkx := Lib.hid hkx
            clear hxi hkx hcn
            cases g
            · go_wp2_with fail
              go_quiet (fail)
              all_goals
                go_wp2_with fail
                go_roundw
                case rel => exact ⟨i + 1, _, by omega, by go_num, rfl, Lib.hid (by rw [mem_snoc Hxi.out, ← Hg.out]; rfl), Hkx.out.drewN _⟩
                case measure => simp [intOf]; omega
            · go_wp2_with fail
              go_quiet (fail)
              all_goals
                go_wp2_with fail
                go_roundw
                case rel => exact ⟨i + 1, _, by omega, by go_num, rfl, Lib.hid (by rw [mem_snoc Hxi.out, ← Hg.out]; rfl), Hkx.out.drewN _⟩
                case measure => simp [intOf]; omega
          · obtain rfl : i = nn := by omega
            rw [List.take_of_length_le (by rw [Hnl.out]; omega)] at Hg
            have hg := Hg.out
            subst hg
            go_wp2_with fail
            go_meet
            exact ⟨rfl, hkx⟩
      case rest =>
        obtain ⟨rfl, hkx⟩ := hcut
        generalize wc = w5 at *
        rw [← hkx.cell (p := ⟨b, _, none⟩) hb2 (fun h => h)] at e0 e1
        rw [← hkx.cell (p := ⟨r, _, none⟩) hrl2 (fun h => h)] at c1
        have Hk5 := Lib.hid (Hk.out.trans hkx)
        have Hr5 := Lib.hid (Hr.out.kp hkx (fun _ _ h => h))
        clear hkx
        by_cases hgone : z1 ∈ ns
        · rw [decide_eq_true hgone]
          have Hgone := Lib.hid hgone
          clear hgone
          go_wp2_with fail
          go_roundw
          case rel => exact ⟨j + 1, on, by omega, by omega, by go_num, Lib.hid (by rw [keepZ_snoc Hz.out, decide_eq_true Hgone.out]; simpa using Hon.out), by rw [keepZ_snoc Hz.out, decide_eq_true Hgone.out]; simpa using Hr5.out, Hk5.out⟩
          case measure => simp [intOf]; omega
        · rw [decide_eq_false hgone]
          have Hgone := Lib.hid hgone
          have HO := Lib.hid (Hr5.out.kp ((Kp.refl (fun _ => False) w5).alloc (.cells #[.int .i64 z1, .slice Az dl cz] 68)) (fun _ _ h => h))
          have HX : Hid (Src (w5.alloc (.cells #[.int .i64 z1, .slice Az dl cz] 68)) 2 (.slice (some ⟨w5.heap.size, 0, none⟩) 1 1) 1 (encZ (z1, .slice Az dl cz, zd))) := Lib.hid (src_row (encZ (z1, .slice Az dl cz, zd)) (Whole.new _ _ _) rfl (fun u hu => by simp [encZ] at hu; rcases hu with rfl | rfl <;> rfl))
          clear hgone
          go_wp2_with (at_builtin; refine wpList_row rfl (.tmp 43) (.tmp 51) 62 rfl w.heap.size 68 i0 _ 2 32 Try.underlying62 Hi.out Hz0.out Hz1.out Hz2.out rfl (by decide) _ on _ rfl HO.out _ 1 _ rfl HX.out (by unfold maxLen; omega) (by omega) (by have := Hk5.out.size; simp only [World.size_alloc]; omega) ?_; intro v6 w6 hr6 hg6 hn6; have hk6 : Kp (fun _ => False) w w6 := (Hk5.out.alloc _).grown hg6 (fun i hi hlt => absurd (Hr5.out.lt i hi).1 (by omega)); have Hr6 := Lib.hid hr6; have Hk6 := Lib.hid hk6; clear hr6 hg6 hn6 hk6)
          go_roundw
          case rel => exact ⟨j + 1, on + 1, by omega, by omega, by go_num, Lib.hid (by rw [keepZ_snoc Hz.out, decide_eq_false Hgone.out, List.length_append, Hon.out]; rfl), by rw [keepZ_snoc Hz.out, decide_eq_false Hgone.out, encs_append]; exact Hr6.out, Hk6.out⟩
          case measure => simp [intOf]; omega
    · obtain rfl : j = zn := by omega
      have hta : zs.take j = zs := List.take_of_length_le (by rw [Hzl.out]; omega)
      rw [hta] at Hon Hr
      have Hk2 := Lib.hid (rq_left (zs' := keepZ ns zs) H.out hB Hk.out (by rw [Hon.out]; exact Hr.out) (fun z hz => (List.mem_filter.1 hz).1) (by rw [Hon.out]; omega))
      go_wp2_with fail
      go_ret
      exact ⟨by rw [Hon.out]; rfl, _, Hk2.out.1, Hk2.out.2, fun k hk => (Hr.out.lt k hk).1⟩
end Go.Proofs.Ytelhnhnbfjamhaa
