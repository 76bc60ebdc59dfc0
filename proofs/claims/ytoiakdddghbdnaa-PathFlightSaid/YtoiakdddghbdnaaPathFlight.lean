/-
  PathFlight: the walk. (regions printed by src/gen_XPathFlight.py)
-/
import Derived.Test.YtoiakdddghbdnaaPaFl
namespace Go.Proofs.Ytoiakdddghbdnaa
open Go.RowKit

theorem pick_natF (n m : Int) (w : World) (hm : 1 ≤ m) (hm2 : m ≤ 1152921504606846976) :
    Calls Try.prog 9 #[.int .i64 n, .int .i64 m] w fun e w' => ∃ i : Nat, (i : Int) < m ∧ e = .returned (.int .i64 (i : Int)) ∧ w = w' := by
  refine (pick_any n m w hm hm2).mono ?_
  rintro e w' ⟨rfl, rfl⟩
  exact ⟨(pickF n m).toNat, by have := pickF_hi n m hm; have := pickF_lo n m hm; omega, by rw [Int.toNat_of_nonneg (pickF_lo n m hm)], rfl⟩

/-- The path beside the map of what is under way, behind i calls. -/
structure FlR (W w : World) (F : Nat → Prop) (p : Nat) (s : PS) (mb n : Nat) (D : DataW Unit) (i : Nat) : Prop where
  has : HasA w F (fun k => k = mb) p s
  base : ∀ k, k < W.heap.size → F k
  map : UndAt w mb n D
  und : Und D s.zs
  inv : PInv s i
  kp : Kp (fun k => W.heap.size ≤ k) W w
  mbW : W.heap.size ≤ mb
section
variable {W w w' : World} {F F' : Nat → Prop} {p : Nat} {s s' : PS} {mb n i : Nat} {D : DataW Unit}
theorem FlR.no (h : FlR W w F p s mb n D i) (k : Kp (fun _ => False) w w') : FlR W w' F p s mb n D i :=
  ⟨h.has.no k, h.base, h.map.kp k (fun h => h), h.und, h.inv, h.kp.trans k.no, h.mbW⟩
/-- The path went on; the map is as it was. -/
theorem FlR.aft (h : FlR W w F p s mb n D i) {w0 : World} {F0 : Nat → Prop} (h0 : Aft w F (fun k => k = mb) w0 F0) (hs : HasA w' F' (fun k => k = mb) p s') (ha : Aft w0 F0 (fun k => k = mb) w' F') (hu : Und D s'.zs) (hi : PInv s' (i + 1)) : FlR W w' F' p s' mb n D (i + 1) := by
  have hA := h0.trans ha
  refine ⟨hs, fun k hk => hA.sup k (h.base k hk), h.map.kp hA.kp (fun e => e.2 rfl), hu, hi, h.kp.trans (hA.kp.mono (fun k _ e => ?_)), h.mbW⟩
  rcases Nat.lt_or_ge k W.heap.size with hk | hk
  · exact absurd (h.base k hk) e.1
  · exact hk
/-- The map turned; the path is as it was. -/
theorem FlR.told (h : FlR W w F p s mb n D i) {n' : Nat} {D' : DataW Unit} (hg : w.grownBy w' (some mb)) (hm : UndAt w' mb n' D') (hu : Und D' s.zs) : FlR W w' F p s mb n' D' i := by
  have hk : Kp (fun k => k = mb) w w' := Kp.of_grown hg (fun i hi _ => (Option.some.inj hi).symm)
  exact ⟨h.has.turn hk (fun _ e => e), h.base, hm, hu, h.inv, h.kp.trans (hk.mono (fun k _ e => by rw [e]; exact h.mbW)), h.mbW⟩
/-- Another map in its place. -/
theorem FlR.fresh (h : FlR W w F p s mb n D i) (hz : s.zs = []) : FlR W (w.alloc (.map #[] 0)) F p s w.heap.size 0 (.map []) i := by
  have hlt := h.has.lt.1
  have hold := h.has.old
  obtain ⟨cs, v, hp⟩ := h.has
  refine ⟨⟨cs, v, (hp.no ((Kp.refl _ w).alloc _)).more (w0 := w) hlt hp.vlt (fun k e => e) (fun k e => .inl e) (fun k e => .inr (by simp only [World.size_alloc]; omega)) (fun k e e' => ?_)⟩, h.base, UndAt.new w, by rw [hz]; exact und0, h.inv, h.kp.alloc _, h.kp.size⟩
  have := hold k (.inl e)
  omega
/-- Both turned. -/
theorem FlR.both (h : FlR W w F p s mb n D i) {w1 : World} {n' : Nat} {D' : DataW Unit} (hA : Aft w F (fun k => k = mb) w1 F') (hs : HasA w1 F' (fun k => k = mb) p s') (hg : w1.grownBy w' (some mb)) (hm : UndAt w' mb n' D') (hu : Und D' s'.zs) (hi : PInv s' (i + 1)) : FlR W w' F' p s' mb n' D' (i + 1) := by
  have hk : Kp (fun k => k = mb) w1 w' := Kp.of_grown hg (fun i hi _ => (Option.some.inj hi).symm)
  refine ⟨hs.turn hk (fun _ e => e), fun k hk => hA.sup k (h.base k hk), hm, hu, hi, (h.kp.trans (hA.kp.mono (fun k _ e => ?_))).trans (hk.mono (fun k _ e => by rw [e]; exact h.mbW)), h.mbW⟩
  rcases Nat.lt_or_ge k W.heap.size with hk | hk
  · exact absurd (h.base k hk) e.1
  · exact hk
theorem PInv.up (h : PInv s i) : PInv s (i + 1) :=
  ⟨h.pw, h.num, fun z hz => by have := h.sent z hz; omega, h.one, by have := h.len; omega, by have := h.nx; omega, h.tp, by have := h.B; omega⟩
theorem FlR.up (h : FlR W w F p s mb n D i) : FlR W w F p s mb n D (i + 1) := ⟨h.has, h.base, h.map, h.und, h.inv.up, h.kp, h.mbW⟩
/-- All left the path; another map in its place. -/
theorem FlR.wipe (h : FlR W w F p s mb n D i) {w1 : World} (hA : Aft w F (fun k => k = mb) w1 F') (hs : HasA w1 F' (fun k => k = mb) p s') (hz : s'.zs = []) (hi : PInv s' (i + 1)) : FlR W (w1.alloc (.map #[] 0)) F' p s' w1.heap.size 0 (.map []) (i + 1) := by
  have hlt := hs.lt.1
  have hold := hs.old
  have hkW : Kp (fun k => W.heap.size ≤ k) W w1 := h.kp.trans (hA.kp.mono (fun k _ e => by
    rcases Nat.lt_or_ge k W.heap.size with hk | hk
    · exact absurd (h.base k hk) e.1
    · exact hk))
  obtain ⟨cs, v, hp⟩ := hs
  refine ⟨⟨cs, v, (hp.no ((Kp.refl _ w1).alloc _)).more (w0 := w1) hlt hp.vlt (fun k e => e) (fun k e => .inl e) (fun k e => .inr (by simp only [World.size_alloc]; omega)) (fun k e e' => ?_)⟩, fun k hk => hA.sup k (h.base k hk), UndAt.new w1, by rw [hz]; exact und0, hi, hkW.alloc _, hkW.size⟩
  have := hold k (.inl e)
  omega
theorem FlR.mono (h : FlR W w F p s mb n D i) {n' : Nat} (hn : n ≤ n') : FlR W w F p s mb n' D i := ⟨h.has, h.base, World.ownsMap.mono h.map hn, h.und, h.inv, h.kp, h.mbW⟩
end

set_option maxRecDepth 100000 in
set_option maxHeartbeats 8000000 in
theorem PathFlight_any (v : Value) (W : World) (hv : SlArg 53 W v) :
    Calls Try.prog 5 #[v] W fun e w' => e = .returned (.bool true) ∧ Below W.heap.size W w' := by
  obtain ⟨A, len, cap, rfl, hlc, hcm, hl80, hcells⟩ := raw11_rd hv
  have hll : len ≤ 1759218604441 := by unfold reachBytes at hl80; omega
  unfold maxLen at hcm
  have Hc := Lib.hid hcells
  clear hcells hv hl80
  have HN := Lib.hid (a_new W (fun k => k < W.heap.size) (fun _ => False) (fun k e => e.elim id (fun e => e.elim)) (fun _ _ e => e))
  have hmm := @run_makeMap Try.prog
  go_enter Try.func5, Try.ntmps5
  go_wp2_with fail
  with_reducible refine (HN.out).mono ?_
  rintro e w1 ⟨p, rfl, hp1, hpw, hk1⟩
  have HK := Lib.hid (known_any w1)
  have Hp1 := Lib.hid hp1
  have Hk1 := Lib.hid hk1
  clear hp1 hk1 HN
  go_wp2_with fail
  with_reducible refine (HK.out).mono ?_
  rintro e w2 ⟨rfl, hk2⟩
  have h0 : FlR W (w2.alloc (.map #[] 0)) (fun k => k < W.heap.size) p ps0 w2.heap.size 0 (.map []) 0 := by
    have hp2 := (Hp1.out.no hk2).layL (.map #[] 0)
    rw [show (fun k => (fun _ => False) k ∨ k = w2.heap.size) = (fun k => k = w2.heap.size) from by funext k; simp] at hp2
    exact ⟨hp2, fun _ h => h, UndAt.new w2, und0, pinv0, ((Hk1.out.trans hk2).no).alloc _, (Hk1.out.trans hk2).size⟩
  have H0 := Lib.hid h0
  clear h0 hk2 HK Hp1 Hk1
  go_wp2_with fail
  go_loopw [4, 5, 25] (fun s4 s5 s25 wr => ∃ (i : Nat) (F : Nat → Prop) (s : PS) (mb n : Nat) (D : DataW Unit), i ≤ len ∧ n ≤ i ∧ s25 = .int .i64 i ∧ s4 = .int .i64 i ∧ s5 = .map (some mb) ∧ Hid (FlR W wr F p s mb n D i)) (fun _ _ vi _ => len - (intOf vi).toNat)
  case atStart => exact ⟨0, _, _, _, 0, _, by omega, by omega, rfl, rfl, rfl, H0⟩
  case round =>
    obtain ⟨i, F, s, mb, n, D, him, hni, rfl, rfl, rfl, HR⟩ := hrel
    by_cases hlt : i < len
    · rcases Hc.out with hz | ⟨b, off, rfl, hbl, hcell⟩
      · omega
      · obtain ⟨u0, hu0, y0, rfl, _, _⟩ := hcell i hlt 0 _ rfl
        obtain ⟨u1, hu1, y1, rfl, _, _⟩ := hcell i hlt 1 _ rfl
        obtain ⟨u2, hu2, y2, rfl, _, _⟩ := hcell i hlt 2 _ rfl
        obtain ⟨u3, hu3, y3, rfl, _, _⟩ := hcell i hlt 3 _ rfl
        obtain ⟨u4, hu4, A4, n4, c4, rfl⟩ := hcell i hlt 4 _ rfl
        obtain ⟨u5, hu5, A5, n5, c5, rfl⟩ := hcell i hlt 5 _ rfl
        clear hcell
        have hkw := HR.out.kp
        have hWb : ∀ o, wr.cell? ⟨b, o, none⟩ = W.cell? ⟨b, o, none⟩ := fun o => hkw.cell (p := ⟨b, o, none⟩) hbl (by intro h; dsimp only at h; omega)
        rw [← hWb] at hu0 hu1 hu2 hu3 hu4 hu5
        simp only [List.length_cons, List.length_nil, Nat.zero_add, Nat.add_zero, Nat.reduceAdd] at hu0 hu1 hu2 hu3 hu4 hu5
        have hbw := Nat.lt_of_lt_of_le hbl hkw.size
        have hpl := HR.out.has.lt.1
        clear hkw hWb
        have tl0 : (0 : Int) ≤ (i : Int) := by omega
        have tl1 : (i : Int) < (len : Int) := by omega
        go_upto_block 2 with (with_reducible refine (pick_natF _ _ _ (by omega) (by omega)).mono ?_; rintro e w' ⟨wh, hwh, rfl, rfl⟩)
        have ex : Whole (wr.alloc (.cells #[.int .i64 y0, .int .i64 y1, .int .i64 y2, .int .i64 y3, .slice A4 n4 c4, .slice A5 n5 c5] 57)) wr.heap.size 57 #[.int .i64 y0, .int .i64 y1, .int .i64 y2, .int .i64 y3, .slice A4 n4 c4, .slice A5 n5 c5] := whole_at _ _ rfl rfl
        have et := HR.out.no ((Kp.refl (fun _ => False) wr).alloc (.cells #[.int .i64 y0, .int .i64 y1, .int .i64 y2, .int .i64 y3, .slice A4 n4 c4, .slice A5 n5 c5] 57))
        generalize wr.alloc (.cells #[.int .i64 y0, .int .i64 y1, .int .i64 y2, .int .i64 y3, .slice A4 n4 c4, .slice A5 n5 c5] 57) = wx at ex et ⊢
        generalize wr.heap.size = gx at ex ⊢
        have ET := Lib.hid et
        have x1 := ex.cell 1
        have hxl := ex.lt
        simp at x1
        have hpx := et.has.lt.1
        clear hu0 hu1 hu2 hu3 hu4 hu5 et ex HR hpl
        have hmb := ET.out.map.lt
        go_cut [5] (fun s5 wy => ∃ (F' : Nat → Prop) (s' : PS) (mb' n' : Nat) (D' : DataW Unit), s5 = .map (some mb') ∧ n' ≤ i + 1 ∧ FlR W wy F' p s' mb' n' D' (i + 1))
        case first =>
          have hinv := ET.out.inv
          have hzl : s.zs.length ≤ 2199023255552 := by have := hinv.len; omega
          have htp := hinv.tp
          have hnx := hinv.nx
          have hnow : (0 : Int) ≤ (i : Int) + 1 ∧ (i : Int) + 1 ≤ 4611686018427380000 := by omega
          obtain ⟨nx, hnx'⟩ : ∃ nx, nx = s.next := ⟨_, rfl⟩
          rw [← hnx'] at hnx htp
          by_cases hw : wh = 0
          · subst hw
            have HNx : Hid (∀ w', Kp (fun _ => False) wx w' → Calls Try.prog 18 #[.pointer (some ⟨p, 4, none⟩)] w' fun e w2 => e = .returned (.int .i64 nx) ∧ w' = w2) := Lib.hid (fun w' hk => by rw [hnx']; exact a_next (ET.out.has.no hk))
            have Hnx' := Lib.hid hnx'
            have Hinv := Lib.hid hinv
            clear hnx' hinv
            have hwr : IntKind.i64.wrap (nx + 1) = nx + 1 := IntWalk.i64_in _ (by omega)
            go_wp2_with fail
            refine wp_region_held_drew (S := (fun w' => w'.cell? ⟨gx, 1, none⟩ = some (.int .i64 y1))) (by kernel_rfl) x1 (fun hHeld => ?_)
            refine wpAnyH_take (i := 0) (oi := { dst := some 42, op := Op.fieldAddr 57 (.tmp 7) 1, type := _, pos := _, after := _, guard := _ }) (v := ?_) rfl (by kernel_rfl) (by kernel_rfl) (by kernel_rfl) (fun _ _ _ h => h) (Or.inl ⟨by rfl, ?_⟩) hHeld ?_
            rotate_left
            · intro w99 hSw
              first | (go_simp; done) | (go_simp; with_reducible rfl)
            try simp only [Act.put, List.setIfInBounds_toArray, List.set_cons_zero, List.set_cons_succ]
            refine wpAnyH_take (i := 1) (oi := { dst := some 43, op := Op.load 3 (.tmp 42), type := _, pos := _, after := _, guard := _ }) (v := ?_) rfl (by kernel_rfl) (by kernel_rfl) (by kernel_rfl) (fun _ _ _ h => h) (Or.inl ⟨by rfl, ?_⟩) hHeld ?_
            rotate_left
            · intro w99 hSw
              have x1 := hSw; first | (go_simp; done) | (go_simp; with_reducible rfl)
            try simp only [Act.put, List.setIfInBounds_toArray, List.set_cons_zero, List.set_cons_succ]
            refine wpAnyH_take (i := 2) (oi := { dst := some 44, op := Op.move (.tmp 3), type := _, pos := _, after := _, guard := _ }) (v := ?_) rfl (by kernel_rfl) (by kernel_rfl) (by kernel_rfl) (fun _ _ _ h => h) (Or.inl ⟨by rfl, ?_⟩) hHeld ?_
            rotate_left
            · intro w99 hSw
              first | (go_simp; done) | (go_simp; with_reducible rfl)
            try simp only [Act.put, List.setIfInBounds_toArray, List.set_cons_zero, List.set_cons_succ]
            refine wpAnyH_take (i := 3) (oi := { dst := some 45, op := Op.nilCheck (.tmp 44), type := _, pos := _, after := _, guard := _ }) (v := ?_) rfl (by kernel_rfl) (by kernel_rfl) (by kernel_rfl) (fun _ _ _ h => h) (Or.inl ⟨by rfl, ?_⟩) hHeld ?_
            rotate_left
            · intro w99 hSw
              first | (go_simp; done) | (go_simp; with_reducible rfl)
            try simp only [Act.put, List.setIfInBounds_toArray, List.set_cons_zero, List.set_cons_succ]
            refine wpAnyH_take (i := 4) (oi := { dst := some 46, op := Op.fieldAddr 51 (.tmp 45) 1, type := _, pos := _, after := _, guard := _ }) (v := ?_) rfl (by kernel_rfl) (by kernel_rfl) (by kernel_rfl) (fun _ _ _ h => h) (Or.inl ⟨by rfl, ?_⟩) hHeld ?_
            rotate_left
            · intro w99 hSw
              first | (go_simp; done) | (go_simp; with_reducible rfl)
            try simp only [Act.put, List.setIfInBounds_toArray, List.set_cons_zero, List.set_cons_succ]
            refine wpAnyH_ready (rs := [5]) (by kernel_rfl) (by simp) (AllReadyH.cons (o := { dst := some 47, op := Op.call { callee := Callee.value (Operand.func 18), args := #[(.tmp 46)], argTypes := #[47] }, type := _, pos := _, after := _, guard := _ }) rfl (fun K hK => ?_) AllReadyH.nil)
            go_simp
            with_reducible refine (HNx.out _ ((Kp.refl _ _).drew)).mono ?_
            rintro e w' ⟨rfl, rfl⟩
            go_wp2_with fail
            refine hK.out _ _ hHeld (fun _ => ?_)
            clear hK
            try simp only [Act.put, List.setIfInBounds_toArray, List.set_cons_zero, List.set_cons_succ]
            refine wpAnyH_take (i := 6) (oi := { dst := some 48, op := Op.binOp BinOp.add 3 (.tmp 47) (.const (.int .i64 1)) 3, type := _, pos := _, after := _, guard := _ }) (v := ?_) rfl (by kernel_rfl) (by kernel_rfl) (by kernel_rfl) (fun _ _ _ h => h) (Or.inl ⟨by rfl, ?_⟩) hHeld ?_
            rotate_left
            · intro w99 hSw
              first | (go_simp; done) | (go_simp; with_reducible rfl)
            try simp only [Act.put, List.setIfInBounds_toArray, List.set_cons_zero, List.set_cons_succ]
            refine wpAnyH_ready (rs := [7]) (by kernel_rfl) (by simp) (AllReadyH.cons (o := { dst := some 49, op := Op.call { callee := Callee.value (Operand.func 9), args := #[(.tmp 43), (.tmp 48)], argTypes := #[3, 3] }, type := _, pos := _, after := _, guard := _ }) rfl (fun K hK => ?_) AllReadyH.nil)
            go_simp
            with_reducible refine (pick_natF _ _ _ (by omega) (by omega)).mono ?_
            rintro e w' ⟨a, ha, rfl, rfl⟩
            go_wp2_with fail
            refine hK.out _ _ hHeld (fun _ => ?_)
            clear hK
            try simp only [Act.put, List.setIfInBounds_toArray, List.set_cons_zero, List.set_cons_succ]
            refine wpAnyH_take (i := 8) (oi := { dst := some 8, op := Op.assign (.tmp 49), type := _, pos := _, after := _, guard := _ }) (v := ?_) rfl (by kernel_rfl) (by kernel_rfl) (by kernel_rfl) (fun _ _ _ h => h) (Or.inl ⟨by rfl, ?_⟩) hHeld ?_
            rotate_left
            · intro w99 hSw
              first | (go_simp; done) | (go_simp; with_reducible rfl)
            try simp only [Act.put, List.setIfInBounds_toArray, List.set_cons_zero, List.set_cons_succ]
            refine wpAnyH_done (by kernel_rfl) ?_ _
            clear hHeld
            have hkd : Kp (fun _ => False) wx wx.drew := (Kp.refl _ _).drew
            have HR2 := Lib.hid (ET.out.no hkd)
            have HNd := Lib.hid (HNx.out _ hkd)
            generalize wx.drew = wy at *
            clear hkd HNx
            go_wp2_with fail
            with_reducible refine (HNd.out).mono ?_
            rintro e w3 ⟨rfl, rfl⟩
            by_cases hge : nx ≤ (a : Int)
            · go_wp2_with fail
              go_roundw
              case rel => exact ⟨i + 1, F, s, mb, n, D, by omega, by omega, by go_num, by go_num, rfl, Lib.hid HR2.out.up⟩
              case measure => simp [intOf]; omega
            · have hA1 : Aft wy F (fun k => k = mb) (wy.alloc (.cells #[.int .i64 (a : Int), .int .i64 (a : Int)] 37)) (fun k => F k ∨ k = wy.heap.size) := (Aft.refl wy F _).lay _
              have hh := a_heard (HR2.out.has.lay (.cells #[.int .i64 (a : Int), .int .i64 (a : Int)] 37)) (A := some ⟨wy.heap.size, 0, none⟩) (c := 1) (rs := [((a : Int), (a : Int))]) (srcW [.int .i64 (a : Int), .int .i64 (a : Int)] (Whole.new _ _ _) rfl (fun u hu => by simp at hu; rcases hu with rfl | rfl <;> rfl)) (fun k hk => (by have : wy.heap.size = k := Option.some.inj hk; exact .inr this.symm)) (by simp) (by simp [overP]; rw [← Hnx'.out]; omega) ((i : Int) + 1) (by omega) (fun z hz => by have := Hinv.out.sent z hz; omega) (by rw [← Hnx'.out]; omega) htp.1 (by rw [← Hnx'.out]; exact htp.2) hzl (by have := Hinv.out.frs (hitK [((a : Int), (a : Int))]); omega)
              obtain ⟨T, hT⟩ : ∃ T, T = (frsK (s.zs.filter (hitK [((a : Int), (a : Int))]))).length := ⟨_, rfl⟩
              rw [← hT] at hh
              have HH : Hid (Calls Try.prog 11 #[.pointer (some ⟨p, 0, none⟩), .slice (some ⟨wy.heap.size, 0, none⟩) 1 1, .int .i64 ((i : Int) + 1)] (wy.alloc (.cells #[.int .i64 (a : Int), .int .i64 (a : Int)] 37)) fun e w' => ∃ A', e = .returned (.tuple #[.slice A' T T, .int .i64 0]) ∧
                  ∃ F', HasA w' F' (fun k => k = mb) p (heardS s [((a : Int), (a : Int))] ((i : Int) + 1)) ∧ Aft wy F (fun k => k = mb) w' F') := Lib.hid (hh.mono (by
                    rintro e w' ⟨A', rfl, F', h1, h2, h3⟩
                    exact ⟨A', rfl, F', h1, hA1.trans h2⟩))
              clear hh hA1 hT
              go_wp2_with fail
              with_reducible refine (HH.out).mono ?_
              rintro e w4 ⟨A', rfl, F4, hp4, ha4⟩
              have hm4 : World.ownsMap w4 Try.prog 3 (plainElem (H := Unit) Try.prog 4) mb n D := HR2.out.map.kp ha4.kp (fun e => e.2 rfl)
              have Hm4 := Lib.hid hm4
              have Hp4 := Lib.hid hp4
              have Ha4 := Lib.hid ha4
              clear hm4 hp4 ha4 HH
              go_wp2_with (at_delete; refine wpList_delete_own _ rfl _ _ 54 3 rfl 4 keyN Try.underlying54 _ mb n D rfl Hm4.out _ (KeyL (a : Int)) rfl (Maps.keyOf_int_mk Try.underlying3 (wf64 (a : Int) (by omega) (by omega))) ?_; intro w5 hown5 hturn5)
              go_meet
              case rel =>
                refine ⟨F4, _, mb, n, _, rfl, by omega, HR2.out.both Ha4.out Hp4.out (World.mapTurned.grown hturn5) hown5 (HR2.out.und.del (by omega) Hinv.out.pw) (Hinv.out.part _ rfl rfl ?_ ?_)⟩
                · have := topR_bounds (next := s.next) [((a : Int), (a : Int))] s.top (by intro r hr; rw [List.mem_singleton.1 hr, ← Hnx'.out]; dsimp only; omega) Hinv.out.tp.1 Hinv.out.tp.2
                  exact this
                · have hB := Hinv.out.B
                  rcases heardR_B (g := s.zs.filter (hitK [((a : Int), (a : Int))])) (r := s.r) (tp := topR s.top [((a : Int), (a : Int))]) (now := (i : Int) + 1) with h | h
                  · show 0 ≤ (heardR _ _ _ _).B ∧ (heardR _ _ _ _).B ≤ _
                    rw [h]; omega
                  · show 0 ≤ (heardR _ _ _ _).B ∧ (heardR _ _ _ _).B ≤ _
                    rw [h]; omega
          · by_cases hw1 : wh = 1
            · subst hw1
              clear hw
              obtain ⟨N0, hN0⟩ : ∃ N0, N0 = cntK s.zs := ⟨_, rfl⟩
              obtain ⟨S0, hS0⟩ : ∃ S0, S0 = s.q.S := ⟨_, rfl⟩
              obtain ⟨N1, hN1⟩ : ∃ N1, N1 = cntK (lateS s ((i : Int) + 1)).zs := ⟨_, rfl⟩
              obtain ⟨S1, hS1⟩ : ∃ S1, S1 = (lateS s ((i : Int) + 1)).q.S := ⟨_, rfl⟩
              have hsp := cnt_split s.zs (lostK s.top ((i : Int) + 1) s.r.late)
              have hls := late_S (g := s.zs.filter (lostK s.top ((i : Int) + 1) s.r.late)) (next := s.next) ET.out.has.qI
              have hN1' : N1 = cntK (s.zs.filter fun z => !lostK s.top ((i : Int) + 1) s.r.late z) := hN1
              have hS1' : S1 = (lateQ (s.zs.filter (lostK s.top ((i : Int) + 1) s.r.late)) s.q s.next).S := hS1
              have hge : N1 ≤ N0 := by rw [hN0, hN1']; omega
              have hSle : S1 ≤ S0 := by rw [hS0, hS1']; exact hls.1
              have hSeq : N0 = N1 → S1 = S0 := fun e => by rw [hS1', hls.2 (by rw [hN0, hN1'] at e; omega), hS0]
              have hFl0 := a_flight ET.out.has hzl
              rw [← hN0] at hFl0
              have HF0 := Lib.hid hFl0
              have HC0 : Hid (∀ w', Kp (fun _ => False) wx w' → w'.cell? ⟨p, 7, none⟩ = some (.int .i64 S0)) := Lib.hid (fun w' hk => by rw [hS0]; exact (a_cells (ET.out.has.no hk)).2.2.1)
              have HLt : Hid (∀ w', Kp (fun _ => False) wx w' → Calls Try.prog 12 #[.pointer (some ⟨p, 0, none⟩), .int .i64 ((i : Int) + 1)] w' fun e w2 => ∃ A' T, e = .returned (.slice A' T T) ∧ ∃ F', HasA w2 F' (fun k => k = mb) p (lateS s ((i : Int) + 1)) ∧ Aft wx F (fun k => k = mb) w2 F') := Lib.hid (fun w' hk => by
                refine (a_late (ET.out.has.no hk) ((i : Int) + 1) hnow hinv.tp.1 (by have := hinv.tp.2; rw [← hnx'] at this; omega) hzl (by have := hinv.frs (lostK s.top ((i : Int) + 1) s.r.late); omega)).mono ?_
                rintro e w2 ⟨A', rfl, F', h1, h2, _⟩
                exact ⟨A', _, rfl, F', h1, ((Aft.refl wx F _).no hk).trans h2⟩)
              have Hinv := Lib.hid hinv
              have Hrel : Hid (N1 = cntK (lateS s ((i : Int) + 1)).zs ∧ N0 = cntK s.zs ∧ S1 = (lateS s ((i : Int) + 1)).q.S) := Lib.hid ⟨hN1, hN0, hS1⟩
              have Hnx' := Lib.hid hnx'
              clear hsp hls hN1' hS1' hFl0 hinv hN0 hN1 hS0 hS1 hnx'
              go_wp2_with fail
              with_reducible refine (HF0.out).mono ?_
              rintro e w3 ⟨rfl, hk3⟩
              have c7 := HC0.out w3 hk3
              have HLt3 := Lib.hid (HLt.out w3 hk3)
              have hpl3 := Nat.lt_of_lt_of_le hpx hk3.size
              clear hk3 HC0 HLt HF0
              go_wp2_with fail
              with_reducible refine (HLt3.out).mono ?_
              rintro e w4 ⟨A', T, rfl, F4, hp4, ha4⟩
              have hl4 : (lateS s ((i : Int) + 1)).zs.length ≤ 2199023255552 := Nat.le_trans (List.length_filter_le _ _) hzl
              have HF4 : Hid (∀ w', Kp (fun _ => False) w4 w' → Calls Try.prog 19 #[.pointer (some ⟨p, 4, none⟩)] w' fun e w2 => e = .returned (.int .i64 (N1 : Nat)) ∧ Kp (fun _ => False) w' w2) := Lib.hid (fun w' hk => by rw [Hrel.out.1]; exact a_flight (hp4.no hk) hl4)
              have HC4 : Hid (∀ w', Kp (fun _ => False) w4 w' → w'.cell? ⟨p, 7, none⟩ = some (.int .i64 S1)) := Lib.hid (fun w' hk => by rw [Hrel.out.2.2]; exact (a_cells (hp4.no hk)).2.2.1)
              have hpl4 := hp4.lt.1
              have Hp4 := Lib.hid hp4
              have Ha4 := Lib.hid ha4
              have hgt : ¬ (N0 : Int) < (N1 : Int) := by omega
              have hSgt : ¬ S0 < S1 := by omega
              clear hp4 ha4 c7 HLt3
              go_wp2_with fail
              with_reducible refine (HF4.out _ (Kp.refl _ _)).mono ?_
              rintro e w5 ⟨rfl, hk5⟩
              have c7 := HC4.out w5 hk5
              have HF5 := Lib.hid (HF4.out w5 hk5)
              have hpl5 := Nat.lt_of_lt_of_le hpl4 hk5.size
              have Hk5 := Lib.hid hk5
              clear hk5
              go_wp2_with fail
              with_reducible refine (HF5.out).mono ?_
              rintro e w6 ⟨rfl, hk6⟩
              have hk46 := Hk5.out.trans hk6
              have c7' := HC4.out w6 hk46
              have HF6 := Lib.hid (HF4.out w6 hk46)
              have hpl6 := Nat.lt_of_lt_of_le hpl5 hk6.size
              have Hk6 := Lib.hid hk46
              clear hk6 hk46 c7
              by_cases hN : N0 = N1
              · subst hN
                obtain rfl := hSeq rfl
                clear hSeq hSle hge
                go_wp2_with fail
                with_reducible refine (HF6.out).mono ?_
                rintro e w7 ⟨rfl, hk7⟩
                have hk47 := Hk6.out.trans hk7
                have Hk7 := Lib.hid hk47
                clear hk7 hk47
                go_wp2_with fail
                go_meet
                case rel =>
                  refine ⟨F4, _, mb, n, D, rfl, by omega, (ET.out.aft (Aft.refl _ _ _) Hp4.out Ha4.out (ET.out.und.same ?_) (Hinv.out.part _ rfl rfl Hinv.out.tp ?_)).no Hk7.out⟩
                  · exact Hrel.out.1.symm.trans Hrel.out.2.1
                  · have hB := Hinv.out.B
                    show 0 ≤ s.r.B ∧ s.r.B ≤ _
                    omega
              · have hb : ((N0 : Int) == (N1 : Int)) = false := by simp; omega
                clear hSeq
                go_wp2_with fail
                with_reducible refine (HF6.out).mono ?_
                rintro e w7 ⟨rfl, hk7⟩
                have hB : Hid (Below W.heap.size W w7) := Lib.hid (by
                  have h1 := ET.out.kp.trans (Ha4.out.kp.mono (fun k _ e => by
                    rcases Nat.lt_or_ge k W.heap.size with hk | hk
                    · exact absurd (ET.out.base k hk) e.1
                    · exact hk) : Kp (fun k => W.heap.size ≤ k) wx w4)
                  exact ((h1.trans Hk6.out.no).trans hk7.no).below (Nat.le_refl _) (fun k e => e))
                clear hk7
                go_wp2_with fail
                go_ret
                exact ⟨rfl, hB.out⟩
            · by_cases hw2 : wh = 2
              · subst hw2
                clear hw hw1
                have Hinv := Lib.hid hinv
                have Hnx' := Lib.hid hnx'
                by_cases hy : (oldK s.zs).2 = true ∧ (oldK s.zs).1 ≤ (i : Int) + 1 - s.r.wait
                · have hh := a_probe ET.out.has ((i : Int) + 1) hnow hzl (by have := hinv.frs0; omega) (by have := hinv.B; omega) hy.1 hy.2
                  have HH : Hid (Calls Try.prog 13 #[.pointer (some ⟨p, 0, none⟩), .int .i64 ((i : Int) + 1)] wx fun e w' => ∃ A' T, e = .returned (.tuple #[.slice A' T T, .bool true]) ∧ ∃ F', HasA w' F' (fun k => k = mb) p (probeS s) ∧ Aft wx F (fun k => k = mb) w' F') := Lib.hid (hh.mono (by
                    rintro e w2 ⟨A', rfl, F', h1, h2, _⟩
                    exact ⟨A', _, rfl, F', h1, h2⟩))
                  clear hh hy hnx' hinv
                  go_wp2_with fail
                  with_reducible refine (HH.out).mono ?_
                  rintro e w4 ⟨A', T, rfl, F4, hp4, ha4⟩
                  have Hend := Lib.hid (ET.out.wipe ha4 hp4 rfl ⟨List.Pairwise.nil, fun z hz => (by cases hz), fun z hz => (by cases hz), fun z hz => (by cases hz), Nat.zero_le _, by have := Hinv.out.nx; exact ⟨this.1, by show s.next ≤ _; omega⟩, Hinv.out.tp, by have := Hinv.out.B; show 0 ≤ s.r.B + 1 ∧ s.r.B + 1 ≤ _; omega⟩)
                  clear hp4 ha4 HH
                  go_wp2_with fail
                  go_meet
                  case rel => exact ⟨F4, _, _, 0, _, rfl, by omega, Hend.out⟩
                · have hno : (oldK s.zs).2 = false ∨ (i : Int) + 1 - s.r.wait < (oldK s.zs).1 := by
                    cases hb : (oldK s.zs).2 with
                    | false => exact .inl rfl
                    | true => exact .inr (by have : ¬ (oldK s.zs).1 ≤ (i : Int) + 1 - s.r.wait := fun h => hy ⟨hb, h⟩; omega)
                  have HH := Lib.hid (a_probe_no ET.out.has ((i : Int) + 1) hnow hzl hno)
                  clear hy hno hnx' hinv
                  go_wp2_with fail
                  with_reducible refine (HH.out).mono ?_
                  rintro e w4 ⟨rfl, hk4⟩
                  have Hk4 := Lib.hid hk4
                  clear hk4 HH
                  go_wp2_with fail
                  go_meet
                  case rel => exact ⟨F, s, mb, n, D, rfl, by omega, (ET.out.no Hk4.out).up⟩
              · have hn1 : s.next ≤ 4611686018427387903 := by rw [← hnx']; omega
                have hn0 : 0 ≤ s.next := by rw [← hnx']; omega
                by_cases hw3 : wh = 3
                · subst hw3
                  clear hw hw1 hw2
                  obtain ⟨F1, hp1, ha1, hw1'⟩ : ∃ F1, HasA ((wx.alloc (.cells #[.int .i64 0, .int .i64 0] 37)).alloc (.cells (ackC wx.heap.size) 31)) F1 (fun k => k = mb) p s ∧ Aft wx F (fun k => k = mb) ((wx.alloc (.cells #[.int .i64 0, .int .i64 0] 37)).alloc (.cells (ackC wx.heap.size) 31)) F1 ∧
                      FrsR ((wx.alloc (.cells #[.int .i64 0, .int .i64 0] 37)).alloc (.cells (ackC wx.heap.size) 31)) F1 (.slice (some ⟨wx.heap.size + 1, 0, none⟩) 1 1) [ackF wx.heap.size] :=
                    ⟨_, (ET.out.has.lay _).lay _, ((Aft.refl wx F _).lay _).lay _, frs_lit (ackF wx.heap.size) (whole_at _ _ rfl (by simp)) (Or.inr (by simp)) (reads_ack ((whole_at _ _ rfl rfl).alloc _) (Or.inl (Or.inr rfl)))⟩
                  have HH : Hid (Calls Try.prog 10 #[.pointer (some ⟨p, 0, none⟩), .int .i64 ((i : Int) + 1), .slice (some ⟨wx.heap.size + 1, 0, none⟩) 1 1] ((wx.alloc (.cells #[.int .i64 0, .int .i64 0] 37)).alloc (.cells (ackC wx.heap.size) 31)) fun e w' => e = .returned (.int .i64 nx) ∧ ∃ F' z, HasA w' F' (fun k => k = mb) p { s with zs := s.zs ++ [z], next := s.next + 1 } ∧ Aft wx F (fun k => k = mb) w' F' ∧ z.n = s.next ∧ z.a = (i : Int) + 1 ∧ z.el = false ∧ z.l.length = 1) := Lib.hid (by
                    have := a_send hp1 ((i : Int) + 1) (A := some ⟨wx.heap.size + 1, 0, none⟩) (c := 1) (fl := [ackF wx.heap.size]) hw1' (by simp) (fun f hf => by rw [List.mem_singleton.1 hf]; simp) hn1 hn0 hzl
                    refine this.mono ?_
                    rintro e w2 ⟨rfl, F', z, h1, h2, h3, h4, h5, h6⟩
                    exact ⟨by rw [hnx'], F', z, h1, ha1.trans h2, h3, h4, h5, by have := congrArg List.length h6; simpa using this⟩)
                  have Hinv := Lib.hid hinv
                  clear hp1 ha1 hw1' hnx' hinv hn1 hn0
                  go_wp2_with fail
                  with_reducible refine (HH.out).mono ?_
                  rintro e w4 ⟨rfl, F4, z, hp4, ha4, hz1, hz2, hz3, hz4⟩
                  have Hend := Lib.hid (ET.out.aft (Aft.refl _ _ _) hp4 ha4 (ET.out.und.skip hz3) (Hinv.out.sent1 hz1 (by rw [hz2]; omega) hz4))
                  clear hp4 ha4 hz1 hz2 hz3 hz4 HH
                  go_wp2_with fail
                  go_meet
                  case rel => exact ⟨F4, _, mb, n, D, rfl, by omega, Hend.out⟩
                · have b0 : ((wh : Int) == 0) = false := by simp [hw]
                  have b1 : ((wh : Int) == 1) = false := by simp; omega
                  have b2 : ((wh : Int) == 2) = false := by simp; omega
                  have b3 : ((wh : Int) == 3) = false := by simp; omega
                  have HH : Hid (Calls Try.prog 10 #[.pointer (some ⟨p, 0, none⟩), .int .i64 ((i : Int) + 1), .slice (some ⟨wx.heap.size, 0, none⟩) 1 1] (wx.alloc (.cells (bareC 1) 31)) fun e w' => e = .returned (.int .i64 nx) ∧ ∃ F' z, HasA w' F' (fun k => k = mb) p { s with zs := s.zs ++ [z], next := s.next + 1 } ∧ Aft wx F (fun k => k = mb) w' F' ∧ z.n = s.next ∧ z.a = (i : Int) + 1 ∧ z.el = true ∧ z.l.length = 1) := Lib.hid (by
                    have := a_send (ET.out.has.lay (.cells (bareC 1) 31)) ((i : Int) + 1) (A := some ⟨wx.heap.size, 0, none⟩) (c := 1) (fl := [bareF 1]) (frs_lit (bareF 1) (Whole.new _ _ _) (Or.inr rfl) (reads_bare _)) (by simp) (fun f hf => by rw [List.mem_singleton.1 hf]; simp) hn1 hn0 hzl
                    refine this.mono ?_
                    rintro e w2 ⟨rfl, F', z, h1, h2, h3, h4, h5, h6⟩
                    exact ⟨by rw [hnx'], F', z, h1, ((Aft.refl wx F _).lay _).trans h2, h3, h4, h5, by have := congrArg List.length h6; simpa using this⟩)
                  have Hinv := Lib.hid hinv
                  have Hnx' := Lib.hid hnx'
                  clear hw hw1 hw2 hw3 hnx' hinv hn1 hn0
                  go_wp2_with fail
                  with_reducible refine (HH.out).mono ?_
                  rintro e w4 ⟨rfl, F4, z, hp4, ha4, hz1, hz2, hz3, hz4⟩
                  have hm4 : World.ownsMap w4 Try.prog 3 (plainElem (H := Unit) Try.prog 4) mb n D := ET.out.map.kp ha4.kp (fun e => e.2 rfl)
                  have Hm4 := Lib.hid hm4
                  have Hp4 := Lib.hid hp4
                  have Ha4 := Lib.hid ha4
                  have HZ := Lib.hid (And.intro hz1 (And.intro hz2 (And.intro hz3 hz4)))
                  clear hm4 hp4 ha4 HH hz1 hz2 hz3 hz4
                  go_wp2_with (at_mapUpdate; refine wpList_mapUpdate_own _ rfl _ _ _ 54 rfl 3 4 keyN Try.underlying54 _ mb n D rfl Hm4.out (by unfold maxLen; omega) _ _ (KeyL nx) rfl rfl (Maps.keyOf_int_mk Try.underlying3 (wf64 nx (by omega) (by omega))) _ [] (plainElem_bool Try.underlying4 true) ?_; intro w5 hown5 hgrow5)
                  go_meet
                  case rel =>
                    have hzn : nx = z.n := Hnx'.out.trans HZ.out.1.symm
                    rw [hzn] at hown5
                    exact ⟨F4, _, mb, n + 1, _, rfl, by omega, ET.out.both Ha4.out Hp4.out hgrow5 hown5 (ET.out.und.put HZ.out.2.2.1 (fun y hy => by rw [HZ.out.1]; exact (Hinv.out.num y hy).2) _) (Hinv.out.sent1 HZ.out.1 (by rw [HZ.out.2.1]; omega) HZ.out.2.2.2)⟩
        case rest =>
          obtain ⟨F', s', mb', n', D', rfl, hn', hr⟩ := hcut
          generalize wc = wq at *
          have HQ := Lib.hid hr
          have hil : s'.zs.length ≤ 2199023255552 := by have := hr.inv.len; omega
          have hqp := hr.has.lt.1
          obtain ⟨N, hN⟩ : ∃ N, N = cntK s'.zs := ⟨_, rfl⟩
          obtain ⟨Sz, hSz⟩ : ∃ Sz, Sz = s'.q.S := ⟨_, rfl⟩
          have HF : Hid (∀ w', Kp (fun _ => False) wq w' → Calls Try.prog 19 #[.pointer (some ⟨p, 4, none⟩)] w' fun e w2 => e = .returned (.int .i64 (N : Nat)) ∧ Kp (fun _ => False) w' w2) := Lib.hid (fun w' hk => by rw [hN]; exact a_flight (HQ.out.has.no hk) hil)
          have HO : Hid (∀ w', Kp (fun _ => False) wq w' → Calls Try.prog 16 #[.pointer (some ⟨p, 0, none⟩)] w' fun e w2 => e = .returned (.bool (decide ((N : Int) < Sz))) ∧ Kp (fun _ => False) w' w2) := Lib.hid (fun w' hk => by rw [hN, hSz]; exact a_open (HQ.out.has.no hk) hil)
          have HLn : Hid (∀ w', Kp (fun _ => False) wq w' → (Builtin.len_ #[54] 3 #[.map (some mb')]).run Try.prog w' = .ok (.int .i64 (N : Nat)) w') := Lib.hid (fun w' hk => (HQ.out.map.kp hk (fun h => h)).len N (by rw [hN]; exact HQ.out.und.size))
          have HC7 : Hid (∀ w', Kp (fun _ => False) wq w' → w'.cell? ⟨p, 7, none⟩ = some (.int .i64 Sz)) := Lib.hid (fun w' hk => by rw [hSz]; exact (a_cells (HQ.out.has.no hk)).2.2.1)
          clear hr hN hSz hmb x1 hxl hpx ET hwh
          go_wp2_with fail
          refine wp_region_held_drew (S := (fun w' => Kp (fun _ => False) wq w')) (by kernel_rfl) ((Kp.refl _ _).drew) (fun hHeld => ?_)
          refine wpAnyH_take (i := 0) (oi := { dst := some 141, op := Op.move (.tmp 3), type := _, pos := _, after := _, guard := _ }) (v := ?_) rfl (by kernel_rfl) (by kernel_rfl) (by kernel_rfl) (fun _ _ _ h => h) (Or.inl ⟨by rfl, ?_⟩) hHeld ?_
          rotate_left
          · intro w99 hSw
            first | (go_simp; done) | (go_simp; with_reducible rfl)
          try simp only [Act.put, List.setIfInBounds_toArray, List.set_cons_zero, List.set_cons_succ]
          refine wpAnyH_take (i := 1) (oi := { dst := some 142, op := Op.nilCheck (.tmp 141), type := _, pos := _, after := _, guard := _ }) (v := ?_) rfl (by kernel_rfl) (by kernel_rfl) (by kernel_rfl) (fun _ _ _ h => h) (Or.inl ⟨by rfl, ?_⟩) hHeld ?_
          rotate_left
          · intro w99 hSw
            first | (go_simp; done) | (go_simp; with_reducible rfl)
          try simp only [Act.put, List.setIfInBounds_toArray, List.set_cons_zero, List.set_cons_succ]
          refine wpAnyH_take (i := 2) (oi := { dst := some 143, op := Op.fieldAddr 51 (.tmp 142) 1, type := _, pos := _, after := _, guard := _ }) (v := ?_) rfl (by kernel_rfl) (by kernel_rfl) (by kernel_rfl) (fun _ _ _ h => h) (Or.inl ⟨by rfl, ?_⟩) hHeld ?_
          rotate_left
          · intro w99 hSw
            first | (go_simp; done) | (go_simp; with_reducible rfl)
          try simp only [Act.put, List.setIfInBounds_toArray, List.set_cons_zero, List.set_cons_succ]
          refine wpAnyH_take (i := 4) (oi := { dst := some 145, op := Op.move (.tmp 5), type := _, pos := _, after := _, guard := _ }) (v := ?_) rfl (by kernel_rfl) (by kernel_rfl) (by kernel_rfl) (fun _ _ _ h => h) (Or.inl ⟨by rfl, ?_⟩) hHeld ?_
          rotate_left
          · intro w99 hSw
            first | (go_simp; done) | (go_simp; with_reducible rfl)
          try simp only [Act.put, List.setIfInBounds_toArray, List.set_cons_zero, List.set_cons_succ]
          refine wpAnyH_ready (rs := [3]) (by kernel_rfl) (by simp) (AllReadyH.cons (o := { dst := some 144, op := Op.call { callee := Callee.value (Operand.func 19), args := #[(.tmp 143)], argTypes := #[47] }, type := _, pos := _, after := _, guard := _ }) rfl (fun K hK => ?_) AllReadyH.nil)
          go_simp
          with_reducible refine (HF.out _ hHeld).mono ?_
          rintro e w' ⟨rfl, hkh⟩
          go_wp2_with fail
          have hx9 := (hHeld.trans hkh)
          refine hK.out _ _ hx9 (fun _ => ?_)
          clear hK hHeld
          have hHeld := hx9
          clear hx9
          clear hkh
          generalize w' = wd3 at *
          try simp only [Act.put, List.setIfInBounds_toArray, List.set_cons_zero, List.set_cons_succ]
          refine wpAnyH_take (i := 5) (oi := { dst := some 146, op := Op.call { callee := Callee.builtin Builtin.len, args := #[(.tmp 145)], argTypes := #[54] }, type := _, pos := _, after := _, guard := _ }) (v := ?_) rfl (by kernel_rfl) (by kernel_rfl) (by kernel_rfl) (fun _ _ _ h => h) (Or.inl ⟨by rfl, ?_⟩) hHeld ?_
          rotate_left
          · intro w99 hSw
            have hl := HLn.out w99 hSw; first | (go_simp; done) | (go_simp; with_reducible rfl)
          try simp only [Act.put, List.setIfInBounds_toArray, List.set_cons_zero, List.set_cons_succ]
          refine wpAnyH_take (i := 6) (oi := { dst := some 147, op := Op.binOp BinOp.neq 3 (.tmp 144) (.tmp 146) 3, type := _, pos := _, after := _, guard := _ }) (v := ?_) rfl (by kernel_rfl) (by kernel_rfl) (by kernel_rfl) (fun _ _ _ h => h) (Or.inl ⟨by rfl, ?_⟩) hHeld ?_
          rotate_left
          · intro w99 hSw
            first | (go_simp; done) | (go_simp; with_reducible rfl)
          try simp only [Act.put, List.setIfInBounds_toArray, List.set_cons_zero, List.set_cons_succ]
          refine wpAnyH_take (i := 7) (oi := { dst := some 148, op := Op.move (.tmp 147), type := _, pos := _, after := _, guard := _ }) (v := ?_) rfl (by kernel_rfl) (by kernel_rfl) (by kernel_rfl) (fun _ _ _ h => h) (Or.inl ⟨by rfl, ?_⟩) hHeld ?_
          rotate_left
          · intro w99 hSw
            first | (go_simp; done) | (go_simp; with_reducible rfl)
          try simp only [Act.put, List.setIfInBounds_toArray, List.set_cons_zero, List.set_cons_succ]
          refine wpAnyH_take (i := 8) (oi := { dst := some 149, op := Op.move (.tmp 3), type := _, pos := _, after := _, guard := _ }) (v := ?_) rfl (by kernel_rfl) (by kernel_rfl) (by kernel_rfl) (fun _ _ _ h => h) (Or.inl ⟨by rfl, ?_⟩) hHeld ?_
          rotate_left
          · intro w99 hSw
            first | (go_simp; done) | (go_simp; with_reducible rfl)
          try simp only [Act.put, List.setIfInBounds_toArray, List.set_cons_zero, List.set_cons_succ]
          refine wpAnyH_take (i := 10) (oi := { dst := some 151, op := Op.move (.tmp 5), type := _, pos := _, after := _, guard := _ }) (v := ?_) rfl (by kernel_rfl) (by kernel_rfl) (by kernel_rfl) (fun _ _ _ h => h) (Or.inl ⟨by rfl, ?_⟩) hHeld ?_
          rotate_left
          · intro w99 hSw
            first | (go_simp; done) | (go_simp; with_reducible rfl)
          try simp only [Act.put, List.setIfInBounds_toArray, List.set_cons_zero, List.set_cons_succ]
          refine wpAnyH_take (i := 12) (oi := { dst := some 153, op := Op.move (.tmp 3), type := _, pos := _, after := _, guard := _ }) (v := ?_) rfl (by kernel_rfl) (by kernel_rfl) (by kernel_rfl) (fun _ _ _ h => h) (Or.inl ⟨by rfl, ?_⟩) hHeld ?_
          rotate_left
          · intro w99 hSw
            first | (go_simp; done) | (go_simp; with_reducible rfl)
          try simp only [Act.put, List.setIfInBounds_toArray, List.set_cons_zero, List.set_cons_succ]
          refine wpAnyH_take (i := 13) (oi := { dst := some 154, op := Op.nilCheck (.tmp 153), type := _, pos := _, after := _, guard := _ }) (v := ?_) rfl (by kernel_rfl) (by kernel_rfl) (by kernel_rfl) (fun _ _ _ h => h) (Or.inl ⟨by rfl, ?_⟩) hHeld ?_
          rotate_left
          · intro w99 hSw
            first | (go_simp; done) | (go_simp; with_reducible rfl)
          try simp only [Act.put, List.setIfInBounds_toArray, List.set_cons_zero, List.set_cons_succ]
          refine wpAnyH_take (i := 14) (oi := { dst := some 155, op := Op.fieldAddr 51 (.tmp 154) 2, type := _, pos := _, after := _, guard := _ }) (v := ?_) rfl (by kernel_rfl) (by kernel_rfl) (by kernel_rfl) (fun _ _ _ h => h) (Or.inl ⟨by rfl, ?_⟩) hHeld ?_
          rotate_left
          · intro w99 hSw
            first | (go_simp; done) | (go_simp; with_reducible rfl)
          try simp only [Act.put, List.setIfInBounds_toArray, List.set_cons_zero, List.set_cons_succ]
          refine wpAnyH_take (i := 15) (oi := { dst := some 156, op := Op.fieldAddr 49 (.tmp 155) 0, type := _, pos := _, after := _, guard := _ }) (v := ?_) rfl (by kernel_rfl) (by kernel_rfl) (by kernel_rfl) (fun _ _ _ h => h) (Or.inl ⟨by rfl, ?_⟩) hHeld ?_
          rotate_left
          · intro w99 hSw
            first | (go_simp; done) | (go_simp; with_reducible rfl)
          try simp only [Act.put, List.setIfInBounds_toArray, List.set_cons_zero, List.set_cons_succ]
          refine wpAnyH_take (i := 16) (oi := { dst := some 157, op := Op.load 3 (.tmp 156), type := _, pos := _, after := _, guard := _ }) (v := ?_) rfl (by kernel_rfl) (by kernel_rfl) (by kernel_rfl) (fun _ _ _ h => h) (Or.inl ⟨by rfl, ?_⟩) hHeld ?_
          rotate_left
          · intro w99 hSw
            have hl := HC7.out w99 hSw; first | (go_simp; done) | (go_simp; with_reducible rfl)
          try simp only [Act.put, List.setIfInBounds_toArray, List.set_cons_zero, List.set_cons_succ]
          refine wpAnyH_ready (rs := [9]) (by kernel_rfl) (by simp) (AllReadyH.cons (o := { dst := some 150, op := Op.call { callee := Callee.value (Operand.func 16), args := #[(.tmp 149)], argTypes := #[23] }, type := _, pos := _, after := _, guard := _ }) rfl (fun K hK => ?_) AllReadyH.nil)
          go_simp
          with_reducible refine (HO.out _ hHeld).mono ?_
          rintro e w' ⟨rfl, hkh⟩
          go_wp2_with fail
          have hx9 := (hHeld.trans hkh)
          refine hK.out _ _ hx9 (fun _ => ?_)
          clear hK hHeld
          have hHeld := hx9
          clear hx9
          clear hkh
          generalize w' = wd9 at *
          try simp only [Act.put, List.setIfInBounds_toArray, List.set_cons_zero, List.set_cons_succ]
          refine wpAnyH_take (i := 11) (oi := { dst := some 152, op := Op.call { callee := Callee.builtin Builtin.len, args := #[(.tmp 151)], argTypes := #[54] }, type := _, pos := _, after := _, guard := _ }) (v := ?_) rfl (by kernel_rfl) (by kernel_rfl) (by kernel_rfl) (fun _ _ _ h => h) (Or.inl ⟨by rfl, ?_⟩) hHeld ?_
          rotate_left
          · intro w99 hSw
            have hl := HLn.out w99 hSw; first | (go_simp; done) | (go_simp; with_reducible rfl)
          try simp only [Act.put, List.setIfInBounds_toArray, List.set_cons_zero, List.set_cons_succ]
          refine wpAnyH_take (i := 17) (oi := { dst := some 158, op := Op.binOp BinOp.lss 3 (.tmp 152) (.tmp 157) 3, type := _, pos := _, after := _, guard := _ }) (v := ?_) rfl (by kernel_rfl) (by kernel_rfl) (by kernel_rfl) (fun _ _ _ h => h) (Or.inl ⟨by rfl, ?_⟩) hHeld ?_
          rotate_left
          · intro w99 hSw
            first | (go_simp; done) | (go_simp; with_reducible rfl)
          try simp only [Act.put, List.setIfInBounds_toArray, List.set_cons_zero, List.set_cons_succ]
          refine wpAnyH_take (i := 18) (oi := { dst := some 159, op := Op.binOp BinOp.neq 4 (.tmp 150) (.tmp 158) 4, type := _, pos := _, after := _, guard := _ }) (v := ?_) rfl (by kernel_rfl) (by kernel_rfl) (by kernel_rfl) (fun _ _ _ h => h) (Or.inl ⟨by rfl, ?_⟩) hHeld ?_
          rotate_left
          · intro w99 hSw
            first | (go_simp; done) | (go_simp; with_reducible rfl)
          try simp only [Act.put, List.setIfInBounds_toArray, List.set_cons_zero, List.set_cons_succ]
          refine wpAnyH_take (i := 19) (oi := { dst := some 160, op := Op.pick (.tmp 148) (.const (Value.bool true)) (.tmp 159), type := _, pos := _, after := _, guard := _ }) (v := ?_) rfl (by kernel_rfl) (by kernel_rfl) (by kernel_rfl) (fun _ _ _ h => h) (Or.inl ⟨by rfl, ?_⟩) hHeld ?_
          rotate_left
          · intro w99 hSw
            first | (go_simp; done) | (go_simp; with_reducible rfl)
          try simp only [Act.put, List.setIfInBounds_toArray, List.set_cons_zero, List.set_cons_succ]
          refine wpAnyH_done (by kernel_rfl) ?_ _
          have Hh := Lib.hid hHeld
          clear hHeld
          go_wp2_with fail
          go_roundw
          case rel => exact ⟨i + 1, F', s', mb', n', D', by omega, by omega, by go_num, by go_num, rfl, Lib.hid (HQ.out.no Hh.out)⟩
          case measure => simp [intOf]; omega
    · obtain rfl : i = len := by omega
      have hb : Hid (Below W.heap.size W wr) := Lib.hid (HR.out.kp.below (Nat.le_refl _) (fun k h => h))
      go_wp2_with fail
      go_ret
      exact ⟨rfl, hb.out⟩
end Go.Proofs.Ytoiakdddghbdnaa
