/-
  Package path: Late. (regions printed by src/gen_XPathL.py)
-/
import Derived.Test.YtoiakdddghbdnaaPathH
namespace Go.Proofs.Ytoiakdddghbdnaa
open Go.RowKit

/-- The window, once packets were lost. -/
def lateQ (g : List Pk) (q : W4) (next : Int) : W4 := match g.getLast? with
  | some z => if 0 < cntK g then q.bad z.n next else q
  | none => q
/-- What is late is lost. -/
def lateS (s : PS) (now : Int) : PS :=
  ⟨s.r, lateQ (s.zs.filter (lostK s.top now s.r.late)) s.q s.next, s.zs.filter fun z => !lostK s.top now s.r.late z, s.next, s.top⟩
theorem bad_inv' {q : W4} (h : q.Inv) (n next : Int) : (q.bad n next).Inv := by
  obtain ⟨a, b, c, d, e, f⟩ := h
  unfold W4.bad
  split
  · exact ⟨a, b, c, d, e, f⟩
  · exact ⟨by dsimp only; omega, by dsimp only; omega, by dsimp only; omega, by dsimp only; omega, by dsimp only; omega, by dsimp only; omega⟩

set_option maxRecDepth 100000 in
set_option maxHeartbeats 4000000 in
theorem p_late {w : World} {F L : Nat → Prop} {p : Nat} {tc : TypeId} {cs : Array Value} {v : Value} {s : PS} (h : HasP w F L p tc cs v s) (now : Int) (hnow : 0 ≤ now ∧ now ≤ 4611686018427380000)
    (h0 : 0 ≤ s.top) (h1 : s.top ≤ 4611686018427387904) (hzl : s.zs.length ≤ 2199023255552) (hfl : (frsK (s.zs.filter (lostK s.top now s.r.late))).length ≤ 2165000000000) :
    Calls Try.prog 12 #[.pointer (some ⟨p, 0, none⟩), .int .i64 now] w fun e w' => ∃ A', e = .returned (.slice A' (frsK (s.zs.filter (lostK s.top now s.r.late))).length (frsK (s.zs.filter (lostK s.top now s.r.late))).length) ∧
      TellLeft w F L p tc cs v (lateS s now) (.slice A' (frsK (s.zs.filter (lostK s.top now s.r.late))).length (frsK (s.zs.filter (lostK s.top now s.r.late))).length) (frsK (s.zs.filter (lostK s.top now s.r.late))) w' := by
  obtain ⟨lt, hlt⟩ : ∃ lt, lt = s.r.late := ⟨_, rfl⟩
  have hltb : 2 ≤ lt ∧ lt ≤ 1200 := by have := R4.round_bounds h.inn.rI; rw [hlt]; unfold R4.late; omega
  rw [← hlt] at hfl ⊢
  have HLt : Hid (∀ w', Kp (fun _ => False) w w' → Calls Try.prog 29 #[.pointer (some ⟨p, 0, none⟩)] w' fun e w2 => e = .returned (.int .i64 lt) ∧ w' = w2) := Lib.hid (fun w' hk => by rw [hlt]; exact late_any (h.inn.no hk).isR h.inn.rI)
  have HLo : Hid (∀ w', Kp (fun _ => False) w w' → Calls Try.prog 28 #[.pointer (some ⟨p, 4, none⟩), .int .i64 now, .int .i64 lt] w' fun e w2 => ∃ r W1, e = .returned r ∧ Kp (fun _ => False) w' W1 ∧ Parted W1 w2 p tc cs s.zs s.next s.top (lostK s.top now lt) r) := Lib.hid (fun w' hk => l_lose (h.inn.no hk).led now lt h0 h1 (by omega) hzl)
  have hpl := h.inn.led.cell.lt
  obtain ⟨g, hg⟩ : ∃ g, g = s.zs.filter (lostK s.top now lt) := ⟨_, rfl⟩
  have hst : lateS s now = ⟨s.r, lateQ g s.q s.next, s.zs.filter fun z => !lostK s.top now lt z, s.next, s.top⟩ := by rw [hg, hlt]; rfl
  have hgz : ∀ z ∈ g, z ∈ s.zs := fun z hz => (List.mem_filter.1 (hg ▸ hz)).1
  have hgl : g.length ≤ s.zs.length := by rw [hg]; exact List.length_filter_le _ _
  rw [← hg] at hfl ⊢
  have HG := Lib.hid hg
  have HH := Lib.hid hst
  have H := Lib.hid h
  have Hgz := Lib.hid hgz
  clear h hg hst hgz hlt
  obtain ⟨T, hT⟩ : ∃ T, T = (frsK g).length := ⟨_, rfl⟩
  rw [← hT] at hfl ⊢
  have HT := Lib.hid hT
  clear hT
  go_enter Try.func12, Try.ntmps12
  go_wp2_with fail
  refine wp_region_held_drew (S := (fun _ => True)) (by kernel_rfl) True.intro (fun hHeld => ?_)
  refine wpAnyH_take (i := 0) (oi := { dst := some 8, op := Op.move (.tmp 0), type := _, pos := _, after := _, guard := _ }) (v := ?_) rfl (by kernel_rfl) (by kernel_rfl) (by kernel_rfl) (fun _ _ _ h => h) (Or.inl ⟨by rfl, ?_⟩) hHeld ?_
  rotate_left
  · intro w99 hSw
    first | (go_simp; done) | (go_simp; with_reducible rfl)
  try simp only [Act.put, List.setIfInBounds_toArray, List.set_cons_zero, List.set_cons_succ]
  refine wpAnyH_take (i := 1) (oi := { dst := some 9, op := Op.nilCheck (.tmp 8), type := _, pos := _, after := _, guard := _ }) (v := ?_) rfl (by kernel_rfl) (by kernel_rfl) (by kernel_rfl) (fun _ _ _ h => h) (Or.inl ⟨by rfl, ?_⟩) hHeld ?_
  rotate_left
  · intro w99 hSw
    first | (go_simp; done) | (go_simp; with_reducible rfl)
  try simp only [Act.put, List.setIfInBounds_toArray, List.set_cons_zero, List.set_cons_succ]
  refine wpAnyH_take (i := 2) (oi := { dst := some 10, op := Op.fieldAddr 51 (.tmp 9) 1, type := _, pos := _, after := _, guard := _ }) (v := ?_) rfl (by kernel_rfl) (by kernel_rfl) (by kernel_rfl) (fun _ _ _ h => h) (Or.inl ⟨by rfl, ?_⟩) hHeld ?_
  rotate_left
  · intro w99 hSw
    first | (go_simp; done) | (go_simp; with_reducible rfl)
  try simp only [Act.put, List.setIfInBounds_toArray, List.set_cons_zero, List.set_cons_succ]
  refine wpAnyH_take (i := 3) (oi := { dst := some 11, op := Op.move (.tmp 1), type := _, pos := _, after := _, guard := _ }) (v := ?_) rfl (by kernel_rfl) (by kernel_rfl) (by kernel_rfl) (fun _ _ _ h => h) (Or.inl ⟨by rfl, ?_⟩) hHeld ?_
  rotate_left
  · intro w99 hSw
    first | (go_simp; done) | (go_simp; with_reducible rfl)
  try simp only [Act.put, List.setIfInBounds_toArray, List.set_cons_zero, List.set_cons_succ]
  refine wpAnyH_take (i := 4) (oi := { dst := some 12, op := Op.move (.tmp 0), type := _, pos := _, after := _, guard := _ }) (v := ?_) rfl (by kernel_rfl) (by kernel_rfl) (by kernel_rfl) (fun _ _ _ h => h) (Or.inl ⟨by rfl, ?_⟩) hHeld ?_
  rotate_left
  · intro w99 hSw
    first | (go_simp; done) | (go_simp; with_reducible rfl)
  try simp only [Act.put, List.setIfInBounds_toArray, List.set_cons_zero, List.set_cons_succ]
  refine wpAnyH_take (i := 5) (oi := { dst := some 13, op := Op.nilCheck (.tmp 12), type := _, pos := _, after := _, guard := _ }) (v := ?_) rfl (by kernel_rfl) (by kernel_rfl) (by kernel_rfl) (fun _ _ _ h => h) (Or.inl ⟨by rfl, ?_⟩) hHeld ?_
  rotate_left
  · intro w99 hSw
    first | (go_simp; done) | (go_simp; with_reducible rfl)
  try simp only [Act.put, List.setIfInBounds_toArray, List.set_cons_zero, List.set_cons_succ]
  refine wpAnyH_take (i := 6) (oi := { dst := some 14, op := Op.fieldAddr 51 (.tmp 13) 0, type := _, pos := _, after := _, guard := _ }) (v := ?_) rfl (by kernel_rfl) (by kernel_rfl) (by kernel_rfl) (fun _ _ _ h => h) (Or.inl ⟨by rfl, ?_⟩) hHeld ?_
  rotate_left
  · intro w99 hSw
    first | (go_simp; done) | (go_simp; with_reducible rfl)
  try simp only [Act.put, List.setIfInBounds_toArray, List.set_cons_zero, List.set_cons_succ]
  refine wpAnyH_ready (rs := [7]) (by kernel_rfl) (by simp) (AllReadyH.cons (o := { dst := some 15, op := Op.call { callee := Callee.value (Operand.func 29), args := #[(.tmp 14)], argTypes := #[44] }, type := _, pos := _, after := _, guard := _ }) rfl (fun K hK => ?_) AllReadyH.nil)
  go_simp
  with_reducible refine (HLt.out _ ((Kp.refl _ _).drew)).mono ?_
  rintro e w' ⟨rfl, rfl⟩
  go_wp2_with fail
  refine hK.out _ _ hHeld (fun _ => ?_)
  clear hK
  try simp only [Act.put, List.setIfInBounds_toArray, List.set_cons_zero, List.set_cons_succ]
  refine wpAnyH_ready (rs := [8]) (by kernel_rfl) (by simp) (AllReadyH.cons (o := { dst := some 16, op := Op.call { callee := Callee.value (Operand.func 28), args := #[(.tmp 10), (.tmp 11), (.tmp 15)], argTypes := #[47, 3, 3] }, type := _, pos := _, after := _, guard := _ }) rfl (fun K hK => ?_) AllReadyH.nil)
  go_simp
  with_reducible refine (HLo.out _ ((Kp.refl _ _).drew)).mono ?_
  rintro e w' ⟨r, W1, rfl, hk1, hp1⟩
  go_wp2_with fail
  have hx9 := True.intro
  refine hK.out _ _ hx9 (fun _ => ?_)
  clear hK hHeld
  have hHeld := hx9
  clear hx9
  generalize w' = wd8 at *
  try simp only [Act.put, List.setIfInBounds_toArray, List.set_cons_zero, List.set_cons_succ]
  refine wpAnyH_take (i := 9) (oi := { dst := some 5, op := Op.assign (.tmp 16), type := _, pos := _, after := _, guard := _ }) (v := ?_) rfl (by kernel_rfl) (by kernel_rfl) (by kernel_rfl) (fun _ _ _ h => h) (Or.inl ⟨by rfl, ?_⟩) hHeld ?_
  rotate_left
  · intro w99 hSw
    first | (go_simp; done) | (go_simp; with_reducible rfl)
  try simp only [Act.put, List.setIfInBounds_toArray, List.set_cons_zero, List.set_cons_succ]
  refine wpAnyH_done (by kernel_rfl) ?_ _
  clear hHeld
  have hp := hp1
  clear hp1
  unfold Parted at hp
  rw [← HG.out] at hp
  obtain ⟨Ar, vo, cs2, rfl, hrow, hl2, hag2, hk2, hvo, hap⟩ := hp
  generalize wd8 = w2 at *
  have hkw : Kp (fun k => k = p) w w2 := ((Kp.refl (fun _ => False) w).drew.trans hk1).no.trans hk2
  have hpF : ∀ k, F k → k ≠ p := fun k e e' => H.out.pF.1 (e' ▸ e)
  obtain ⟨n, hn'⟩ : ∃ n, n = g.length := ⟨_, rfl⟩
  have HFr := Lib.hid (frames_any (F := F) (hrow.src (encK_one _)) (fun z hz => (H.out.con z (Hgz.out z hz)).kp hkw hpF) (by omega) (by rw [← HT.out]; exact hfl))
  have hpin := H.out.inn.led' hl2 hag2
  have hs1 : w.heap.size ≤ W1.heap.size := hk1.size
  replace hrow := hrow.base hs1
  rw [← hn'] at hrow HFr
  have Hrow := Lib.hid hrow
  have Hpin := Lib.hid hpin
  have Hkw := Lib.hid hkw
  have Hvo : Hid (∀ k, vo.ownBlock = some k → w.heap.size ≤ k) := Lib.hid (fun k hk => Nat.le_trans hs1 (hvo k hk))
  have Hvl : Hid (∀ k, vo.ownBlock = some k → k < w2.heap.size) := Lib.hid (fun k hk => (hl2.row.lt k hk).2)
  have Hrest : Hid (∀ i, 11 ≤ i → cs2[i]? = cs[i]?) := Lib.hid (fun i hi => hag2 i (by omega))
  rw [← hn']
  have Hn := Lib.hid hn'
  clear hn' hk1 hrow hl2 hag2 hk2 hvo hap hkw hpF hpin hs1
  generalize hN : cntK g = N at *
  have HN := Lib.hid hN
  clear hN
  rw [← HT.out] at HFr
  go_wp2_with fail
  with_reducible refine (HFr.out).mono ?_
  rintro e w3 ⟨A', rfl, hfr, hk3⟩
  have Hp3 := Lib.hid (Hpin.out.no hk3)
  have Hfr := Lib.hid hfr
  have Hk3 := Lib.hid hk3
  have Hrow3 := Lib.hid (Hrow.out.kp hk3 (fun _ _ h => h))
  clear hfr hk3
  have Hkz : Hid (Kp (fun k => k = p) w w3) := Lib.hid (Hkw.out.trans Hk3.out.no)
  have HEnd : Hid (∀ w5 cs5, Kp (fun k => k = p) w3 w5 → PIn w5 p tc cs5 vo (lateS s now) → (∀ i, 11 ≤ i → cs5[i]? = cs2[i]?) → TellLeft w F L p tc cs v (lateS s now) (.slice A' T T) (frsK g) w5) := Lib.hid (fun w5 cs5 hk5 hi hr => by
    have hs2 := Hkw.out.size
    have hs3 := Hk3.out.size
    have hs5 := hk5.size
    have hrow5 := Hfr.out.kp hk5 (fun k hk e => by have := (Hfr.out.lt k hk).1; omega)
    obtain ⟨F', h1, h2, h3⟩ := part_end H.out (Hkz.out.trans hk5) hi (fun z hz => by rw [HH.out] at hz; exact (List.mem_filter.1 hz).1) Hvo.out (fun i hi => (hr i hi).trans (Hrest.out i hi)) (row := .slice A' T T) (l := frsK g) (by rw [← HT.out]; exact hrow5.src (encF_one _)) (fun f hf => by obtain ⟨z, hz, hzf⟩ := frsK_mem hf; exact ⟨z, Hgz.out z hz, hzf⟩)
      (fun k hk => ⟨by have := hrow5.lt k hk; omega, fun e => by have := Hvl.out k e; have := (hrow5.lt k hk).1; omega⟩)
    exact ⟨F', cs5, vo, h1, h2, h3⟩)
  clear HFr
  by_cases hN0 : 0 < N
  · obtain ⟨k, rfl⟩ : ∃ k, n = k + 1 := ⟨n - 1, by have := List.length_filter_le (fun z : Pk => z.el) g; have h2 := HN.out; unfold cntK at h2; have := Hn.out; omega⟩
    obtain ⟨z, hz⟩ : ∃ z, g[k]? = some z := ⟨_, List.getElem?_eq_getElem (by rw [← Hn.out]; omega)⟩
    obtain ⟨b, off, c', hv, hbl, hb, _, _, _, hcell⟩ := Hrow3.out.full (by omega)
    cases hv
    have e0 := hcell (k * 4) _ (kk0 hz)
    have HL : Hid (lateQ g s.q s.next = s.q.bad z.n s.next) := Lib.hid (by
      unfold lateQ
      rw [List.getLast?_eq_getElem?, ← Hn.out, show k + 1 - 1 = k by omega, hz]
      dsimp only
      rw [HN.out, if_pos hN0])
    clear hcell hz
    obtain ⟨z1, hz1⟩ : ∃ z1, z1 = z.n := ⟨_, rfl⟩
    rw [← hz1] at e0 HL
    clear hz1
    have hN1 : (0 : Int) < (N : Int) := by omega
    have hkb : k + 1 ≤ 2199023255552 := by have := Hn.out; omega
    have hp3l := Hp3.out.led.cell.lt
    have hw3 : IntKind.i64.wrap (k : Int) = (k : Int) := IntWalk.i64_in _ (by omega)
    have hw4 : IntKind.i64.wrap (((k + 1 : Nat) : Int) - 1) = (k : Int) := by rw [IntWalk.i64_in _ (by omega)]; omega
    have htl : (k : Int) < (k : Int) + 1 := by omega
    have htl2 : (0 : Int) ≤ (k : Int) := by omega
    obtain ⟨nx, hnx⟩ : ∃ nx, nx = s.next := ⟨_, rfl⟩
    have HNx : Hid (∀ w', Kp (fun _ => False) w3 w' → Calls Try.prog 18 #[.pointer (some ⟨p, 4, none⟩)] w' fun e w2 => e = .returned (.int .i64 nx) ∧ w' = w2) := Lib.hid (fun w' hk => by rw [hnx]; exact l_next (Hp3.out.no hk).led)
    have HBd : Hid (∀ w', Kp (fun _ => False) w3 w' → Calls Try.prog 30 #[.pointer (some ⟨p, 7, none⟩), .int .i64 z1, .int .i64 nx] w' fun e w2 => e = .returned (.tuple #[]) ∧ Kp (fun k => k = p) w' w2 ∧ TellLeft w F L p tc cs v (lateS s now) (.slice A' T T) (frsK g) w2) := Lib.hid (fun w' hk => by
      subst hnx
      obtain ⟨cs5, hp7, hr7⟩ := (Hp3.out.no hk).setW (s.q.bad z1 s.next) (bad_inv' H.out.inn.qI _ _)
      refine (bad_any p 7 s.q z1 s.next w' (Hp3.out.no hk).isW H.out.inn.qI).mono ?_
      rintro e w2 ⟨rfl, rfl⟩
      refine ⟨rfl, setW_kp w' p _, HEnd.out _ cs5 (hk.no.trans (setW_kp w' p _)) ?_ hr7⟩
      rw [HH.out, HL.out]
      exact hp7)
    clear hnx
    go_wp2_with fail
    refine wp_region_held_drew (S := (fun w' => w'.cell? ⟨b, off + k * 4, none⟩ = some (.int .i64 z1))) (by kernel_rfl) e0 (fun hHeld => ?_)
    refine wpAnyH_take (i := 0) (oi := { dst := some 24, op := Op.move (.tmp 0), type := _, pos := _, after := _, guard := _ }) (v := ?_) rfl (by kernel_rfl) (by kernel_rfl) (by kernel_rfl) (fun _ _ _ h => h) (Or.inl ⟨by rfl, ?_⟩) hHeld ?_
    rotate_left
    · intro w99 hSw
      first | (go_simp; done) | (go_simp; with_reducible rfl)
    try simp only [Act.put, List.setIfInBounds_toArray, List.set_cons_zero, List.set_cons_succ]
    refine wpAnyH_take (i := 1) (oi := { dst := some 25, op := Op.nilCheck (.tmp 24), type := _, pos := _, after := _, guard := _ }) (v := ?_) rfl (by kernel_rfl) (by kernel_rfl) (by kernel_rfl) (fun _ _ _ h => h) (Or.inl ⟨by rfl, ?_⟩) hHeld ?_
    rotate_left
    · intro w99 hSw
      first | (go_simp; done) | (go_simp; with_reducible rfl)
    try simp only [Act.put, List.setIfInBounds_toArray, List.set_cons_zero, List.set_cons_succ]
    refine wpAnyH_take (i := 2) (oi := { dst := some 26, op := Op.fieldAddr 51 (.tmp 25) 2, type := _, pos := _, after := _, guard := _ }) (v := ?_) rfl (by kernel_rfl) (by kernel_rfl) (by kernel_rfl) (fun _ _ _ h => h) (Or.inl ⟨by rfl, ?_⟩) hHeld ?_
    rotate_left
    · intro w99 hSw
      first | (go_simp; done) | (go_simp; with_reducible rfl)
    try simp only [Act.put, List.setIfInBounds_toArray, List.set_cons_zero, List.set_cons_succ]
    refine wpAnyH_take (i := 3) (oi := { dst := some 27, op := Op.move (.tmp 5), type := _, pos := _, after := _, guard := _ }) (v := ?_) rfl (by kernel_rfl) (by kernel_rfl) (by kernel_rfl) (fun _ _ _ h => h) (Or.inl ⟨by rfl, ?_⟩) hHeld ?_
    rotate_left
    · intro w99 hSw
      first | (go_simp; done) | (go_simp; with_reducible rfl)
    try simp only [Act.put, List.setIfInBounds_toArray, List.set_cons_zero, List.set_cons_succ]
    refine wpAnyH_take (i := 4) (oi := { dst := some 28, op := Op.move (.tmp 5), type := _, pos := _, after := _, guard := _ }) (v := ?_) rfl (by kernel_rfl) (by kernel_rfl) (by kernel_rfl) (fun _ _ _ h => h) (Or.inl ⟨by rfl, ?_⟩) hHeld ?_
    rotate_left
    · intro w99 hSw
      first | (go_simp; done) | (go_simp; with_reducible rfl)
    try simp only [Act.put, List.setIfInBounds_toArray, List.set_cons_zero, List.set_cons_succ]
    refine wpAnyH_take (i := 5) (oi := { dst := some 29, op := Op.call { callee := Callee.builtin Builtin.len, args := #[(.tmp 28)], argTypes := #[45] }, type := _, pos := _, after := _, guard := _ }) (v := ?_) rfl (by kernel_rfl) (by kernel_rfl) (by kernel_rfl) (fun _ _ _ h => h) (Or.inl ⟨by rfl, ?_⟩) hHeld ?_
    rotate_left
    · intro w99 hSw
      first | (go_simp; done) | (go_simp; with_reducible rfl)
    try simp only [Act.put, List.setIfInBounds_toArray, List.set_cons_zero, List.set_cons_succ]
    refine wpAnyH_take (i := 6) (oi := { dst := some 30, op := Op.binOp BinOp.sub 3 (.tmp 29) (.const (.int .i64 1)) 3, type := _, pos := _, after := _, guard := _ }) (v := ?_) rfl (by kernel_rfl) (by kernel_rfl) (by kernel_rfl) (fun _ _ _ h => h) (Or.inl ⟨by rfl, ?_⟩) hHeld ?_
    rotate_left
    · intro w99 hSw
      first | (go_simp; done) | (go_simp; with_reducible rfl)
    try simp only [Act.put, List.setIfInBounds_toArray, List.set_cons_zero, List.set_cons_succ]
    refine wpAnyH_take (i := 7) (oi := { dst := some 31, op := Op.indexAddr 45 (.tmp 27) (.tmp 30), type := _, pos := _, after := _, guard := _ }) (v := ?_) rfl (by kernel_rfl) (by kernel_rfl) (by kernel_rfl) (fun _ _ _ h => h) (Or.inl ⟨by rfl, ?_⟩) hHeld ?_
    rotate_left
    · intro w99 hSw
      first | (go_simp; done) | (go_simp; with_reducible rfl)
    try simp only [Act.put, List.setIfInBounds_toArray, List.set_cons_zero, List.set_cons_succ]
    refine wpAnyH_take (i := 8) (oi := { dst := some 32, op := Op.fieldAddr 66 (.tmp 31) 0, type := _, pos := _, after := _, guard := _ }) (v := ?_) rfl (by kernel_rfl) (by kernel_rfl) (by kernel_rfl) (fun _ _ _ h => h) (Or.inl ⟨by rfl, ?_⟩) hHeld ?_
    rotate_left
    · intro w99 hSw
      first | (go_simp; done) | (go_simp; with_reducible rfl)
    try simp only [Act.put, List.setIfInBounds_toArray, List.set_cons_zero, List.set_cons_succ]
    refine wpAnyH_take (i := 9) (oi := { dst := some 33, op := Op.load 3 (.tmp 32), type := _, pos := _, after := _, guard := _ }) (v := ?_) rfl (by kernel_rfl) (by kernel_rfl) (by kernel_rfl) (fun _ _ _ h => h) (Or.inl ⟨by rfl, ?_⟩) hHeld ?_
    rotate_left
    · intro w99 hSw
      have e0 := hSw; first | (go_simp; done) | (go_simp; with_reducible rfl)
    try simp only [Act.put, List.setIfInBounds_toArray, List.set_cons_zero, List.set_cons_succ]
    refine wpAnyH_take (i := 10) (oi := { dst := some 34, op := Op.move (.tmp 0), type := _, pos := _, after := _, guard := _ }) (v := ?_) rfl (by kernel_rfl) (by kernel_rfl) (by kernel_rfl) (fun _ _ _ h => h) (Or.inl ⟨by rfl, ?_⟩) hHeld ?_
    rotate_left
    · intro w99 hSw
      first | (go_simp; done) | (go_simp; with_reducible rfl)
    try simp only [Act.put, List.setIfInBounds_toArray, List.set_cons_zero, List.set_cons_succ]
    refine wpAnyH_take (i := 11) (oi := { dst := some 35, op := Op.nilCheck (.tmp 34), type := _, pos := _, after := _, guard := _ }) (v := ?_) rfl (by kernel_rfl) (by kernel_rfl) (by kernel_rfl) (fun _ _ _ h => h) (Or.inl ⟨by rfl, ?_⟩) hHeld ?_
    rotate_left
    · intro w99 hSw
      first | (go_simp; done) | (go_simp; with_reducible rfl)
    try simp only [Act.put, List.setIfInBounds_toArray, List.set_cons_zero, List.set_cons_succ]
    refine wpAnyH_take (i := 12) (oi := { dst := some 36, op := Op.fieldAddr 51 (.tmp 35) 1, type := _, pos := _, after := _, guard := _ }) (v := ?_) rfl (by kernel_rfl) (by kernel_rfl) (by kernel_rfl) (fun _ _ _ h => h) (Or.inl ⟨by rfl, ?_⟩) hHeld ?_
    rotate_left
    · intro w99 hSw
      first | (go_simp; done) | (go_simp; with_reducible rfl)
    try simp only [Act.put, List.setIfInBounds_toArray, List.set_cons_zero, List.set_cons_succ]
    refine wpAnyH_ready (rs := [13]) (by kernel_rfl) (by simp) (AllReadyH.cons (o := { dst := some 37, op := Op.call { callee := Callee.value (Operand.func 18), args := #[(.tmp 36)], argTypes := #[47] }, type := _, pos := _, after := _, guard := _ }) rfl (fun K hK => ?_) AllReadyH.nil)
    go_simp
    with_reducible refine (HNx.out _ ((Kp.refl _ _).drew)).mono ?_
    rintro e w' ⟨rfl, rfl⟩
    go_wp2_with fail
    refine hK.out _ _ hHeld (fun _ => ?_)
    clear hK
    try simp only [Act.put, List.setIfInBounds_toArray, List.set_cons_zero, List.set_cons_succ]
    refine wpAnyH_ready (rs := [14]) (by kernel_rfl) (by simp) (AllReadyH.cons (o := { dst := some 38, op := Op.call { callee := Callee.value (Operand.func 30), args := #[(.tmp 26), (.tmp 33), (.tmp 37)], argTypes := #[49, 3, 3] }, type := _, pos := _, after := _, guard := _ }) rfl (fun K hK => ?_) AllReadyH.nil)
    go_simp
    with_reducible refine (HBd.out _ ((Kp.refl _ _).drew)).mono ?_
    rintro e w' ⟨rfl, hkr, hq⟩
    go_wp2_with fail
    have hx9 := ((hkr.cell (p := ⟨b, off + k * 4, none⟩) (Nat.lt_of_lt_of_le hb (Nat.le_refl _)) (fun e => by dsimp only at e; omega)).trans e0)
    refine hK.out _ _ hx9 (fun _ => ?_)
    clear hK hHeld
    have hHeld := hx9
    clear hx9
    clear hkr
    generalize w' = wd14 at *
    try simp only [Act.put, List.setIfInBounds_toArray, List.set_cons_zero, List.set_cons_succ]
    refine wpAnyH_done (by kernel_rfl) ?_ _
    have Hq := Lib.hid hq
    clear hq hHeld
    go_wp2_with fail
    go_ret
    exact ⟨A', rfl, Hq.out⟩
  · obtain rfl : N = 0 := by omega
    have Hq : Hid (TellLeft w F L p tc cs v (lateS s now) (.slice A' T T) (frsK g) w3) := Lib.hid (HEnd.out _ cs2 (Kp.refl _ _) (by
      have hr : lateQ g s.q s.next = s.q := by
        unfold lateQ
        split
        · rw [if_neg (by rw [HN.out]; omega)]
        · rfl
      rw [HH.out, hr]
      exact Hp3.out) (fun _ _ => rfl))
    clear hN0
    go_wp2_with fail
    go_ret
    exact ⟨A', rfl, Hq.out⟩
end Go.Proofs.Ytoiakdddghbdnaa
