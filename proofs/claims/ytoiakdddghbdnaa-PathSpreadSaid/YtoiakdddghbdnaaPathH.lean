/-
  Package path: Heard. (regions printed by src/gen_XPathH.py)
-/
import Derived.Test.YtoiakdddghbdnaaPathS
namespace Go.Proofs.Ytoiakdddghbdnaa
open Go.RowKit

/-- Packets left the ledger; their frames are told in a row. -/
theorem part_end {w w' : World} {F L : Nat → Prop} {p : Nat} {tc : TypeId} {cs cs' : Array Value} {v vo : Value} {s s' : PS} (h : HasP w F L p tc cs v s) (hk : Kp (fun k => k = p) w w') (hi : PIn w' p tc cs' vo s') (hsub : ∀ z ∈ s'.zs, z ∈ s.zs)
    (hvo : ∀ k, vo.ownBlock = some k → w.heap.size ≤ k) (hrest : ∀ i, 11 ≤ i → cs'[i]? = cs[i]?) {row : Value} {l : List Fr} (hrow : Src w' 9 row l.length (encs encF l)) (hl : ∀ f ∈ l, ∃ z ∈ s.zs, f ∈ z.l)
    (hrb : ∀ k, row.ownBlock = some k → (w.heap.size ≤ k ∧ k < w'.heap.size) ∧ vo.ownBlock ≠ some k) :
    ∃ F', HasP w' F' L p tc cs' vo s' ∧ Stp w F p cs v w' F' cs' vo ∧ FrsR w' F' row l := by
  have hpl := h.inn.led.cell.lt
  have hpF : ∀ k, F k → k ≠ p := fun k e e' => h.pF.1 (e' ▸ e)
  refine ⟨fun k => F k ∨ ((w.heap.size ≤ k ∧ k < w'.heap.size) ∧ vo.ownBlock ≠ some k), ⟨hi, ⟨fun e => ?_, h.pF.2⟩, fun k hk => ⟨fun e => ?_, fun e => ?_⟩, fun y hy => ?_, fun k e => ?_, fun k e e' => ?_⟩, ⟨hrest, fun k e => .inl e, fun k e => e.imp id (fun e => e.1.1), hk.mono (fun k _ e => .inl e), .inr hvo⟩, hrow, fun k e => .inr (hrb k e), fun f hf => ?_⟩
  · rcases e with e | e
    · exact h.pF.1 e
    · omega
  · rcases e with e | e
    · have := h.old k (.inl e); have := hvo k hk; omega
    · exact e.2 hk
  · have := h.old k (.inr e); have := hvo k hk; omega
  · exact ((h.con y (hsub y hy)).kp hk hpF).sup (fun k e => .inl e)
  · have := hk.size
    rcases e with (e | e) | e
    · have := h.old k (.inl e); omega
    · exact e.1.2
    · have := h.old k (.inr e); omega
  · rcases e with e | e
    · exact h.dis k e e'
    · have := h.old k (.inr e'); omega
  · obtain ⟨z, hz, hfz⟩ := hl f hf
    exact (((h.con z hz).each f hfz).kp hk hpF).sup (fun k e => .inl e)
theorem frsK_mem {zs : List Pk} {f : Fr} (h : f ∈ frsK zs) : ∃ z ∈ zs, f ∈ z.l := List.mem_flatMap.1 h

/-- A sample of the last one that was acknowledged. -/
def heardR (g : List Pk) (r : R4) (tp now : Int) : R4 := match g.getLast? with
  | some z => if 0 < cntK g ∧ z.n = tp - 1 then r.sample (now - z.a) else r
  | none => r
/-- Heard that packets came. -/
def heardS (s : PS) (rs : List Pr) (now : Int) : PS :=
  ⟨heardR (s.zs.filter (hitK rs)) s.r (topR s.top rs) now, s.q.good (cntK (s.zs.filter (hitK rs))), s.zs.filter fun z => !hitK rs z, s.next, topR s.top rs⟩

/-- What a Heard, a Late, a Probe leaves: the path's state; the frames that are told. -/
def TellLeft (w : World) (F L : Nat → Prop) (p : Nat) (tc : TypeId) (cs : Array Value) (v : Value) (s' : PS) (row : Value) (l : List Fr) (w' : World) : Prop :=
  ∃ F' cs' v', HasP w' F' L p tc cs' v' s' ∧ Stp w F p cs v w' F' cs' v' ∧ FrsR w' F' row l

set_option maxRecDepth 100000 in
set_option maxHeartbeats 1000000 in
theorem p_heard_bad {w : World} {p : Nat} {tc : TypeId} {cs : Array Value} {v : Value} {s : PS} (h : PIn w p tc cs v s) {A : Option Addr} {c : Nat} {rs : List Pr} (hx : Src w 2 (.slice A rs.length c) rs.length (encs encP rs)) (hlen : rs.length ≤ 2199023255552) (hbad : rs.any (overP s.next) = true) (now : Int) :
    Calls Try.prog 11 #[.pointer (some ⟨p, 0, none⟩), .slice A rs.length c, .int .i64 now] w fun e w' => e = .returned (.tuple #[.slice none 0 0, .int .i64 2]) ∧ Kp (fun _ => False) w w' := by
  have HA := Lib.hid (l_ack_bad h.led hx hlen hbad)
  have hpl := h.led.cell.lt
  clear h hx hbad
  generalize rs.length = m at *
  go_enter Try.func11, Try.ntmps11
  go_wp2_with fail
  with_reducible refine (HA.out).mono ?_
  rintro e w1 ⟨rfl, hk⟩
  have Hk := Lib.hid hk
  clear hk
  go_wp2_with fail
  go_ret2
  exact ⟨rfl, Hk.out⟩

theorem topR_bounds {next : Int} : ∀ (rs : List Pr) (top : Int), (∀ r ∈ rs, r.2 < next) → 0 ≤ top → top ≤ next → 0 ≤ topR top rs ∧ topR top rs ≤ next
  | [], top, _, h0, h1 => ⟨h0, h1⟩
  | r :: rs, top, h, h0, h1 => by
    have hr := h r (by simp)
    unfold topR
    rw [List.foldl_cons]
    exact topR_bounds rs _ (fun x hx => h x (by simp [hx])) (by split <;> omega) (by split <;> omega)

set_option maxRecDepth 100000 in
set_option maxHeartbeats 4000000 in
theorem p_heard {w : World} {F L : Nat → Prop} {p : Nat} {tc : TypeId} {cs : Array Value} {v : Value} {s : PS} (h : HasP w F L p tc cs v s) {A : Option Addr} {c : Nat} {rs : List Pr} (hx : Src w 2 (.slice A rs.length c) rs.length (encs encP rs)) (hf : ∀ k, (Value.slice A rs.length c).ownBlock = some k → k ≠ p)
    (hlen : rs.length ≤ 2199023255552) (hok : rs.any (overP s.next) = false) (now : Int) (hnow : 0 ≤ now ∧ now ≤ 4611686018427387904) (hat : ∀ z ∈ s.zs, 0 ≤ z.a ∧ z.a ≤ 4611686018427387904) (hn : s.next ≤ 4611686018427387904) (h0 : 0 ≤ s.top) (h1 : s.top ≤ s.next) (hzl : s.zs.length ≤ 2199023255552) (hfl : (frsK (s.zs.filter (hitK rs))).length ≤ 2165000000000) :
    Calls Try.prog 11 #[.pointer (some ⟨p, 0, none⟩), .slice A rs.length c, .int .i64 now] w fun e w' => ∃ A', e = .returned (.tuple #[.slice A' (frsK (s.zs.filter (hitK rs))).length (frsK (s.zs.filter (hitK rs))).length, .int .i64 0]) ∧
      TellLeft w F L p tc cs v (heardS s rs now) (.slice A' (frsK (s.zs.filter (hitK rs))).length (frsK (s.zs.filter (hitK rs))).length) (frsK (s.zs.filter (hitK rs))) w' := by
  have HA := Lib.hid (l_ack h.inn.led hx hf hlen hok (by omega) h0 (by omega) hzl)
  have hrb : ∀ r ∈ rs, r.2 < s.next := fun r hr => by
    have := List.any_eq_false.1 hok r hr
    simp [overP] at this
    exact this
  obtain ⟨ht0, ht1⟩ := topR_bounds rs s.top hrb h0 h1
  have hpl := h.inn.led.cell.lt
  obtain ⟨g, hg⟩ : ∃ g, g = s.zs.filter (hitK rs) := ⟨_, rfl⟩
  have hheard : heardS s rs now = ⟨heardR g s.r (topR s.top rs) now, s.q.good (cntK g), s.zs.filter fun z => !hitK rs z, s.next, topR s.top rs⟩ := by rw [hg]; rfl
  have hgz : ∀ z ∈ g, z ∈ s.zs := fun z hz => (List.mem_filter.1 (hg ▸ hz)).1
  have hgl : g.length ≤ s.zs.length := by rw [hg]; exact List.length_filter_le _ _
  rw [← hg] at hfl ⊢
  have HG := Lib.hid hg
  have HH := Lib.hid hheard
  have H := Lib.hid h
  have Hgz := Lib.hid hgz
  have Hat := Lib.hid hat
  have Hf := Lib.hid hf
  clear h hx hf hok hrb hg hheard hgz hat
  generalize rs.length = m at *
  obtain ⟨T, hT⟩ : ∃ T, T = (frsK g).length := ⟨_, rfl⟩
  rw [← hT] at hfl ⊢
  have HT := Lib.hid hT
  clear hT
  generalize htp : topR s.top rs = tp at *
  have Htp := Lib.hid htp
  clear htp
  go_enter Try.func11, Try.ntmps11
  go_wp2_with fail
  with_reducible refine (HA.out).mono ?_
  rintro e w2 ⟨r, W1, cs1, rfl, hag1, hk1, hp⟩
  unfold Parted at hp
  rw [← HG.out] at hp
  obtain ⟨Ar, vo, cs2, rfl, hrow, hl2, hag2, hk2, hvo, hap⟩ := hp
  have hkw : Kp (fun k => k = p) w w2 := hk1.trans hk2
  have hpF : ∀ k, F k → k ≠ p := fun k e e' => H.out.pF.1 (e' ▸ e)
  obtain ⟨n, hn'⟩ : ∃ n, n = g.length := ⟨_, rfl⟩
  have HFr := Lib.hid (frames_any (F := F) (hrow.src (encK_one _)) (fun z hz => (H.out.con z (Hgz.out z hz)).kp hkw hpF) (by omega) (by rw [← HT.out]; exact hfl))
  have hpin := H.out.inn.led' hl2 (hag1.trans hag2)
  replace hrow := hrow.base hk1.size
  rw [← hn'] at hrow HFr
  have Hrow := Lib.hid hrow
  have Hpin := Lib.hid hpin
  have Hkw := Lib.hid hkw
  have Hvo : Hid (∀ k, vo.ownBlock = some k → w.heap.size ≤ k) := Lib.hid (fun k hk => Nat.le_trans hk1.size (hvo k hk))
  have Hvl : Hid (∀ k, vo.ownBlock = some k → k < w2.heap.size) := Lib.hid (fun k hk => (hl2.row.lt k hk).2)
  have Hrest : Hid (∀ i, 11 ≤ i → cs2[i]? = cs[i]?) := Lib.hid (fun i hi => (hag1.trans hag2) i (by omega))
  rw [← hn']
  have Hn := Lib.hid hn'
  clear hn' hag1 hk1 hrow hl2 hag2 hk2 hvo hap hkw hpF hpin
  generalize hN : cntK g = N at *
  have HN := Lib.hid hN
  clear hN
  rw [← HT.out] at HFr
  go_wp2_with fail
  with_reducible refine (HFr.out).mono ?_
  rintro e w3 ⟨A', rfl, hfr, hk3⟩
  have hpin3 := Hpin.out.no hk3
  have HGd := Lib.hid (good_any p 7 s.q (N : Int) w3 hpin3.isW H.out.inn.qI (by have := List.length_filter_le (fun z : Pk => z.el) g; have h2 := HN.out; unfold cntK at h2; omega) (by omega))
  obtain ⟨cs3, hpw, hr3⟩ := hpin3.setW (s.q.good N) (W4.good_inv H.out.inn.qI N)
  have Hfr := Lib.hid hfr
  have Hk3 := Lib.hid hk3
  have Hpw := Lib.hid hpw
  have Hr3 := Lib.hid hr3
  have Hrow3 := Lib.hid (Hrow.out.kp hk3 (fun _ _ h => h))
  clear hfr hk3 hpin3 hpw hr3
  rw [Int.toNat_natCast] at HGd
  go_wp2_with fail
  with_reducible refine (HGd.out).mono ?_
  rintro e w4 ⟨rfl, hd4⟩
  have hk4 : Kp (fun k => k = p) w3 w4 := (setW_kp w3 p _).trans (Dr.kp hd4).no
  have Hp4 : Hid (PIn w4 p tc cs3 vo _) := Lib.hid (Hpw.out.no (Dr.kp hd4))
  have Hrow4 := Lib.hid (Hrow3.out.kp hk4 (fun k hk e => by have := (Hrow.out.lt k hk).1; omega))
  have Hkz : Hid (Kp (fun k => k = p) w w4) := Lib.hid ((Hkw.out.trans Hk3.out.no).trans hk4)
  have Hfr4 : Hid (RowAt w4 w2.heap.size 9 (.slice A' T T) T (encs encF (frsK g))) := Lib.hid (Hfr.out.kp hk4 (fun k hk e => by have := (Hfr.out.lt k hk).1; have := Hkw.out.size; omega))
  -- what is left, once the round trips' part is known
  have HEnd : Hid (∀ w5 cs5, Kp (fun k => k = p) w4 w5 → PIn w5 p tc cs5 vo (heardS s rs now) → (∀ i, 11 ≤ i → cs5[i]? = cs3[i]?) → TellLeft w F L p tc cs v (heardS s rs now) (.slice A' T T) (frsK g) w5) := Lib.hid (fun w5 cs5 hk5 hi hr => by
    have hs2 := Hkw.out.size
    have hs3 := Hk3.out.size
    have hs4 := hk4.size
    have hs5 := hk5.size
    have hrow5 := Hfr4.out.kp hk5 (fun k hk e => by have := (Hfr4.out.lt k hk).1; omega)
    obtain ⟨F', h1, h2, h3⟩ := part_end H.out (Hkz.out.trans hk5) hi (fun z hz => by rw [HH.out] at hz; exact (List.mem_filter.1 hz).1) Hvo.out (fun i hi => (hr i hi).trans ((Hr3.out i hi).trans (Hrest.out i hi))) (row := .slice A' T T) (l := frsK g) (by rw [← HT.out]; exact hrow5.src (encF_one _)) (fun f hf => by obtain ⟨z, hz, hzf⟩ := frsK_mem hf; exact ⟨z, Hgz.out z hz, hzf⟩)
      (fun k hk => ⟨by have := hrow5.lt k hk; omega, fun e => by have := Hvl.out k e; have := (hrow5.lt k hk).1; omega⟩)
    exact ⟨F', cs5, vo, h1, h2, h3⟩)
  clear Hfr HFr HGd Hpw Hrow3 hd4
  by_cases hN0 : 0 < N
  · obtain ⟨k, rfl⟩ : ∃ k, n = k + 1 := ⟨n - 1, by have := List.length_filter_le (fun z : Pk => z.el) g; have h2 := HN.out; unfold cntK at h2; have := Hn.out; omega⟩
    obtain ⟨z, hz⟩ : ∃ z, g[k]? = some z := ⟨_, List.getElem?_eq_getElem (by rw [← Hn.out]; omega)⟩
    obtain ⟨b, off, c', hv, hbl, hb, _, _, _, hcell⟩ := Hrow4.out.full (by omega)
    cases hv
    have e0 := hcell (k * 4) _ (kk0 hz)
    have e1 := hcell (k * 4 + 1) _ (kk1 hz)
    have e2 := hcell (k * 4 + 2) _ (kk2 hz)
    have e3 := hcell (k * 4 + 3) _ (kk3 hz)
    rw [← Nat.add_assoc] at e1 e2 e3
    have hzat := Hat.out z (Hgz.out z (List.mem_of_getElem? hz))
    have HL : Hid (heardR g s.r tp now = if z.n = tp - 1 then s.r.sample (now - z.a) else s.r) := Lib.hid (by
      unfold heardR
      rw [List.getLast?_eq_getElem?, ← Hn.out, show k + 1 - 1 = k by omega, hz]
      dsimp only
      rw [HN.out]
      by_cases e : z.n = tp - 1
      · rw [if_pos ⟨hN0, e⟩, if_pos e]
      · rw [if_neg (fun x => e x.2), if_neg e])
    clear hcell hz
    obtain ⟨z1, z2, z3, zA, zc, zl⟩ := z
    dsimp only at e0 e1 e2 e3 hzat HL
    obtain ⟨q, hq⟩ : ∃ q, q = zl.length := ⟨_, rfl⟩
    rw [← hq] at e3
    clear hq
    have hN1 : (0 : Int) < (N : Int) := by omega
    have hkb : k + 1 ≤ 2199023255552 := by have := Hn.out; omega
    go_wp2_with fail
    have hxw : Whole (w4.alloc (.cells #[.int .i64 z1, .int .i64 z2, .bool z3, .slice zA q zc] 66)) w4.heap.size 66 #[.int .i64 z1, .int .i64 z2, .bool z3, .slice zA q zc] := Whole.new _ _ _
    have hka : Kp (fun _ => False) w4 (w4.alloc (.cells #[.int .i64 z1, .int .i64 z2, .bool z3, .slice zA q zc] 66)) := (Kp.refl _ w4).alloc _
    have hp4l := Hp4.out.led.cell.lt
    have hpx : p ≠ w4.heap.size := by omega
    generalize w4.heap.size = bx at *
    generalize w4.alloc (.cells #[.int .i64 z1, .int .i64 z2, .bool z3, .slice zA q zc] 66) = w6 at *
    have x0 := hxw.cell 0
    have x1 := hxw.cell 1
    have hxl := hxw.lt
    simp at x0 x1
    have HAc : Hid (∀ w', Kp (fun _ => False) w6 w' → Calls Try.prog 17 #[.pointer (some ⟨p, 4, none⟩)] w' fun e w2 => e = .returned (.int .i64 (tp - 1)) ∧ w' = w2) := Lib.hid (fun w' hk => l_acked (Hp4.out.no (hka.trans hk)).led (by exact ht0) (by show tp ≤ _; omega))
    have Hka := Lib.hid hka
    have Hxw := Lib.hid hxw
    clear hka hxw e0 e1 e2 e3
    refine wp_region_held_drew (S := (fun w' => w'.cell? ⟨bx, 0, none⟩ = some (.int .i64 z1) ∧ Kp (fun _ => False) w6 w')) (by kernel_rfl) ⟨x0, (Kp.refl _ _).drew⟩ (fun hHeld => ?_)
    refine wpAnyH_take (i := 0) (oi := { dst := some 41, op := Op.fieldAddr 66 (.tmp 11) 0, type := _, pos := _, after := _, guard := _ }) (v := ?_) rfl (by kernel_rfl) (by kernel_rfl) (by kernel_rfl) (fun _ _ _ h => h) (Or.inl ⟨by rfl, ?_⟩) hHeld ?_
    rotate_left
    · intro w99 hSw
      first | (go_simp; done) | (go_simp; with_reducible rfl)
    try simp only [Act.put, List.setIfInBounds_toArray, List.set_cons_zero, List.set_cons_succ]
    refine wpAnyH_take (i := 1) (oi := { dst := some 42, op := Op.load 3 (.tmp 41), type := _, pos := _, after := _, guard := _ }) (v := ?_) rfl (by kernel_rfl) (by kernel_rfl) (by kernel_rfl) (fun _ _ _ h => h) (Or.inl ⟨by rfl, ?_⟩) hHeld ?_
    rotate_left
    · intro w99 hSw
      have x0 := hSw.1; first | (go_simp; done) | (go_simp; with_reducible rfl)
    try simp only [Act.put, List.setIfInBounds_toArray, List.set_cons_zero, List.set_cons_succ]
    refine wpAnyH_take (i := 2) (oi := { dst := some 43, op := Op.move (.tmp 0), type := _, pos := _, after := _, guard := _ }) (v := ?_) rfl (by kernel_rfl) (by kernel_rfl) (by kernel_rfl) (fun _ _ _ h => h) (Or.inl ⟨by rfl, ?_⟩) hHeld ?_
    rotate_left
    · intro w99 hSw
      first | (go_simp; done) | (go_simp; with_reducible rfl)
    try simp only [Act.put, List.setIfInBounds_toArray, List.set_cons_zero, List.set_cons_succ]
    refine wpAnyH_take (i := 3) (oi := { dst := some 44, op := Op.nilCheck (.tmp 43), type := _, pos := _, after := _, guard := _ }) (v := ?_) rfl (by kernel_rfl) (by kernel_rfl) (by kernel_rfl) (fun _ _ _ h => h) (Or.inl ⟨by rfl, ?_⟩) hHeld ?_
    rotate_left
    · intro w99 hSw
      first | (go_simp; done) | (go_simp; with_reducible rfl)
    try simp only [Act.put, List.setIfInBounds_toArray, List.set_cons_zero, List.set_cons_succ]
    refine wpAnyH_take (i := 4) (oi := { dst := some 45, op := Op.fieldAddr 51 (.tmp 44) 1, type := _, pos := _, after := _, guard := _ }) (v := ?_) rfl (by kernel_rfl) (by kernel_rfl) (by kernel_rfl) (fun _ _ _ h => h) (Or.inl ⟨by rfl, ?_⟩) hHeld ?_
    rotate_left
    · intro w99 hSw
      first | (go_simp; done) | (go_simp; with_reducible rfl)
    try simp only [Act.put, List.setIfInBounds_toArray, List.set_cons_zero, List.set_cons_succ]
    refine wpAnyH_ready (rs := [5]) (by kernel_rfl) (by simp) (AllReadyH.cons (o := { dst := some 46, op := Op.call { callee := Callee.value (Operand.func 17), args := #[(.tmp 45)], argTypes := #[47] }, type := _, pos := _, after := _, guard := _ }) rfl (fun K hK => ?_) AllReadyH.nil)
    go_simp
    with_reducible refine (HAc.out _ hHeld.2).mono ?_
    rintro e w' ⟨rfl, rfl⟩
    go_wp2_with fail
    refine hK.out _ _ hHeld (fun _ => ?_)
    clear hK
    try simp only [Act.put, List.setIfInBounds_toArray, List.set_cons_zero, List.set_cons_succ]
    refine wpAnyH_take (i := 6) (oi := { dst := some 47, op := Op.binOp BinOp.eql 3 (.tmp 42) (.tmp 46) 3, type := _, pos := _, after := _, guard := _ }) (v := ?_) rfl (by kernel_rfl) (by kernel_rfl) (by kernel_rfl) (fun _ _ _ h => h) (Or.inl ⟨by rfl, ?_⟩) hHeld ?_
    rotate_left
    · intro w99 hSw
      first | (go_simp; done) | (go_simp; with_reducible rfl)
    try simp only [Act.put, List.setIfInBounds_toArray, List.set_cons_zero, List.set_cons_succ]
    refine wpAnyH_done (by kernel_rfl) ?_ _
    clear hHeld
    have hp6 : PIn w6.drew p tc cs3 vo _ := Hp4.out.no (Hka.out.drew)
    have hs6 : w4.heap.size ≤ w6.heap.size := Hka.out.size
    by_cases he : z1 = tp - 1
    · have hb : (z1 == tp - 1) = true := by simp [he]
      rw [if_pos he] at HL
      obtain ⟨cs5, hp7, hr7⟩ := hp6.setR (s.r.sample (now - z2)) (R4.sample_inv H.out.inn.rI _).1
      have HS : Hid (∀ w', Kp (fun _ => False) w6.drew w' → Calls Try.prog 27 #[.pointer (some ⟨p, 0, none⟩), .int .i64 (now - z2)] w' fun e w2 => e = .returned (.tuple #[]) ∧ Kp (fun k => k = p) w' w2 ∧ TellLeft w F L p tc cs v (heardS s rs now) (.slice A' T T) (frsK g) w2) := Lib.hid (fun w' hk => by
        obtain ⟨cs5, hp7, hr7⟩ := (hp6.no hk).setR (s.r.sample (now - z2)) (R4.sample_inv H.out.inn.rI _).1
        refine (sample_any (hp6.no hk).isR H.out.inn.rI (now - z2)).mono ?_
        rintro e w2 ⟨rfl, hd⟩
        have hkr : Kp (fun k => k = p) w' w2 := (setR_kp w' p _).trans (Dr.kp hd).no
        refine ⟨rfl, hkr, HEnd.out w2 cs5 ((Hka.out.drew.trans hk).no.trans hkr) ?_ hr7⟩
        have := hp7.no (Dr.kp hd)
        rw [HH.out, HL.out]
        exact this)
      have hwr : IntKind.i64.wrap (now - z2) = now - z2 := IntWalk.i64_in _ (by omega)
      clear hp7 hr7 hp6 HL
      have x1' : World.cell? w6.drew ⟨bx, 1, none⟩ = some (.int .i64 z2) := x1
      have hxl' : bx < w6.drew.heap.size := hxl
      have hpl' : p < w6.drew.heap.size := by show p < w6.heap.size; omega
      generalize w6.drew = w7 at *
      go_wp2_with fail
      refine wp_region_held_drew (S := (fun w' => w'.cell? ⟨bx, 1, none⟩ = some (.int .i64 z2))) (by kernel_rfl) x1' (fun hHeld => ?_)
      refine wpAnyH_take (i := 0) (oi := { dst := some 48, op := Op.move (.tmp 0), type := _, pos := _, after := _, guard := _ }) (v := ?_) rfl (by kernel_rfl) (by kernel_rfl) (by kernel_rfl) (fun _ _ _ h => h) (Or.inl ⟨by rfl, ?_⟩) hHeld ?_
      rotate_left
      · intro w99 hSw
        first | (go_simp; done) | (go_simp; with_reducible rfl)
      try simp only [Act.put, List.setIfInBounds_toArray, List.set_cons_zero, List.set_cons_succ]
      refine wpAnyH_take (i := 1) (oi := { dst := some 49, op := Op.nilCheck (.tmp 48), type := _, pos := _, after := _, guard := _ }) (v := ?_) rfl (by kernel_rfl) (by kernel_rfl) (by kernel_rfl) (fun _ _ _ h => h) (Or.inl ⟨by rfl, ?_⟩) hHeld ?_
      rotate_left
      · intro w99 hSw
        first | (go_simp; done) | (go_simp; with_reducible rfl)
      try simp only [Act.put, List.setIfInBounds_toArray, List.set_cons_zero, List.set_cons_succ]
      refine wpAnyH_take (i := 2) (oi := { dst := some 50, op := Op.fieldAddr 51 (.tmp 49) 0, type := _, pos := _, after := _, guard := _ }) (v := ?_) rfl (by kernel_rfl) (by kernel_rfl) (by kernel_rfl) (fun _ _ _ h => h) (Or.inl ⟨by rfl, ?_⟩) hHeld ?_
      rotate_left
      · intro w99 hSw
        first | (go_simp; done) | (go_simp; with_reducible rfl)
      try simp only [Act.put, List.setIfInBounds_toArray, List.set_cons_zero, List.set_cons_succ]
      refine wpAnyH_take (i := 3) (oi := { dst := some 51, op := Op.move (.tmp 2), type := _, pos := _, after := _, guard := _ }) (v := ?_) rfl (by kernel_rfl) (by kernel_rfl) (by kernel_rfl) (fun _ _ _ h => h) (Or.inl ⟨by rfl, ?_⟩) hHeld ?_
      rotate_left
      · intro w99 hSw
        first | (go_simp; done) | (go_simp; with_reducible rfl)
      try simp only [Act.put, List.setIfInBounds_toArray, List.set_cons_zero, List.set_cons_succ]
      refine wpAnyH_take (i := 4) (oi := { dst := some 52, op := Op.fieldAddr 66 (.tmp 11) 1, type := _, pos := _, after := _, guard := _ }) (v := ?_) rfl (by kernel_rfl) (by kernel_rfl) (by kernel_rfl) (fun _ _ _ h => h) (Or.inl ⟨by rfl, ?_⟩) hHeld ?_
      rotate_left
      · intro w99 hSw
        first | (go_simp; done) | (go_simp; with_reducible rfl)
      try simp only [Act.put, List.setIfInBounds_toArray, List.set_cons_zero, List.set_cons_succ]
      refine wpAnyH_take (i := 5) (oi := { dst := some 53, op := Op.load 3 (.tmp 52), type := _, pos := _, after := _, guard := _ }) (v := ?_) rfl (by kernel_rfl) (by kernel_rfl) (by kernel_rfl) (fun _ _ _ h => h) (Or.inl ⟨by rfl, ?_⟩) hHeld ?_
      rotate_left
      · intro w99 hSw
        have x1 := hSw; first | (go_simp; done) | (go_simp; with_reducible rfl)
      try simp only [Act.put, List.setIfInBounds_toArray, List.set_cons_zero, List.set_cons_succ]
      refine wpAnyH_take (i := 6) (oi := { dst := some 54, op := Op.binOp BinOp.sub 3 (.tmp 51) (.tmp 53) 3, type := _, pos := _, after := _, guard := _ }) (v := ?_) rfl (by kernel_rfl) (by kernel_rfl) (by kernel_rfl) (fun _ _ _ h => h) (Or.inl ⟨by rfl, ?_⟩) hHeld ?_
      rotate_left
      · intro w99 hSw
        first | (go_simp; done) | (go_simp; with_reducible rfl)
      try simp only [Act.put, List.setIfInBounds_toArray, List.set_cons_zero, List.set_cons_succ]
      refine wpAnyH_ready (rs := [7]) (by kernel_rfl) (by simp) (AllReadyH.cons (o := { dst := some 55, op := Op.call { callee := Callee.value (Operand.func 27), args := #[(.tmp 50), (.tmp 54)], argTypes := #[44, 3] }, type := _, pos := _, after := _, guard := _ }) rfl (fun K hK => ?_) AllReadyH.nil)
      go_simp
      with_reducible refine (HS.out _ ((Kp.refl _ _).drew)).mono ?_
      rintro e w' ⟨rfl, hkr, hq⟩
      go_wp2_with fail
      have hx9 := ((hkr.cell (p := ⟨bx, 1, none⟩) hxl' (fun e => hpx e.symm)).trans x1')
      refine hK.out _ _ hx9 (fun _ => ?_)
      clear hK hHeld
      have hHeld := hx9
      clear hx9
      clear hkr
      generalize w' = wd7 at *
      try simp only [Act.put, List.setIfInBounds_toArray, List.set_cons_zero, List.set_cons_succ]
      refine wpAnyH_done (by kernel_rfl) ?_ _
      have Hq := Lib.hid hq
      clear hq hHeld
      go_wp2_with fail
      go_ret2
      exact ⟨A', rfl, Hq.out⟩
    · have hb : (z1 == tp - 1) = false := by simp [he]
      rw [if_neg he] at HL
      have Hq : Hid (TellLeft w F L p tc cs v (heardS s rs now) (.slice A' T T) (frsK g) w6.drew) := Lib.hid (HEnd.out _ cs3 Hka.out.drew.no (by rw [HH.out, HL.out]; exact hp6) (fun _ _ => rfl))
      clear hp6
      go_wp2_with fail
      go_ret2
      exact ⟨A', rfl, Hq.out⟩
  · obtain rfl : N = 0 := by omega
    have Hq : Hid (TellLeft w F L p tc cs v (heardS s rs now) (.slice A' T T) (frsK g) w4) := Lib.hid (HEnd.out _ cs3 (Kp.refl _ _) (by
      have hr : heardR g s.r tp now = s.r := by
        unfold heardR
        split
        · rw [if_neg (by rw [HN.out]; omega)]
        · rfl
      rw [HH.out, hr]
      exact Hp4.out) (fun _ _ => rfl))
    clear hN0
    go_wp2_with fail
    go_ret2
    exact ⟨A', rfl, Hq.out⟩
end Go.Proofs.Ytoiakdddghbdnaa
