/-
  argosylaw11.PathKnown: the walk.
-/
import Derived.Test.YtoiakdddghbdnaaPaA
namespace Go.Proofs.Ytoiakdddghbdnaa
open Go.RowKit

abbrev ackF (b : Nat) : Fr := ⟨⟨2, 0, 0, 0, 0, 0, false⟩, none, 0, some ⟨b, 0, none⟩, 1, [], [(0, 0)]⟩
abbrev ackC (b : Nat) : Array Value := #[.int .i64 2, .int .i64 0, .int .i64 0, .int .i64 0, .int .i64 0, .int .i64 0, .bool false, .slice none 0 0, .slice (some ⟨b, 0, none⟩) 1 1]
abbrev gotF : Fr := ⟨⟨10, 4, 0, 0, 0, 0, false⟩, none, 0, none, 0, [], []⟩

theorem reads_ack {w : World} {F : Nat → Prop} {b : Nat} (hw : Whole w b 37 #[.int .i64 0, .int .i64 0]) (hb : F b) : Reads w F (ackF b) :=
  ⟨Bs.nil w, srcW [.int .i64 0, .int .i64 0] hw rfl (fun u hu => by simp at hu; rcases hu with rfl | rfl <;> rfl), fun k hk => (by cases hk), fun k hk => (by have : b = k := Option.some.inj hk; exact this ▸ hb)⟩
/-- The boxes of the law: a Ping, an Ack, its runs. -/
structure Bx (w : World) (F : Nat → Prop) (b : Nat) : Prop where
  ping : Whole w b 31 (bareC 1)
  runs : Whole w (b + 1) 37 #[.int .i64 0, .int .i64 0]
  ack : Whole w (b + 1 + 1) 31 (ackC (b + 1))
  fp : F b
  fr : F (b + 1)
  fa : F (b + 1 + 1)
theorem Bx.aft {w w' : World} {F L F' : Nat → Prop} {b : Nat} (h : Bx w F b) (k : Aft w F L w' F') : Bx w' F' b :=
  ⟨k.whole h.ping (.inl h.fp), k.whole h.runs (.inl h.fr), k.whole h.ack (.inl h.fa), k.sup _ h.fp, k.sup _ h.fr, k.sup _ h.fa⟩
theorem Bx.no {w w' : World} {F : Nat → Prop} {b : Nat} (h : Bx w F b) (k : Kp (fun _ => False) w w') : Bx w' F b :=
  ⟨k.whole h.ping (fun h => h), k.whole h.runs (fun h => h), k.whole h.ack (fun h => h), h.fp, h.fr, h.fa⟩
theorem Bx.cells {w : World} {F : Nat → Prop} {b : Nat} (h : Bx w F b) : (w.cell? ⟨b, 0, none⟩ = some (.int .i64 1) ∧ w.cell? ⟨b, 1, none⟩ = some (.int .i64 0) ∧ w.cell? ⟨b, 2, none⟩ = some (.int .i64 0) ∧ w.cell? ⟨b, 3, none⟩ = some (.int .i64 0) ∧ w.cell? ⟨b, 4, none⟩ = some (.int .i64 0) ∧ w.cell? ⟨b, 5, none⟩ = some (.int .i64 0) ∧ w.cell? ⟨b, 6, none⟩ = some (.bool false) ∧ w.cell? ⟨b, 7, none⟩ = some (.slice none 0 0) ∧ w.cell? ⟨b, 8, none⟩ = some (.slice none 0 0)) ∧ b < w.heap.size :=
  ⟨⟨h.ping.cell 0, h.ping.cell 1, h.ping.cell 2, h.ping.cell 3, h.ping.cell 4, h.ping.cell 5, h.ping.cell 6, h.ping.cell 7, h.ping.cell 8⟩, h.ping.lt⟩
theorem Bx.cella {w : World} {F : Nat → Prop} {b : Nat} (h : Bx w F b) : (w.cell? ⟨b + 1 + 1, 0, none⟩ = some (.int .i64 2) ∧ w.cell? ⟨b + 1 + 1, 1, none⟩ = some (.int .i64 0) ∧ w.cell? ⟨b + 1 + 1, 2, none⟩ = some (.int .i64 0) ∧ w.cell? ⟨b + 1 + 1, 3, none⟩ = some (.int .i64 0) ∧ w.cell? ⟨b + 1 + 1, 4, none⟩ = some (.int .i64 0) ∧ w.cell? ⟨b + 1 + 1, 5, none⟩ = some (.int .i64 0) ∧ w.cell? ⟨b + 1 + 1, 6, none⟩ = some (.bool false) ∧ w.cell? ⟨b + 1 + 1, 7, none⟩ = some (.slice none 0 0) ∧ w.cell? ⟨b + 1 + 1, 8, none⟩ = some (.slice (some ⟨b + 1, 0, none⟩) 1 1)) ∧ b + 1 + 1 < w.heap.size :=
  ⟨⟨h.ack.cell 0, h.ack.cell 1, h.ack.cell 2, h.ack.cell 3, h.ack.cell 4, h.ack.cell 5, h.ack.cell 6, h.ack.cell 7, h.ack.cell 8⟩, h.ack.lt⟩

/-- What a Send in this law leaves, in plain words. -/
def Sent1 (w : World) (F : Nat → Prop) (p b : Nat) (r : R4) (q : W4) (zs : List Pk) (next top now : Int) (el : Bool) (pus : List (Hd × List UInt8 × List Pr)) (w' : World) : Prop :=
  ∃ F' A c l, HasA w' F' (fun _ => False) p ⟨r, q, zs ++ [⟨next, now, el, A, c, l⟩], next + 1, top⟩ ∧ Bx w' F' b ∧ l.map Fr.pu = pus ∧ Aft w F (fun _ => False) w' F'

theorem k_send {w : World} {F : Nat → Prop} {p b : Nat} {r : R4} {q : W4} {zs : List Pk} {next top : Int} (h : HasA w F (fun _ => False) p ⟨r, q, zs, next, top⟩) (hb : Bx w F b) (now : Int) (fl : List Fr) (n : Nat) (hl : fl.length = n) (hr : ∀ f ∈ fl, Reads w F f) (hd : ∀ f ∈ fl, f.d.length ≤ 9 ∧ f.s.length ≤ 9) (hfl : n ≤ 9) (cs : Array Value) (hcs : cs = (encs encF fl).toArray) (el : Bool) (hel : fl.any elF = el) (hn : next ≤ 99) (hn0 : 0 ≤ next) (hz : zs.length ≤ 99) :
    Calls Try.prog 10 #[.pointer (some ⟨p, 0, none⟩), .int .i64 now, .slice (some ⟨w.heap.size, 0, none⟩) n n] (w.alloc (.cells cs 31)) fun e w' => e = .returned (.int .i64 next) ∧ Sent1 w F p b r q zs next top now el (fl.map Fr.pu) w' := by
  subst hl
  subst hcs
  have hk : Kp (fun _ => False) w (w.alloc (.cells (encs encF fl).toArray 31)) := (Kp.refl _ w).alloc _
  have hrow : FrsR (w.alloc (.cells (encs encF fl).toArray 31)) (fun k => F k ∨ k = w.heap.size) (.slice (some ⟨w.heap.size, 0, none⟩) fl.length fl.length) fl :=
    ⟨srcW _ (Whole.new _ _ _) (encs_len encF_len fl) (encF_one fl), fun k hk => (by have : w.heap.size = k := Option.some.inj hk; exact .inr this.symm), fun f hf => ((hr f hf).kp hk (fun _ _ h => h)).sup (fun k e => .inl e)⟩
  refine (a_send (h.lay _) now hrow (by omega) (fun f hf => by have := hd f hf; omega) (by dsimp only; omega) hn0 (by dsimp only; omega)).mono ?_
  rintro e w' ⟨rfl, F', z, h1, h2, h3, h4, h5, h6⟩
  obtain ⟨z1, z2, z3, zA, zc, zl⟩ := z
  dsimp only at h3 h4 h5 h6
  subst h3 h4 h5
  rw [hel] at h1
  have hA : Aft w F (fun _ => False) w' F' := ((Aft.refl w F _).lay (.cells (encs encF fl).toArray 31)).trans h2
  exact ⟨rfl, F', zA, zc, zl, h1, hb.aft hA, h6, hA⟩
theorem pu_two {l : List Fr} {f g : Fr} (h : l.map Fr.pu = [f.pu, g.pu]) : ∃ x y, l = [x, y] ∧ x.pu = f.pu ∧ y.pu = g.pu := by
  cases l with
  | nil => simp at h
  | cons x l =>
    cases l with
    | nil => simp at h
    | cons y l =>
      cases l with
      | nil => simp only [List.map_cons, List.map_nil, List.cons.injEq, and_true] at h; exact ⟨x, y, rfl, h.1, h.2⟩
      | cons a b => simp at h

set_option maxRecDepth 100000 in
set_option maxHeartbeats 4000000 in
theorem PathKnown_walk (w : World) : Calls Try.prog 4 #[] w fun e w' => e = .returned (.bool true) ∧ Below w.heap.size w w' := by
  have HN := Lib.hid (a_new w (fun k => k < w.heap.size) (fun _ => False) (fun k e => e.elim id (fun e => e.elim)) (fun _ _ e => e))
  go_enter Try.func4, Try.ntmps4
  go_wp2_with fail
  with_reducible refine (HN.out).mono ?_
  rintro e w1 ⟨p, rfl, hp1, hpw, hk1⟩
  have HK := Lib.hid (known_any w1)
  have Hp1 := Lib.hid hp1
  have Hk1 := Lib.hid hk1
  clear hp1 hk1 HN
  go_wp2_with fail
  with_reducible refine (HK.out).mono ?_
  rintro e w2 ⟨rfl, hk2⟩
  have hp2 := Hp1.out.no hk2
  have hA2 : Aft w (fun k => k < w.heap.size) (fun _ => False) w2 (fun k => k < w.heap.size) := (Aft.refl w _ _).no (Hk1.out.trans hk2)
  have hW2 : w2.heap.size = w2.heap.size := rfl
  obtain ⟨F5, hp5, hA5, hb5⟩ : ∃ F5, HasA (((w2.alloc (.cells (bareC 1) 31)).alloc (.cells #[.int .i64 0, .int .i64 0] 37)).alloc (.cells (ackC (w2.heap.size + 1)) 31)) F5 (fun _ => False) p ps0 ∧
      Aft w (fun k => k < w.heap.size) (fun _ => False) (((w2.alloc (.cells (bareC 1) 31)).alloc (.cells #[.int .i64 0, .int .i64 0] 37)).alloc (.cells (ackC (w2.heap.size + 1)) 31)) F5 ∧
      Bx (((w2.alloc (.cells (bareC 1) 31)).alloc (.cells #[.int .i64 0, .int .i64 0] 37)).alloc (.cells (ackC (w2.heap.size + 1)) 31)) F5 w2.heap.size :=
    ⟨_, ((hp2.lay _).lay _).lay _, ((hA2.lay _).lay _).lay _, ⟨((whole_at _ _ rfl rfl).alloc _).alloc _, (whole_at _ _ rfl (by simp)).alloc _, whole_at _ _ rfl (by simp), Or.inl (Or.inl (Or.inr rfl)), Or.inl (Or.inr (by simp)), Or.inr (by simp)⟩⟩
  clear hp2 hA2 hk2 hW2
  have hs0 := (k_send hp5 hb5 1 [ackF (w2.heap.size + 1)] 1 rfl (fun f hf => by rw [List.mem_singleton.1 hf]; exact reads_ack hb5.runs hb5.fr) (fun f hf => by rw [List.mem_singleton.1 hf]; simp) (by omega) (ackC (w2.heap.size + 1)) rfl false rfl (by omega) (by omega) (by simp))
  simp only [World.size_alloc] at hs0
  have HS0 := Lib.hid hs0
  clear hs0
  have Hb := Lib.hid hb5
  have HA := Lib.hid hA5
  clear hp5 hb5 hA5 HK
  go_wp2_with fail
  with_reducible refine (HS0.out).mono ?_
  rintro e w6 ⟨rfl, F6, A0, c0, l0, hp6, hb6, hl0, ha6⟩
  have HA6 := Lib.hid (HA.out.trans ha6)
  have Hl0 := Lib.hid hl0
  generalize w2.heap.size = b at *
  have HS1 := Lib.hid (k_send hp6 hb6 1 [bareF 1, gotF] 2 rfl (fun f hf => by simp at hf; rcases hf with rfl | rfl <;> exact reads_bare _) (fun f hf => by simp at hf; rcases hf with rfl | rfl <;> simp) (by omega) #[.int .i64 1, .int .i64 0, .int .i64 0, .int .i64 0, .int .i64 0, .int .i64 0, .bool false, .slice none 0 0, .slice none 0 0, .int .i64 10, .int .i64 4, .int .i64 0, .int .i64 0, .int .i64 0, .int .i64 0, .bool false, .slice none 0 0, .slice none 0 0] rfl true rfl (by omega) (by omega) (by simp))
  obtain ⟨⟨y0, y1, y2, y3, y4, y5, y6, y7, y8⟩, yl⟩ := hb6.cells
  clear hp6 hb6 hl0 ha6 HA Hb HS0
  go_wp2_with fail
  with_reducible refine (HS1.out).mono ?_
  rintro e w7 ⟨rfl, F7, A1, c1, l1, hp7, hb7, hl1, ha7⟩
  have HA7 := Lib.hid (HA6.out.trans ha7)
  have Hl1 := Lib.hid hl1
  have HS2 := Lib.hid (k_send hp7 hb7 2 [bareF 1] 1 rfl (fun f hf => by rw [List.mem_singleton.1 hf]; exact reads_bare _) (fun f hf => by rw [List.mem_singleton.1 hf]; simp) (by omega) (bareC 1) rfl true rfl (by omega) (by omega) (by simp))
  clear y0 y1 y2 y3 y4 y5 y6 y7 y8 yl
  obtain ⟨⟨y0, y1, y2, y3, y4, y5, y6, y7, y8⟩, yl⟩ := hb7.cells
  clear hp7 hb7 hl1 ha7 HA6 HS1
  go_wp2_with fail
  with_reducible refine (HS2.out).mono ?_
  rintro e w8 ⟨rfl, F8, A2, c2, l2, hp8, hb8, hl2, ha8⟩
  have HA8 := Lib.hid (HA7.out.trans ha8)
  have Hl2 := Lib.hid hl2
  clear y0 y1 y2 y3 y4 y5 y6 y7 y8 yl
  clear hl2 ha8 HA7 HS2
  obtain ⟨f0, rfl, hf0⟩ := pu_one Hl0.out
  obtain ⟨f1, g1, rfl, hf1, hg1⟩ := pu_two Hl1.out
  obtain ⟨f2, rfl, hf2⟩ := pu_one Hl2.out
  have hp8' : HasA w8 F8 (fun _ => False) p ⟨⟨0, 0, 0, false⟩, ⟨4, 32, 0, 0⟩, [⟨0, 1, false, A0, c0, [f0]⟩, ⟨1, 1, true, A1, c1, [f1, g1]⟩, ⟨2, 2, true, A2, c2, [f2]⟩], 3, 0⟩ := hp8
  have hh : Calls Try.prog 11 #[.pointer (some ⟨p, 0, none⟩), .slice (some ⟨w8.heap.size, 0, none⟩) 1 1, .int .i64 4] (w8.alloc (.cells #[.int .i64 1, .int .i64 1] 37)) fun e w' => ∃ A', e = .returned (.tuple #[.slice A' 2 2, .int .i64 0]) ∧
      ∃ F', HasA w' F' (fun _ => False) p ⟨⟨24, 6, 0, true⟩, ⟨5, 32, 0, 0⟩, [⟨0, 1, false, A0, c0, [f0]⟩, ⟨2, 2, true, A2, c2, [f2]⟩], 3, 2⟩ ∧ Aft (w8.alloc (.cells #[.int .i64 1, .int .i64 1] 37)) (fun k => F8 k ∨ k = w8.heap.size) (fun _ => False) w' F' ∧ FrsR w' F' (.slice A' 2 2) [f1, g1] :=
    a_heard (hp8'.lay _) (A := some ⟨w8.heap.size, 0, none⟩) (c := 1) (rs := [(1, 1)]) (srcW [.int .i64 1, .int .i64 1] (Whole.new _ _ _) rfl (fun u hu => by simp at hu; rcases hu with rfl | rfl <;> rfl)) (fun k hk => (by have : w8.heap.size = k := Option.some.inj hk; exact .inr this.symm)) (by simp) rfl 4 (by omega) (by intro z hz; simp at hz; rcases hz with rfl | rfl | rfl <;> (dsimp only; omega)) (by dsimp only; omega) (by dsimp only; omega) (by dsimp only; omega) (by simp) (by show ([f1, g1] : List Fr).length ≤ _; simp)
  have HH := Lib.hid hh
  have Hb8 := Lib.hid hb8
  clear hp8 hp8' hh hb8
  go_wp2_with fail
  with_reducible refine (HH.out).mono ?_
  rintro e w9 ⟨Ra, rfl, F9, hp9, ha9, hr9⟩
  have ha := (HA8.out.lay (.cells #[.int .i64 1, .int .i64 1] 37)).trans ha9
  obtain ⟨d0, d3, d7, d10⟩ := a_cells hp9
  have hpl9 := hp9.lt.1
  have HRd := Lib.hid (a_round hp9)
  have hb9 := Hb8.out.aft ((Aft.refl w8 F8 (fun _ => False)).lay (.cells #[.int .i64 1, .int .i64 1] 37) |>.trans ha9)
  have hs3 := k_send hp9 hb9 5 [bareF 1] 1 rfl (fun f hf => by rw [List.mem_singleton.1 hf]; exact reads_bare _) (fun f hf => by rw [List.mem_singleton.1 hf]; simp) (by omega) (bareC 1) rfl true rfl (by omega) (by omega) (by simp)
  have HS3 := Lib.hid hs3
  obtain ⟨⟨y0, y1, y2, y3, y4, y5, y6, y7, y8⟩, yl⟩ := hb9.cells
  have HA9 := Lib.hid ha
  have Hr9 := Lib.hid hr9
  dsimp only at d3 d7
  clear d0 d10 hp9 ha9 hr9 ha hb9 hs3 HA8 Hb8 HH
  go_wp2_with fail
  with_reducible refine (HRd.out).mono ?_
  rintro e w9' ⟨rfl, rfl⟩
  go_wp2_with fail
  with_reducible refine (HS3.out).mono ?_
  rintro e w10 ⟨rfl, F10, A3, c3, l3, hp10, hb10, hl3, ha10⟩
  obtain ⟨f3, rfl, hf3⟩ := pu_one (f := bareF 1) hl3
  have HA10 := Lib.hid (HA9.out.trans ha10)
  have Hr10 := Lib.hid (ha10.frs Hr9.out)
  have hs4 := k_send hp10 hb10 5 [ackF (b + 1)] 1 rfl (fun f hf => by rw [List.mem_singleton.1 hf]; exact reads_ack hb10.runs hb10.fr) (fun f hf => by rw [List.mem_singleton.1 hf]; simp) (by omega) (ackC (b + 1)) rfl false rfl (by omega) (by omega) (by simp)
  have HS4 := Lib.hid hs4
  clear y0 y1 y2 y3 y4 y5 y6 y7 y8 yl
  obtain ⟨⟨y0, y1, y2, y3, y4, y5, y6, y7, y8⟩, yl⟩ := hb10.cella
  clear hp10 hb10 ha10 hs4 hl3 HS3 HA9 Hr9 d3 d7
  go_wp2_with fail
  with_reducible refine (HS4.out).mono ?_
  rintro e w11 ⟨rfl, F11, A4, c4, l4, hp11, hb11, hl4, ha11⟩
  obtain ⟨f4, rfl, hf4⟩ := pu_one (f := ackF (b + 1)) hl4
  have ha12 := (HA10.out.trans ha11).lay (.cells #[.int .i64 4, .int .i64 4] 37)
  have hr12 := ((Aft.refl w11 F11 (fun _ => False)).lay (.cells #[.int .i64 4, .int .i64 4] 37)).frs (ha11.frs Hr10.out)
  have hh : Calls Try.prog 11 #[.pointer (some ⟨p, 0, none⟩), .slice (some ⟨w11.heap.size, 0, none⟩) 1 1, .int .i64 9] (w11.alloc (.cells #[.int .i64 4, .int .i64 4] 37)) fun e w' => ∃ A', e = .returned (.tuple #[.slice A' 1 1, .int .i64 0]) ∧
      ∃ F', HasA w' F' (fun _ => False) p ⟨⟨24, 6, 0, true⟩, ⟨5, 32, 0, 0⟩, [⟨0, 1, false, A0, c0, [f0]⟩, ⟨2, 2, true, A2, c2, [f2]⟩, ⟨3, 5, true, A3, c3, [f3]⟩], 5, 5⟩ ∧ Aft (w11.alloc (.cells #[.int .i64 4, .int .i64 4] 37)) (fun k => F11 k ∨ k = w11.heap.size) (fun _ => False) w' F' ∧ FrsR w' F' (.slice A' 1 1) [f4] :=
    a_heard (s := ⟨⟨24, 6, 0, true⟩, ⟨5, 32, 0, 0⟩, [⟨0, 1, false, A0, c0, [f0]⟩, ⟨2, 2, true, A2, c2, [f2]⟩, ⟨3, 5, true, A3, c3, [f3]⟩, ⟨4, 5, false, A4, c4, [f4]⟩], 5, 2⟩) (hp11.lay _) (A := some ⟨w11.heap.size, 0, none⟩) (c := 1) (rs := [(4, 4)]) (srcW [.int .i64 4, .int .i64 4] (Whole.new _ _ _) rfl (fun u hu => by simp at hu; rcases hu with rfl | rfl <;> rfl)) (fun k hk => (by have : w11.heap.size = k := Option.some.inj hk; exact .inr this.symm)) (by simp) rfl 9 (by omega) (by intro z hz; simp at hz; rcases hz with rfl | rfl | rfl | rfl <;> (dsimp only; omega)) (by dsimp only; omega) (by dsimp only; omega) (by dsimp only; omega) (by simp) (by show ([f4] : List Fr).length ≤ _; simp)
  have HH2 := Lib.hid hh
  have Hr12 := Lib.hid hr12
  have HA12 := Lib.hid ha12
  clear y0 y1 y2 y3 y4 y5 y6 y7 y8 yl hp11 hb11 ha11 hl4 hh hr12 ha12 HA10 Hr10 HS4
  go_wp2_with fail
  with_reducible refine (HH2.out).mono ?_
  rintro e w13 ⟨Rb, rfl, F13, hp13, ha13, hr13⟩
  obtain ⟨d0, d3, d7, d10⟩ := a_cells hp13
  have hpl13 := hp13.lt.1
  dsimp only at d0
  have hL : Calls Try.prog 12 #[.pointer (some ⟨p, 0, none⟩), .int .i64 9] w13 fun e w' => ∃ A', e = .returned (.slice A' 3 3) ∧
      ∃ F', HasA w' F' (fun _ => False) p ⟨⟨24, 6, 0, true⟩, ⟨2, 2, 0, 5⟩, [], 5, 5⟩ ∧ Aft w13 F13 (fun _ => False) w' F' ∧ FrsR w' F' (.slice A' 3 3) [f0, f2, f3] :=
    a_late hp13 9 (by omega) (by dsimp only; omega) (by dsimp only; omega) (by simp) (by show ([f0, f2, f3] : List Fr).length ≤ _; simp)
  have HL := Lib.hid hL
  have HA13 := Lib.hid (HA12.out.trans ha13)
  have HRa13 := Lib.hid (ha13.frs Hr12.out)
  have HRb13 := Lib.hid hr13
  clear d3 d7 d10 hp13 ha13 hr13 hL HA12 Hr12 HH2
  go_wp2_with fail
  with_reducible refine (HL.out).mono ?_
  rintro e w14 ⟨Rc, rfl, F14, hp14, ha14, hr14⟩
  have hp15 := hp14.lay (.cells #[.int .i64 5, .int .i64 5] 37)
  have hk15 : Kp (fun _ => False) w14 (w14.alloc (.cells #[.int .i64 5, .int .i64 5] 37)) := (Kp.refl _ w14).alloc _
  have HH3 : Hid (Calls Try.prog 11 #[.pointer (some ⟨p, 0, none⟩), .slice (some ⟨w14.heap.size, 0, none⟩) 1 1, .int .i64 9] (w14.alloc (.cells #[.int .i64 5, .int .i64 5] 37)) fun e w' => e = .returned (.tuple #[.slice none 0 0, .int .i64 2]) ∧ Kp (fun _ => False) (w14.alloc (.cells #[.int .i64 5, .int .i64 5] 37)) w') := Lib.hid (a_heard_bad hp15 (A := some ⟨w14.heap.size, 0, none⟩) (c := 1) (rs := [(5, 5)]) (srcW [.int .i64 5, .int .i64 5] (Whole.new _ _ _) rfl (fun u hu => by simp at hu; rcases hu with rfl | rfl <;> rfl)) (by simp) rfl 9)
  have HA14 := Lib.hid (HA13.out.trans ha14)
  have HRa14 := Lib.hid ((ha14.frs HRa13.out).kp hk15 (fun _ _ h => h))
  have HRb14 := Lib.hid ((ha14.frs HRb13.out).kp hk15 (fun _ _ h => h))
  have Hp15 := Lib.hid (hp14.no hk15)
  have HK15 := Lib.hid hk15
  clear d0 hp14 ha14 hr14 hp15 hk15 HA13 HRa13 HRb13 HL
  go_wp2_with fail
  with_reducible refine (HH3.out).mono ?_
  rintro e w16 ⟨rfl, hk16⟩
  have hp16 := Hp15.out.no hk16
  have hRa := HRa14.out.kp hk16 (fun _ _ h => h)
  have hRb := HRb14.out.kp hk16 (fun _ _ h => h)
  obtain ⟨ba, oa, ca, hva, hbla, hca⟩ := Src.wide hRa.row (by simp) (by omega)
  cases hva
  obtain ⟨bb, ob, cb, hvb, hblb, hcb⟩ := Src.wide hRb.row (by simp) (by omega)
  cases hvb
  have r1 := hca 10 (.int .i64 4) (by have : g1.h = gotF.h := congrArg Prod.fst hg1; simp [encs, encF, this])
  have r2 := hcb 0 (.int .i64 2) (by have : f4.h = (ackF (b + 1)).h := congrArg Prod.fst hf4; simp [encs, encF, this])
  rw [Nat.add_zero] at r2
  obtain ⟨d0, d3, d7, d10⟩ := a_cells hp16
  have hpl16 := hp16.lt.1
  dsimp only at d7 d10
  have HOp := Lib.hid (a_open hp16 (by simp))
  have HOA := Lib.hid (fun w' (hk : Kp (fun _ => False) w16 w') => a_acked (hp16.no hk) (by dsimp only; omega) (by dsimp only; omega))
  have HON := Lib.hid (fun w' (hk : Kp (fun _ => False) w16 w') => a_next (hp16.no hk))
  have HAf := Lib.hid ((HA14.out.no HK15.out).no hk16)
  clear d0 d3 hp16 hRa hRb hca hcb hk16 HRa14 HRb14 HA14 Hp15 HK15 HH3
  go_wp2_with fail
  with_reducible refine (HOp.out).mono ?_
  rintro e w17 ⟨rfl, hk17⟩
  have HOA17 := Lib.hid (HOA.out w17 hk17)
  have HON17 := Lib.hid (HON.out w17 hk17)
  have HB : Hid (Below w.heap.size w w17) := Lib.hid ((HAf.out.no hk17).kp.below (Nat.le_refl _) (fun k e => by have := e.1; omega))
  clear hk17 HOA HON HOp
  go_wp2_with fail
  with_reducible refine (HOA17.out).mono ?_
  rintro e w18 ⟨rfl, rfl⟩
  go_wp2_with fail
  with_reducible refine (HON17.out).mono ?_
  rintro e w18 ⟨rfl, rfl⟩
  go_wp2_with fail
  go_ret
  exact ⟨rfl, HB.out⟩
theorem PathKnown_any {W : World} : Calls Try.prog 4 #[] W fun e w' => e = .returned (.bool true) ∧ Below W.heap.size W w' := PathKnown_walk W
end Go.Proofs.Ytoiakdddghbdnaa
