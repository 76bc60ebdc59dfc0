/-
  argosylaw11.known: chapter 11's example.
-/
import Derived.Test.YtoiakdddghbdnaaPathP
namespace Go.Proofs.Ytoiakdddghbdnaa
open Go.RowKit

/-- A frame that was laid, as a slice. -/
theorem frs_lit {w : World} {F : Nat → Prop} {b : Nat} {e : TypeId} (f : Fr) (hw : Whole w b e (encF f).toArray) (hb : F b) (hr : Reads w F f) : FrsR w F (.slice (some ⟨b, 0, none⟩) 1 1) [f] := by
  refine ⟨?_, fun k hk => ?_, fun x hx => ?_⟩
  · rw [show encs encF [f] = encF f by simp [encs]]
    exact srcW _ hw rfl (encF_one1 f)
  · have : b = k := Option.some.inj hk
    exact this ▸ hb
  · rw [List.mem_singleton.1 hx]; exact hr
theorem reads_bare {w : World} {F : Nat → Prop} (h : Hd) : Reads w F ⟨h, none, 0, none, 0, [], []⟩ :=
  ⟨Bs.nil w, ⟨rfl, (fun u hu => by cases hu), .inl ⟨rfl, rfl⟩⟩, fun k hk => (by cases hk), fun k hk => (by cases hk)⟩

abbrev bareF (k : Int) : Fr := ⟨⟨k, 0, 0, 0, 0, 0, false⟩, none, 0, none, 0, [], []⟩
abbrev bareC (k : Int) : Array Value := #[.int .i64 k, .int .i64 0, .int .i64 0, .int .i64 0, .int .i64 0, .int .i64 0, .bool false, .slice none 0 0, .slice none 0 0]

abbrev ackF (b : Nat) : Fr := ⟨⟨2, 0, 0, 0, 0, 0, false⟩, none, 0, some ⟨b, 0, none⟩, 1, [], [(0, 0)]⟩
abbrev ackC (b : Nat) : Array Value := #[.int .i64 2, .int .i64 0, .int .i64 0, .int .i64 0, .int .i64 0, .int .i64 0, .bool false, .slice none 0 0, .slice (some ⟨b, 0, none⟩) 1 1]
abbrev gotF : Fr := ⟨⟨10, 4, 0, 0, 0, 0, false⟩, none, 0, none, 0, [], []⟩

theorem reads_ack {w : World} {F : Nat → Prop} {b : Nat} (hw : Whole w b 37 #[.int .i64 0, .int .i64 0]) (hb : F b) : Reads w F (ackF b) :=
  ⟨Bs.nil w, srcW [.int .i64 0, .int .i64 0] hw rfl (fun u hu => by simp at hu; rcases hu with rfl | rfl <;> rfl), fun k hk => (by cases hk), fun k hk => (by have : b = k := Option.some.inj hk; exact this ▸ hb)⟩

section
variable {w : World} {F L : Nat → Prop} {p : Nat} {tc : TypeId} {cs : Array Value} {v : Value} {s : PS}
/-- Send a frame of a bare kind, laid just ahead. -/
theorem send_bare (h : HasP w F L p tc cs v s) (now k : Int) (hn : s.next ≤ 4611686018427387903) (hn0 : 0 ≤ s.next) (hlen : s.zs.length ≤ 2199023255552) :
    Calls Try.prog 10 #[.pointer (some ⟨p, 0, none⟩), .int .i64 now, .slice (some ⟨w.heap.size, 0, none⟩) 1 1] (w.alloc (.cells (bareC k) 31)) fun e w' => e = .returned (.int .i64 s.next) ∧ SendLeft (w.alloc (.cells (bareC k) 31)) F L p tc cs v s now [bareF k] w' := by
  have hk : Kp (fun _ => False) w (w.alloc (.cells (bareC k) 31)) := (Kp.refl _ w).alloc _
  exact p_send (h.no hk) now (G := fun j => j = w.heap.size) (A := some ⟨w.heap.size, 0, none⟩) (c := 1) (fl := [bareF k]) (frs_lit (bareF k) (Whole.new _ _ _) rfl (reads_bare _)) (fun j e => by simp only [World.size_alloc]; omega) (by simp) (fun f hf => by rw [List.mem_singleton.1 hf]; simp) hn hn0 hlen
end

/-- One frame alone, as it was sent. -/
theorem pu_one {l : List Fr} {f : Fr} (h : l.map Fr.pu = [f].map Fr.pu) : ∃ g, l = [g] ∧ g.pu = f.pu := by
  cases l with
  | nil => simp at h
  | cons g l =>
    cases l with
    | nil => exact ⟨g, rfl, by simpa using h⟩
    | cons a b => simp at h

set_option maxRecDepth 100000 in
set_option maxHeartbeats 4000000 in
theorem known_any (w : World) : Calls Try.prog 7 #[] w fun e w' => e = .returned (.bool true) ∧ Kp (fun _ => False) w w' := by
  have HN := Lib.hid (p_new w (fun k => k < w.heap.size) (fun _ => False) (fun k e => e.elim id (fun e => e.elim)) (fun _ _ e => e))
  go_enter Try.func7, Try.ntmps7
  go_wp2_with fail
  with_reducible refine (HN.out).mono ?_
  rintro e w1 ⟨p, rfl, hp1, hpw, hk1⟩
  have HS := Lib.hid (send_bare hp1 0 1 (by decide) (by decide) (by decide))
  have Hp1 := Lib.hid hp1
  have Hk1 := Lib.hid hk1
  have hpl1 := hp1.inn.led.cell.lt
  clear hp1 hk1 HN
  go_wp2_with fail
  with_reducible refine (HS.out).mono ?_
  rintro e w2 ⟨rfl, F2, cs2, v2, z, hp2, st2, zn, za, zel, zpu⟩
  obtain ⟨f, hzl, hfp⟩ := pu_one zpu
  have hkA : Kp (fun _ => False) w (w1.alloc (.cells (bareC 1) 31)) := Hk1.out.alloc _
  have hk2 : Kp (fun _ => False) w w2 := (hkA.no.trans (Stp.out (Hp1.out.no ((Kp.refl _ w1).alloc _)) st2)).mono (fun k hk e => e.1 hk)
  have hel : z.el = true := by rw [zel]; rfl
  have ho : oldK ([] ++ [z]) = (0, true) := by simp [oldK, hel, za]
  have HP7 := Lib.hid (p_probe_no hp2.inn 7 (by omega) (by simp [ps0]) (Or.inr (by show (7 : Int) - R4.wait ⟨0, 0, 0, false⟩ < (oldK ([] ++ [z])).1; rw [ho]; decide)))
  have hsup2 : ∀ k, k < w.heap.size → F2 k := st2.sup
  have Hp2 := Lib.hid hp2
  have Hk2 := Lib.hid hk2
  have Ho := Lib.hid ho
  have Hz := Lib.hid hzl
  have Hf := Lib.hid hfp
  clear hp2 hk2 st2 hkA ho zn za zel zpu hel HS hzl hfp
  go_wp2_with fail
  with_reducible refine (HP7.out).mono ?_
  rintro e w3 ⟨rfl, hk3⟩
  have hp3 := Hp2.out.no hk3
  have hfr : frsK ([] ++ [z]) = [f] := by simp [frsK, Hz.out]
  have HP8 := Lib.hid (p_probe hp3 8 (by omega) (by simp [ps0]) (by show (frsK ([] ++ [z])).length ≤ _; rw [hfr]; simp) (by simp [ps0]) (by show (oldK ([] ++ [z])).2 = true; rw [Ho.out]) (by show (oldK ([] ++ [z])).1 ≤ 8 - R4.wait ⟨0, 0, 0, false⟩; rw [Ho.out]; decide))
  dsimp only [ps0] at HP8
  rw [hfr] at HP8
  have Hp3 := Lib.hid hp3
  have Hk3 := Lib.hid (Hk2.out.trans hk3)
  clear hp3 hk3 hfr HP7
  go_wp2_with fail
  with_reducible refine (HP8.out).mono ?_
  rintro e w4 ⟨A', rfl, F4, cs4, v4, hp4, st4, hrow⟩
  have hk4 : Kp (fun _ => False) w w4 := (Hk3.out.no.trans (Stp.out Hp3.out st4)).mono (fun k hk e => e.1 (hsup2 k hk))
  have HFl : Hid (Calls Try.prog 19 #[.pointer (some ⟨p, 4, none⟩)] w4 fun e w' => e = .returned (.int .i64 0) ∧ Kp (fun _ => False) w4 w') := Lib.hid (l_flight hp4.inn.led (by simp [probeS]))
  obtain ⟨b, off, cc, hv, hbl, hc⟩ := Src.wide hrow.row (by simp) (by omega)
  cases hv
  have c0 := hc 0 (.int .i64 1) (by have : f.h = (bareF 1).h := congrArg Prod.fst Hf.out; simp [encs, encF, this])
  have d2 := hp4.inn.isR.c2
  have d7 := hp4.inn.isW.c0
  have hpl4 := hp4.inn.led.cell.lt
  simp [probeS] at d2 d7 c0
  have Hk4 := Lib.hid hk4
  clear hp4 st4 hrow hk4 HP8 hc
  go_wp2_with fail
  with_reducible refine (HFl.out).mono ?_
  rintro e w5 ⟨rfl, hk5⟩
  have c0' := (hk5.cell (p := ⟨b, off, none⟩) hbl (fun h => h)).trans c0
  have d2' := (hk5.cell (p := ⟨p, 2, none⟩) hpl4 (fun h => h)).trans d2
  have d7' := (hk5.cell (p := ⟨p, 7, none⟩) hpl4 (fun h => h)).trans d7
  have Hk5 := Lib.hid (Hk4.out.trans hk5)
  clear hk5 c0 d2 d7
  go_wp2_with fail
  go_ret
  exact ⟨rfl, Hk5.out⟩
end Go.Proofs.Ytoiakdddghbdnaa
