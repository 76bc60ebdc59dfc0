/-
  argosyhand.Right.
-/
import Derived.Test.YtoiakdddghbdnaaSprB
namespace Go.Proofs.Ytoiakdddghbdnaa
open Go.RowKit Go.ChangeShapes Go.WideShapes Go.ChangeAt Go.Deep

theorem rawf_rd {W : World} {v : Value} (h : SlArg 22 W v) : RdSl W 104 [RdI, RdI, RdI, RdI, RdI, RdI, RdB, RdBy W, RdSl W 8 [RdI]] v := by
  have hB : Try.prog.bytesOf 61 = 104 := by kernel_rfl
  have hB8 : Try.prog.bytesOf 3 = 8 := by kernel_rfl
  rw [← hB]
  refine h.rd Try.underlying22 fun H enc => fieldSlS Try.underlying22 Try.underlying61 (by kernel_rfl) (by kernel_rfl) (by decide) rfl ?_
  intro j f q hf hq
  match j with
  | 0 => simp at hf hq; subst hf hq; exact fieldI Try.underlying3
  | 1 => simp at hf hq; subst hf hq; exact fieldI Try.underlying3
  | 2 => simp at hf hq; subst hf hq; exact fieldI Try.underlying3
  | 3 => simp at hf hq; subst hf hq; exact fieldI Try.underlying3
  | 4 => simp at hf hq; subst hf hq; exact fieldI Try.underlying3
  | 5 => simp at hf hq; subst hf hq; exact fieldI Try.underlying3
  | 6 => simp at hf hq; subst hf hq; exact fieldB Try.underlying4
  | 7 => simp at hf hq; subst hf hq; exact fieldBy Try.underlying28 (by kernel_rfl) (by kernel_rfl) Try.underlying5
  | 8 => simp at hf hq; subst hf hq; rw [← hB8]; exact fieldSl1 Try.underlying55 (by kernel_rfl) (fieldI Try.underlying3)
  | j + 9 => simp at hf
theorem ints_ok {W w : World} {R : Nat} {As : Option Addr} {ns cs : Nat} (h : RdSl W R [RdI] (.slice As ns cs)) (hk : Kp (fun _ => False) W w) : IntsOk w As ns := by
  obtain ⟨A', n', c', hv, _, _, _, hc⟩ := h
  cases hv
  rcases hc with h | ⟨b, o, rfl, hb, hcell⟩
  · exact .inl h
  · exact .inr ⟨b, o, rfl, Nat.lt_of_lt_of_le hb hk.size, fun i hi => by
      obtain ⟨u, hu, x, rfl, h1, h2⟩ := hcell i hi 0 RdI rfl
      exact ⟨x, (hk.cell (p := ⟨b, o + i, none⟩) hb (fun h => h)).trans (by simpa using hu), h1, h2⟩⟩

/-- Frames that were made: a row of their own, their bytes and runs in other new blocks. -/
structure Made (w w' : World) (v : Value) (fs : List Fr) : Prop where
  row : RowAt w' w.heap.size 9 v fs.length (encs encF fs)
  each : ∀ f ∈ fs, Reads w' (fun k => (w.heap.size ≤ k ∧ k < w'.heap.size) ∧ v.ownBlock ≠ some k) f
  dl : ∀ f ∈ fs, f.d.length ≤ 120 ∧ f.s.length ≤ 8 ∧ ∀ a, f.dA = some a → a.spot = none
  kp : Kp (fun _ => False) w w'

set_option maxRecDepth 100000 in
set_option maxHeartbeats 4000000 in
theorem right_any {W w : World} {A : Option Addr} {len cap : Nat} (h : RdSl W 104 [RdI, RdI, RdI, RdI, RdI, RdI, RdB, RdBy W, RdSl W 8 [RdI]] (.slice A len cap)) (hk : Kp (fun _ => False) W w) :
    Calls Try.prog 8 #[.slice A len cap, .int .i64 8] w fun e w' => ∃ Av cv fs, e = .returned (.slice Av (List.length fs) cv) ∧ (List.length fs) ≤ 8 ∧ Made w w' (.slice Av (List.length fs) cv) fs := by
  obtain ⟨A0, len0, cap0, hv, hlc, hcm, hl104, hcells⟩ := h
  cases hv
  obtain ⟨i0, hii, hz0, hz1, hz2⟩ := info_parts infoF
  have Hi := Lib.hid hii
  have Hz0 := Lib.hid hz0
  have Hz1 := Lib.hid hz1
  have Hz2 := Lib.hid hz2
  have HW := Lib.hid hk
  have Hc := Lib.hid hcells
  have hll : len ≤ 1353257570610 := by unfold reachBytes at hl104; omega
  unfold maxLen at hcm
  clear hk hcells hii hz0 hz1 hz2 hl104
  go_enter Try.func8, Try.ntmps8
  go_wp2_with fail
  go_loopw [5, 6] (fun vo vi wr => ∃ (i : Nat) (fs : List Fr) (Av : Option Addr) (cv : Nat), i ≤ len ∧ i ≤ 8 ∧ vi = .int .i64 i ∧ vo = .slice Av i cv ∧ Hid (fs.length = i) ∧ Hid (Made w wr (.slice Av i cv) fs)) (fun _ vi _ => len - (intOf vi).toNat)
  case atStart => exact ⟨0, [], none, 0, by omega, by omega, rfl, rfl, Lib.hid rfl, Lib.hid ⟨RowAt.nil _ _ _, fun f hf => (by cases hf), fun f hf => (by cases hf), Kp.refl _ _⟩⟩
  case round =>
    obtain ⟨i, fs, Av, cv, hil, hi8, rfl, rfl, HL, HM⟩ := hrel
    by_cases hlt : i < len
    · by_cases h8 : i < 8
      · rcases Hc.out with h0 | ⟨b, o, rfl, hb, hcell⟩
        · omega
        · obtain ⟨u0, hu0, y0, rfl, _, _⟩ := hcell i hlt 0 _ rfl
          obtain ⟨u1, hu1, y1, rfl, i1, i2⟩ := hcell i hlt 1 _ rfl
          obtain ⟨u2, hu2, y2, rfl, o1, o2⟩ := hcell i hlt 2 _ rfl
          obtain ⟨u3, hu3, y3, rfl, a1, a2⟩ := hcell i hlt 3 _ rfl
          obtain ⟨u4, hu4, y4, rfl, _, _⟩ := hcell i hlt 4 _ rfl
          obtain ⟨u5, hu5, y5, rfl, _, _⟩ := hcell i hlt 5 _ rfl
          obtain ⟨u6, hu6, y6, rfl⟩ := hcell i hlt 6 _ rfl
          obtain ⟨u7, hu7, Ad, d, dcap, rfl, hbs, hdc, hdm, hdA0, hdA1, _⟩ := hcell i hlt 7 _ rfl
          obtain ⟨u8, hu8, hsl⟩ := hcell i hlt 8 _ rfl
          obtain ⟨As, ns, cs, rfl, _, _, hns, _⟩ := id hsl
          have hns' : ns ≤ 17592186044416 := by unfold reachBytes at hns; omega
          clear hcell hns
          have hkw := HW.out.trans HM.out.kp
          have hWb : ∀ q, wr.cell? ⟨b, q, none⟩ = W.cell? ⟨b, q, none⟩ := fun q => hkw.cell (p := ⟨b, q, none⟩) hb (fun h => h)
          rw [← hWb] at hu0 hu1 hu2 hu3 hu4 hu5 hu6 hu7 hu8
          simp only [List.length_cons, List.length_nil, Nat.zero_add, Nat.add_zero, Nat.reduceAdd] at hu0 hu1 hu2 hu3 hu4 hu5 hu6 hu7 hu8
          have hbw := Nat.lt_of_lt_of_le hb hkw.size
          have q1 : (i : Int) < (len : Int) := by omega
          have q2 : (i : Int) < 8 := by omega
          have q3 : (0 : Int) ≤ (i : Int) := by omega
          have hk3 : Kp (fun _ => False) wr (wr.alloc (.cells #[.int .i64 y0, .int .i64 y1, .int .i64 y2, .int .i64 y3, .int .i64 y4, .int .i64 0, .bool y6, .slice Ad d.length dcap, .slice As ns cs] 61)) := (Kp.refl _ wr).alloc _
          have hz3 := Whole.new wr 61 #[.int .i64 y0, .int .i64 y1, .int .i64 y2, .int .i64 y3, .int .i64 y4, .int .i64 0, .bool y6, .slice Ad d.length dcap, .slice As ns cs]
          have HF := Lib.hid (frame_any y0 y1 y2 y3 y4 i1 i2 o1 o2 a1 a2 y6 (hbs.kp (hkw.trans hk3) (fun _ _ h => h)) hdc hdm (fun h a ha => by obtain ⟨b', o', hb', _⟩ := hdA1 h; rw [hb'] at ha; cases ha; rw [Addr.add_lit, Nat.add_zero]) hdA0 (cs := cs) (ints_ok hsl (hkw.trans hk3)) hns')
          have HK3 := Lib.hid hk3
          have HZ3 := Lib.hid hz3
          clear hkw hWb hbs hdA0 hdA1 hsl hk3 hz3
          obtain ⟨dl, hdl⟩ : ∃ dl, dl = d.length := ⟨_, rfl⟩
          rw [← hdl] at hu7 HF HK3 HZ3
          clear hdl hdc hdm
          go_upto_region 7 with (fail)
          have x0 := HZ3.out.cell 0
          have x1 := HZ3.out.cell 1
          have x2 := HZ3.out.cell 2
          have x3 := HZ3.out.cell 3
          have x4 := HZ3.out.cell 4
          have x5 := HZ3.out.cell 5
          have x6 := HZ3.out.cell 6
          have x7 := HZ3.out.cell 7
          have x8 := HZ3.out.cell 8
          have hxl := HZ3.out.lt
          generalize wr.alloc (.cells #[.int .i64 y0, .int .i64 y1, .int .i64 y2, .int .i64 y3, .int .i64 y4, .int .i64 0, .bool y6, .slice Ad dl dcap, .slice As ns cs] 61) = w3 at *
          simp at x0 x1 x2 x3 x4 x5 x6 x7 x8
          clear hu0 hu1 hu2 hu3 hu4 hu5 hu6 hu7 hu8
          generalize hbx : wr.heap.size = bx at *
          have Hbx := Lib.hid hbx
          clear hbx
          go_wp2_with fail
          with_reducible refine (HF.out).mono ?_
          rintro e w4 ⟨f, rfl, hrd, hfd, hfs, hsp, hk4⟩
          have Hrd := Lib.hid hrd
          have Hk4 := Lib.hid hk4
          have Hdl := Lib.hid (And.intro hfd (And.intro hfs hsp))
          have hkr4 : Kp (fun _ => False) wr w4 := HK3.out.trans hk4
          obtain ⟨⟨fk, fi, fo, fa, fb, fn, ff⟩, dA, dc, sA, sc, fd, fss⟩ := f
          have hrow4 := (HM.out.row.kp hkr4 (fun _ _ h => h))
          rw [HL.out] at hrow4
          have HR4 := Lib.hid (hrow4.kp ((Kp.refl (fun _ => False) w4).alloc (.cells #[.int .i64 fk, .int .i64 fi, .int .i64 fo, .int .i64 fa, .int .i64 fb, .int .i64 fn, .bool ff, .slice dA fd.length dc, .slice sA fss.length sc] 31)) (fun _ _ h => h))
          have hws := HM.out.kp.size
          have hws4 := hkr4.size
          have HKr4 := Lib.hid hkr4
          clear hrd hk4 hrow4 hkr4 HF hfd hfs hsp x0 x1 x2 x3 x4 x5 x6 x7 x8
          go_wp2_with (at_builtin; refine wpList_row rfl (.tmp 24) (.tmp 27) 26 rfl w.heap.size 31 i0 _ 9 104 Try.underlying26 Hi.out Hz0.out Hz1.out Hz2.out rfl (by decide) _ i _ rfl HR4.out _ 1 (encF ⟨⟨fk, fi, fo, fa, fb, fn, ff⟩, dA, dc, sA, sc, fd, fss⟩) rfl (srcW _ (Whole.new _ _ _) rfl (encF_one1 _)) (by unfold maxLen; omega) (by omega) (by simp only [World.size_alloc]; omega) ?_; intro v5 w5 hr5 hg5 hn5; obtain ⟨A5, c5, rfl⟩ := hr5.form; have Hr5 := Lib.hid hr5; have Hg5 := Lib.hid hg5; have Hn5 := Lib.hid hn5; clear hr5 hg5 hn5)
          go_roundw
          case rel =>
            have hk45 : Kp (fun k => (Value.slice Av i cv).ownBlock = some k) w4 w5 := ((Kp.refl _ w4).alloc _).grown Hg5.out (fun i hi _ => hi)
            have hk5 : Kp (fun _ => False) w w5 := ((HM.out.kp.trans HKr4.out).no.trans hk45).mono (fun j hj e => by have := (HR4.out.lt j e).1; omega)
            have hne : ∀ k, k < w4.heap.size → (Value.slice Av i cv).ownBlock ≠ some k → (Value.slice A5 (i + 1) c5).ownBlock ≠ some k := fun k hk h e => by
              rcases Hn5.out with h5 | h5
              · exact h (h5 ▸ e)
              · have := h5 k e; simp only [World.size_alloc] at this; omega
            have hs45 := hk45.size
            refine ⟨i + 1, fs ++ [⟨⟨fk, fi, fo, fa, fb, fn, ff⟩, dA, dc, sA, sc, fd, fss⟩], A5, c5, by omega, by omega, by go_num, rfl, Lib.hid (by rw [List.length_append, HL.out]; rfl), Lib.hid ⟨?_, fun g hg => ?_, fun g hg => ?_, hk5⟩⟩
            · rw [List.length_append, HL.out, encs_append, show encs encF [(⟨⟨fk, fi, fo, fa, fb, fn, ff⟩, dA, dc, sA, sc, fd, fss⟩ : Fr)] = encF ⟨⟨fk, fi, fo, fa, fb, fn, ff⟩, dA, dc, sA, sc, fd, fss⟩ by simp [encs]]
              exact Hr5.out
            · rcases List.mem_append.1 hg with hg | hg
              · exact (((HM.out.each g hg).kp HKr4.out (fun _ _ h => h)).kp hk45 (fun k e h => e.2 h)).sup (fun k e => ⟨⟨e.1.1, by have := e.1.2; have := HKr4.out.size; omega⟩, hne k (by have := e.1.2; have := HKr4.out.size; omega) e.2⟩)
              · rw [List.mem_singleton.1 hg]
                have hlo : ∀ k, (Value.slice Av i cv).ownBlock = some k → k < wr.heap.size := fun k hk => (HM.out.row.lt k hk).2
                have h34 := HK3.out.size
                exact (Hrd.out.kp hk45 (fun k e h => by have := hlo k h; have := e.1; omega)).sup (fun k e => ⟨⟨by have := e.1; omega, by have := e.2; omega⟩, hne k e.2 (fun h => by have := hlo k h; have := e.1; omega)⟩)
            · rcases List.mem_append.1 hg with hg | hg
              · exact HM.out.dl g hg
              · rw [List.mem_singleton.1 hg]; exact Hdl.out
          case measure => simp [intOf]; omega
      · obtain rfl : i = 8 := by omega
        have q1 : ((8 : Nat) : Int) < (len : Int) := by omega
        have HE : Hid (∃ Av' cv' fs', Value.slice Av 8 cv = .slice Av' (List.length fs') cv' ∧ (List.length fs') ≤ 8 ∧ Made w wr (.slice Av' (List.length fs') cv') fs') := Lib.hid ⟨Av, cv, fs, by rw [HL.out], by rw [HL.out]; omega, by rw [HL.out]; exact HM.out⟩
        go_wp2_with fail
        go_ret
        obtain ⟨b1, b2, b3, b4, b5⟩ := HE.out
        exact ⟨b1, b2, b3, congrArg Ending.returned b4, b5⟩
    · obtain rfl : i = len := by omega
      have HE : Hid (∃ Av' cv' fs', Value.slice Av i cv = .slice Av' (List.length fs') cv' ∧ (List.length fs') ≤ 8 ∧ Made w wr (.slice Av' (List.length fs') cv') fs') := Lib.hid ⟨Av, cv, fs, by rw [HL.out], by rw [HL.out]; omega, by rw [HL.out]; exact HM.out⟩
      go_wp2_with fail
      go_ret
      obtain ⟨b1, b2, b3, b4, b5⟩ := HE.out
      exact ⟨b1, b2, b3, congrArg Ending.returned b4, b5⟩
end Go.Proofs.Ytoiakdddghbdnaa
