/-
  argosylaw11.PathSpread: the walk. (a region printed by src/gen_XPathSpread.py)
-/
import Derived.Test.YtoiakdddghbdnaaSprE
namespace Go.Proofs.Ytoiakdddghbdnaa
open Go.RowKit

set_option maxRecDepth 100000 in
set_option maxHeartbeats 60000000 in
theorem PathSpread_any {W : World} (v : Value) (hv : SlArg 22 W v) (x1 : Int) (_l1 : -9223372036854775808 ≤ x1) (_h1 : x1 ≤ 9223372036854775807) (x2 : Int) (_l2 : -9223372036854775808 ≤ x2) (_h2 : x2 ≤ 9223372036854775807) :
    Calls Try.prog 3 #[v, .int .i64 x1, .int .i64 x2] W fun e w' => e = .returned (.bool true) ∧ Below W.heap.size W w' := by
  have hrd := rawf_rd hv
  obtain ⟨A0, len0, cap0, rfl, _⟩ := id hrd
  obtain ⟨i0, hii, hz0, hz1, hz2⟩ := info_parts infoF
  have Hi := Lib.hid hii
  have Hz0 := Lib.hid hz0
  have Hz1 := Lib.hid hz1
  have Hz2 := Lib.hid hz2
  have Hrd := Lib.hid hrd
  clear hv hrd hii hz0 hz1 hz2
  have HN := Lib.hid (a_new W (fun k => k < W.heap.size) (fun _ => False) (fun k e => e.elim id (fun e => e.elim)) (fun _ _ e => e))
  go_enter Try.func3, Try.ntmps3
  go_wp2_with fail
  with_reducible refine (HN.out).mono ?_
  rintro e w1 ⟨p, rfl, hp1, hpw, hk1⟩
  have HK := Lib.hid (known_any w1)
  have Hp1 := Lib.hid hp1
  have Hk1 := Lib.hid hk1
  clear hp1 hk1 HN
  go_wp2_with fail
  with_reducible refine (HK.out).mono ?_
  rintro e w2 ⟨rfl, hk2⟩
  have HRt := Lib.hid (right_any Hrd.out (Hk1.out.trans hk2))
  have Hp2 := Lib.hid (Hp1.out.no hk2)
  have Hk2 := Lib.hid (Hk1.out.trans hk2)
  clear hk2 HK Hp1 Hk1
  go_wp2_with fail
  with_reducible refine (HRt.out).mono ?_
  rintro e w3 ⟨Av, cv, fs, rfl, hn8, hm⟩
  have h3 : SpR W w3 (fun k => k < W.heap.size ∨ ((w2.heap.size ≤ k ∧ k < w3.heap.size) ∧ (Value.slice Av fs.length cv).ownBlock ≠ some k)) p ps0 (.slice Av fs.length cv) :=
    ⟨Hp2.out.layV hm.kp _ (fun k hk => hm.row.lt k hk), fun k hk => .inl hk, Hk2.out.no.trans hm.kp.no, fun k hk => Nat.le_trans Hk2.out.size (hm.row.lt k hk).1⟩
  have hrow0 := hm.row.base (B' := W.heap.size) Hk2.out.size
  have Hrs : Hid (∀ f ∈ fs, Reads w3 (fun k => k < W.heap.size ∨ ((w2.heap.size ≤ k ∧ k < w3.heap.size) ∧ (Value.slice Av fs.length cv).ownBlock ≠ some k)) f) := Lib.hid (fun f hf => (hm.each f hf).sup (fun k e => .inr e))
  have Hdl : Hid (∀ f ∈ fs, f.d.length ≤ 120 ∧ f.s.length ≤ 8) := Lib.hid (fun f hf => ⟨(hm.dl f hf).1, (hm.dl f hf).2.1⟩)
  generalize hF3 : (fun k => k < W.heap.size ∨ ((w2.heap.size ≤ k ∧ k < w3.heap.size) ∧ (Value.slice Av fs.length cv).ownBlock ≠ some k)) = F3 at *
  clear hF3 hm
  generalize hn : fs.length = n at *
  have Hn := Lib.hid hn
  have H3 := Lib.hid h3
  have Hr0 := Lib.hid hrow0
  have hcv := row_capL hrow0
  clear hn h3 hrow0 HRt Hp2 Hk2
  go_wp2_with fail
  go_loopw [30] (fun vi wr => ∃ i : Nat, i ≤ n ∧ vi = .int .i64 i ∧ Hid (SpR W wr F3 p ps0 (.slice Av n cv)) ∧ Hid (RowAt wr W.heap.size 9 (.slice Av n cv) n (encs encF (setN fs i))) ∧ Hid (Kp (fun k => (Value.slice Av n cv).ownBlock = some k) w3 wr)) (fun vi _ => n - (intOf vi).toNat)
  case atStart => exact ⟨0, by omega, rfl, H3, Lib.hid (by rw [setN_zero]; exact Hr0.out), Lib.hid (Kp.refl _ _)⟩
  case round =>
    obtain ⟨i, hin, rfl, HR, HRow, HKv⟩ := hrel
    by_cases hlt : i < n
    · obtain ⟨g, off, c', hvv, hgW, hg, hnc, hcm, hfz, hcell⟩ := HRow.out.full (by omega)
      cases hvv
      obtain ⟨f, hf⟩ : ∃ f, fs[i]? = some f := ⟨_, List.getElem?_eq_getElem (by rw [Hn.out]; exact hlt)⟩
      have hsf : (setN fs i)[i]? = some f := by rw [setN_at hf, if_neg (by omega)]
      have e5 := hcell (i * 9 + 5) _ (ff5 hsf)
      rw [← Nat.add_assoc] at e5
      have f5 := hfz (off + i * 9 + 5)
      have q1 : (i : Int) < (n : Int) := by omega
      have q3 : (0 : Int) ≤ (i : Int) := by omega
      have hset := HRow.out.set (i * 9 + 5) (.int .i64 (100 + (i : Int))) (by omega)
      rw [encs_set encF_len (setN fs i) i 5 f (noteF f (100 + (i : Int))) (.int .i64 (100 + (i : Int))) hsf (by omega) rfl, setN_succ hf, ← Nat.add_assoc] at hset
      have hkk : Kp (fun k => (Value.slice (some ⟨g, off, none⟩) n cv).ownBlock = some k) wr (wr.setCell ⟨g, off + i * 9 + 5, none⟩ (.int .i64 (100 + (i : Int)))) := Kp.set (S := fun k => (Value.slice (some ⟨g, off, none⟩) n cv).ownBlock = some k) (Kp.refl _ wr) (p := ⟨g, off + i * 9 + 5, none⟩) (.inl rfl) _
      have Hset := Lib.hid hset
      have Hkk := Lib.hid hkk
      clear hcell hfz hset hkk hf hsf
      go_wp2_with fail
      go_roundw
      case rel => exact ⟨i + 1, by omega, by go_num, Lib.hid (HR.out.turn Hkk.out), Hset, Lib.hid (HKv.out.trans Hkk.out)⟩
      case measure => simp [intOf]; omega
    · obtain rfl : i = n := by omega
      generalize wr = w4 at *
      obtain ⟨gs, hgs⟩ : ∃ gs, gs = setN fs i := ⟨_, rfl⟩
      have hgl : gs.length = i := by rw [hgs, setN_len]; exact Hn.out
      have hgr : ∀ g ∈ gs, Reads w4 F3 g := fun g hg => by
        rw [hgs] at hg
        obtain ⟨f, hf, nn, h | h⟩ := setN_mem hg
        · rw [h]; exact ((Hrs.out f hf).kp HKv.out (fun k e e' => H3.out.has.dis k e e')).note nn
        · rw [h]; exact (Hrs.out f hf).kp HKv.out (fun k e e' => H3.out.has.dis k e e')
      have hgd : ∀ g ∈ gs, g.d.length ≤ 120 ∧ g.s.length ≤ 8 := fun g hg => by
        rw [hgs] at hg
        obtain ⟨f, hf, nn, h | h⟩ := setN_mem hg
        · rw [h]; exact Hdl.out f hf
        · rw [h]; exact Hdl.out f hf
      rw [← hgs] at HRow
      have Hgl := Lib.hid hgl
      have Hgr := Lib.hid hgr
      have Hgd := Lib.hid hgd
      clear hgs hgl hgr hgd HKv Hrs Hdl H3 Hr0 Hn
      have HO : Hid (RowAt (w4.alloc (.cells #[] 31)) w4.heap.size 9 (.slice (some ⟨w4.heap.size, 0, none⟩) 0 0) 0 []) := Lib.hid (RowAt.of_own (World.ownsRow_made (base := w4.heap.size) (e := 31) (size := 9) w4 #[] 0 (Nat.le_refl _) (Nat.zero_le _) rfl))
      have HX : Hid (Src (w4.alloc (.cells #[] 31)) 9 (.slice Av i cv) i (encs encF gs)) := Lib.hid (((Kp.refl (fun _ => False) w4).alloc _).src (HRow.out.src (encF_one _)) (fun _ _ h => h))
      go_upto_region 12 with (first
        | (at_builtin; refine wpList_row rfl (.tmp 40) (.tmp 41) 26 rfl w4.heap.size 31 i0 _ 9 104 Try.underlying26 Hi.out Hz0.out Hz1.out Hz2.out rfl (by decide) _ 0 _ rfl HO.out _ i _ rfl HX.out (by unfold maxLen; omega) (by omega) (by simp) ?_; intro v5 w5 hr5 hg5 hn5; rw [Nat.zero_add, List.nil_append] at hr5; obtain ⟨A5, c5, rfl⟩ := hr5.form; have hk5 : Kp (fun _ => False) w4 w5 := ((Kp.refl _ w4).alloc _).grown hg5 (fun j hj hlt => absurd (HO.out.lt j hj).1 (by omega)); have Hr5 := Lib.hid hr5; have Hk5 := Lib.hid hk5; clear hr5 hg5 hn5 hk5)
        | (with_reducible refine (pick_natR _ _ _ (by omega) (by omega)).mono ?_; rintro e w' ⟨k, hk, rfl, rfl⟩))
      have hki : k ≤ i := by omega
      have h5 := HR.out.layN Hk5.out
      have hw5 : FrsR w5 (fun k => F3 k ∨ (w4.heap.size ≤ k ∧ k < w5.heap.size)) (.slice A5 i c5) gs :=
        ⟨by rw [Hgl.out]; exact Hr5.out.src (encF_one _), fun j hj => .inr (Hr5.out.lt j hj), fun g hg => ((Hgr.out g hg).kp Hk5.out (fun _ _ h => h)).sup (fun j e => .inl e)⟩
      have hrow5 := HRow.out.kp Hk5.out (fun _ _ h => h)
      generalize (fun k => F3 k ∨ (w4.heap.size ≤ k ∧ k < w5.heap.size)) = F5 at *
      have H5 := Lib.hid h5
      have Hw5 := Lib.hid hw5
      have Hrow5 := Lib.hid hrow5
      have hcv5 := row_capL hrow5
      clear h5 hw5 hrow5 HR HRow Hgr HO HX Hr5 Hk5 hk
      go_cut [] (fun wx => ∃ F' B cc l, SpR W wx F' p (sp1 B cc l ((gs.take k).any elF)) (.slice Av i cv) ∧ Aft w5 F5 (fun j => (Value.slice Av i cv).ownBlock = some j) wx F' ∧ l.map Fr.pu = (gs.take k).map Fr.pu)
      case first =>
        have htk : (gs.take k).length = k := by rw [List.length_take, Hgl.out]; omega
        rcases Hrow5.out.2 with ⟨hv, hn0⟩ | ⟨g, off, cap, hv, hgW, hg, hnc, hcm, _, _, _⟩
        · cases hv
          obtain rfl : k = 0 := by omega
          have HS := Lib.hid (sp_send (r := ⟨0, 0, 0, false⟩) (q := ⟨4, 32, 0, 0⟩) (zs := []) (next := 0) (top := 0) H5.out (A := none) (c := 0) (m := 0) (fl := gs.take 0) htk ⟨by simp [encs], (fun u hu => by simp [encs] at hu), .inl ⟨rfl, rfl⟩⟩ (fun f hf => by simp at hf) (fun j hj => (by cases hj)) (by omega) (fun f hf => by simp at hf) (by omega) (by omega) (by simp))
          clear htk
          go_wp2_with fail
          with_reducible refine (HS.out).mono ?_
          rintro e w6 ⟨rfl, F', B, cc, l, h6, ha6, hl6⟩
          have HE := Lib.hid (And.intro h6 (And.intro ha6 hl6))
          clear h6 ha6 hl6 HS
          go_wp2_with fail
          go_meet
          case rel => exact ⟨F', B, cc, l, HE.out.1, HE.out.2.1, HE.out.2.2⟩
        · cases hv
          have hpre := Hrow5.out.take rfl k hki
          rw [encs_take encF_len] at hpre
          have HS := Lib.hid (sp_send (r := ⟨0, 0, 0, false⟩) (q := ⟨4, 32, 0, 0⟩) (zs := []) (next := 0) (top := 0) H5.out (m := k) (fl := gs.take k) htk (hpre.src (encF_one _)) (fun f hf => Hw5.out.each f (List.mem_of_mem_take hf)) (fun j hj => (hpre.lt j hj).2) (by omega) (fun f hf => Hgd.out f (List.mem_of_mem_take hf)) (by omega) (by omega) (by simp))
          have q1 : (0 : Int) ≤ (k : Int) := by omega
          have q2 : (k : Int) ≤ (cv : Int) := by omega
          clear hpre htk
          go_wp2_with fail
          with_reducible refine (HS.out).mono ?_
          rintro e w6 ⟨rfl, F', B, cc, l, h6, ha6, hl6⟩
          have HE := Lib.hid (And.intro h6 (And.intro ha6 hl6))
          clear h6 ha6 hl6 HS
          go_wp2_with fail
          go_meet
          case rel => exact ⟨F', B, cc, l, HE.out.1, HE.out.2.1, HE.out.2.2⟩
      case rest =>
        obtain ⟨F6, B1, cc1, l1, h6, ha6, hl1⟩ := hcut
        generalize wc = w6 at *
        have hw6 := ha6.frs Hw5.out
        have hrow6 := Hrow5.out.kp ha6.kp (fun j hj e => e.2 hj)
        have H6 := Lib.hid h6
        have Hw6 := Lib.hid hw6
        have Hrow6 := Lib.hid hrow6
        have Hl1 := Lib.hid hl1
        clear h6 hw6 hrow6 ha6 hl1 H5 Hw5 Hrow5
        go_upto_region 13 with (fail)
        go_cut [] (fun wx => ∃ F' B cc l, SpR W wx F' p (sp2 B1 B cc1 cc l1 l ((gs.take k).any elF) ((gs.drop k).any elF)) (.slice Av i cv) ∧ Aft w6 F6 (fun j => (Value.slice Av i cv).ownBlock = some j) wx F' ∧ l.map Fr.pu = (gs.drop k).map Fr.pu)
        case first =>
          have hdk : (gs.drop k).length = i - k := by rw [List.length_drop, Hgl.out]
          rcases Hrow6.out.2 with ⟨hv, hn0⟩ | ⟨g, off, cap, hv, hgW, hg, hnc, hcm, _, _, _⟩
          · cases hv
            obtain rfl : k = 0 := by omega
            have HS := Lib.hid (sp_send (r := ⟨0, 0, 0, false⟩) (q := ⟨4, 32, 0, 0⟩) (zs := [⟨0, 0, (gs.take 0).any elF, B1, cc1, l1⟩]) (next := 1) (top := 0) H6.out (A := none) (c := 0) (m := 0) (fl := gs.drop 0) hdk ⟨by simp [encs, List.eq_nil_of_length_eq_zero Hgl.out], (fun u hu => by simp [encs, List.eq_nil_of_length_eq_zero Hgl.out] at hu), .inl ⟨rfl, rfl⟩⟩ (fun f hf => by simp [List.eq_nil_of_length_eq_zero Hgl.out] at hf) (fun j hj => (by cases hj)) (by omega) (fun f hf => by simp [List.eq_nil_of_length_eq_zero Hgl.out] at hf) (by omega) (by omega) (by simp))
            clear hdk
            go_wp2_with fail
            with_reducible refine (HS.out).mono ?_
            rintro e w7 ⟨rfl, F', B, cc, l, h7, ha7, hl7⟩
            have HE := Lib.hid (And.intro h7 (And.intro ha7 hl7))
            clear h7 ha7 hl7 HS
            go_wp2_with fail
            go_meet
            case rel => exact ⟨F', B, cc, l, HE.out.1, HE.out.2.1, HE.out.2.2⟩
          · cases hv
            have hdr := Hrow6.out.drop k hki
            rw [encs_drop encF_len] at hdr
            have q1 : (0 : Int) ≤ (k : Int) := by omega
            have q2 : (k : Int) ≤ (i : Int) := by omega
            by_cases hck : cv = k
            · rw [if_pos hck] at hdr
              have hik : i = k := by omega
              subst hck
              subst hik
              rw [Nat.sub_self] at hdr hdk
              have HS := Lib.hid (sp_send (r := ⟨0, 0, 0, false⟩) (q := ⟨4, 32, 0, 0⟩) (zs := [⟨0, 0, (gs.take i).any elF, B1, cc1, l1⟩]) (next := 1) (top := 0) H6.out (m := 0) (fl := gs.drop i) hdk (hdr.src (encF_one _)) (fun f hf => Hw6.out.each f (List.mem_of_mem_drop hf)) (fun j hj => (hdr.lt j hj).2) (by omega) (fun f hf => Hgd.out f (List.mem_of_mem_drop hf)) (by omega) (by omega) (by simp))
              clear hdr hdk
              go_wp2_with fail
              with_reducible refine (HS.out).mono ?_
              rintro e w7 ⟨rfl, F', B, cc, l, h7, ha7, hl7⟩
              have HE := Lib.hid (And.intro h7 (And.intro ha7 hl7))
              clear h7 ha7 hl7 HS
              go_wp2_with fail
              go_meet
              case rel => exact ⟨F', B, cc, l, HE.out.1, HE.out.2.1, HE.out.2.2⟩
            · rw [if_neg hck] at hdr
              have HS := Lib.hid (sp_send (r := ⟨0, 0, 0, false⟩) (q := ⟨4, 32, 0, 0⟩) (zs := [⟨0, 0, (gs.take k).any elF, B1, cc1, l1⟩]) (next := 1) (top := 0) H6.out (m := i - k) (fl := gs.drop k) hdk (hdr.src (encF_one _)) (fun f hf => Hw6.out.each f (List.mem_of_mem_drop hf)) (fun j hj => (hdr.lt j hj).2) (by omega) (fun f hf => Hgd.out f (List.mem_of_mem_drop hf)) (by omega) (by omega) (by simp))
              clear hdr hdk
              go_wp2_with fail
              with_reducible refine (HS.out).mono ?_
              rintro e w7 ⟨rfl, F', B, cc, l, h7, ha7, hl7⟩
              have HE := Lib.hid (And.intro h7 (And.intro ha7 hl7))
              clear h7 ha7 hl7 HS
              go_wp2_with fail
              go_meet
              case rel => exact ⟨F', B, cc, l, HE.out.1, HE.out.2.1, HE.out.2.2⟩
        case rest =>
          obtain ⟨F7, B2, cc2, l2, h7, ha7, hl2⟩ := hcut
          generalize wc = w7 at *
          have hw7 := ha7.frs Hw6.out
          have hrow7 := Hrow6.out.kp ha7.kp (fun j hj e => e.2 hj)
          have HS := Lib.hid (sp_send (r := ⟨0, 0, 0, false⟩) (q := ⟨4, 32, 0, 0⟩) (zs := [⟨0, 0, (gs.take k).any elF, B1, cc1, l1⟩, ⟨1, 0, (gs.drop k).any elF, B2, cc2, l2⟩]) (next := 2) (top := 0) h7 (A := none) (c := 0) (m := 0) (fl := []) rfl ⟨rfl, (fun u hu => by cases hu), .inl ⟨rfl, rfl⟩⟩ (fun f hf => by cases hf) (fun j hj => (by cases hj)) (by omega) (fun f hf => by cases hf) (by omega) (by omega) (by simp))
          have Hw7 := Lib.hid hw7
          have Hrow7 := Lib.hid hrow7
          have Hl2 := Lib.hid hl2
          clear h7 hw7 hrow7 ha7 hl2 H6 Hw6 Hrow6
          go_wp2_with fail
          with_reducible refine (HS.out).mono ?_
          rintro e w8 ⟨rfl, F8, B3, cc3, l3, h8, ha8, hl3⟩
          obtain rfl : l3 = [] := by simpa using hl3
          have H8 : Hid (SpR W w8 F8 p (sp3 B1 B2 B3 cc1 cc2 cc3 l1 l2 ((gs.take k).any elF) ((gs.drop k).any elF)) (.slice Av i cv)) := Lib.hid h8
          have Hw8 := Lib.hid (ha8.frs Hw7.out)
          have Hrow8 := Lib.hid (Hrow7.out.kp ha8.kp (fun j hj e => e.2 hj))
          clear h8 ha8 hl3 Hw7 Hrow7 HS
          go_wp2_with fail
          go_loopw [62] (fun vi wr => ∃ j : Nat, j ≤ i ∧ vi = .int .i64 j ∧ Hid (∃ xs, RowAt wr W.heap.size 9 (.slice Av i cv) i xs) ∧ Hid (Kp (fun q => (Value.slice Av i cv).ownBlock = some q) w8 wr)) (fun vi _ => i - (intOf vi).toNat)
          case atStart => exact ⟨0, by omega, rfl, Lib.hid ⟨_, Hrow8.out⟩, Lib.hid (Kp.refl _ _)⟩
          case round =>
            obtain ⟨j, hji, rfl, HRow, HKv⟩ := hrel
            by_cases hlt : j < i
            · obtain ⟨xs, hxs⟩ := HRow.out
              obtain ⟨g, off, c', hvv, hgW, hg, hnc, hcm, hfz, hcell⟩ := hxs.full (by omega)
              cases hvv
              have hxl := hxs.1
              have hex : ∀ c, c < 9 → ∃ u, wr.cell? ⟨g, off + (j * 9 + c), none⟩ = some u := fun c hc => ⟨_, hcell (j * 9 + c) _ (List.getElem?_eq_getElem (by rw [hxl]; omega))⟩
              obtain ⟨u0, e0⟩ := hex 0 (by omega)
              obtain ⟨u1, e1⟩ := hex 1 (by omega)
              obtain ⟨u2, e2⟩ := hex 2 (by omega)
              obtain ⟨u3, e3⟩ := hex 3 (by omega)
              obtain ⟨u4, e4⟩ := hex 4 (by omega)
              obtain ⟨u5, e5⟩ := hex 5 (by omega)
              obtain ⟨u6, e6⟩ := hex 6 (by omega)
              obtain ⟨u7, e7⟩ := hex 7 (by omega)
              obtain ⟨u8, e8⟩ := hex 8 (by omega)
              rw [Nat.add_zero] at e0
              rw [← Nat.add_assoc] at e1 e2 e3 e4 e5 e6 e7 e8
              have f0 := hfz (off + j * 9)
              have f1 := hfz (off + j * 9 + 1)
              have f2 := hfz (off + j * 9 + 2)
              have f3 := hfz (off + j * 9 + 3)
              have f4 := hfz (off + j * 9 + 4)
              have f5 := hfz (off + j * 9 + 5)
              have f6 := hfz (off + j * 9 + 6)
              have f7 := hfz (off + j * 9 + 7)
              have f8 := hfz (off + j * 9 + 8)
              have q1 : (j : Int) < (i : Int) := by omega
              have q3 : (0 : Int) ≤ (j : Int) := by omega
              have hset := ((((((((hxs.set (j * 9 + 0) (.int .i64 12) (by omega)).set (j * 9 + 1) (.int .i64 0) (by omega)).set (j * 9 + 2) (.int .i64 0) (by omega)).set (j * 9 + 3) (.int .i64 0) (by omega)).set (j * 9 + 4) (.int .i64 0) (by omega)).set (j * 9 + 5) (.int .i64 0) (by omega)).set (j * 9 + 6) (.bool false) (by omega)).set (j * 9 + 7) (.slice none 0 0) (by omega)).set (j * 9 + 8) (.slice none 0 0) (by omega)
              simp only [Nat.add_zero, ← Nat.add_assoc] at hset
              have hkk := (((((((((Kp.refl (fun q => (Value.slice (some ⟨g, off, none⟩) i cv).ownBlock = some q) wr).set (p := ⟨g, off + j * 9, none⟩) (.inl rfl) (.int .i64 12)).set (p := ⟨g, off + j * 9 + 1, none⟩) (.inl rfl) (.int .i64 0)).set (p := ⟨g, off + j * 9 + 2, none⟩) (.inl rfl) (.int .i64 0)).set (p := ⟨g, off + j * 9 + 3, none⟩) (.inl rfl) (.int .i64 0)).set (p := ⟨g, off + j * 9 + 4, none⟩) (.inl rfl) (.int .i64 0)).set (p := ⟨g, off + j * 9 + 5, none⟩) (.inl rfl) (.int .i64 0)).set (p := ⟨g, off + j * 9 + 6, none⟩) (.inl rfl) (.bool false)).set (p := ⟨g, off + j * 9 + 7, none⟩) (.inl rfl) (.slice none 0 0)).set (p := ⟨g, off + j * 9 + 8, none⟩) (.inl rfl) (.slice none 0 0)
              have Hset := Lib.hid hset
              have Hkk := Lib.hid hkk
              clear hxs hcell hfz hset hkk hex hxl
              go_wp2_with fail
              go_roundw
              case rel => exact ⟨j + 1, by omega, by go_num, Lib.hid ⟨_, Hset.out⟩, Lib.hid (HKv.out.trans Hkk.out)⟩
              case measure => simp [intOf]; omega
            · obtain rfl : j = i := by omega
              have H9 := Lib.hid (H8.out.turn HKv.out)
              have Hw9 := Lib.hid (H8.out.keep Hw8.out HKv.out)
              generalize wr = w9 at *
              clear HRow HKv Hw8 H8 Hrow8
              go_upto_block 4 with (with_reducible refine (pick_natR _ _ _ (by omega) (by omega)).mono ?_; rintro e w' ⟨hw, hhw, rfl, rfl⟩)
              have hpu : (l1 ++ l2).map Fr.pu = gs.map Fr.pu := by rw [List.map_append, Hl1.out, Hl2.out, ← List.map_append, List.take_append_drop]
              have hll : (l1 ++ l2).length = j := by
                have := congrArg List.length hpu
                rw [List.length_map, List.length_map, Hgl.out] at this
                exact this
              have Hpu := Lib.hid hpu
              have Hll := Lib.hid hll
              clear hpu hll
              go_cut [13, 14] (fun s13 s14 wx => ∃ F' Rg got s', s13 = .slice Rg j j ∧ s14 = .int .i64 0 ∧ FrsR wx F' (.slice Rg j j) got ∧ FrsR wx F' (.slice A5 j c5) gs ∧ got.map Fr.pu = gs.map Fr.pu ∧ SpR W wx F' p s' (.slice Av j cv))
              case first =>
                by_cases w0 : hw = 0
                · subst w0
                  as_aux_lemma =>
                    have HH := Lib.hid (c0_heard H9.out Hw9.out Hll.out hn8)
                    go_wp2_with fail
                    with_reducible refine (HH.out).mono ?_
                    rintro e w11 ⟨Rg, rfl, F', s', h1, h2, h3⟩
                    have HE := Lib.hid (And.intro h1 (And.intro h2 h3))
                    clear h1 h2 h3 HH
                    go_wp2_with fail
                    go_meet
                    case rel => exact ⟨F', Rg, l1 ++ l2, s', rfl, rfl, HE.out.2.1, HE.out.2.2, Hpu.out, HE.out.1⟩
                · by_cases w1 : hw = 1
                  · subst w1
                    clear w0
                    as_aux_lemma =>
                      have HS := Lib.hid (c1_send H9.out Hw9.out)
                      go_upto_region 26 with (fail)
                      iterate 11 go_step
                      refine two_pings _ _ _ _ _ _ _ _ _ rfl rfl ?_
                      try simp only [Act.put, List.setIfInBounds_toArray, List.set_cons_zero, List.set_cons_succ]
                      go_wp2_with fail
                      with_reducible refine (HS.out).mono ?_
                      rintro e w11 ⟨rfl, F11, B4, cc4, l4, h11, hl4, hw11⟩
                      have HH := Lib.hid (c1_heard h11 hw11 hl4)
                      clear h11 hl4 hw11 HS
                      go_wp2_with fail
                      with_reducible refine (HH.out).mono ?_
                      rintro e w13 ⟨Rq, T, rfl, F13, h13, hw13⟩
                      have HL := Lib.hid (c1_late h13 hw13 Hll.out hn8)
                      clear h13 hw13 HH
                      go_wp2_with fail
                      with_reducible refine (HL.out).mono ?_
                      rintro e w14 ⟨Rg, rfl, F', s', h1, h2, h3⟩
                      have HE := Lib.hid (And.intro h1 (And.intro h2 h3))
                      clear h1 h2 h3 HL
                      go_wp2_with fail
                      go_meet
                      case rel => exact ⟨F', Rg, l1 ++ l2, s', rfl, rfl, HE.out.2.1, HE.out.2.2, Hpu.out, HE.out.1⟩
                  · obtain rfl : hw = 2 := by omega
                    clear w0 w1
                    as_aux_lemma =>
                      go_wp2_with fail
                      go_loopw [15, 98] (fun vb vi wr => ∃ (q : Nat) (b : Bool), q ≤ j ∧ vi = .int .i64 q ∧ vb = .bool b ∧ Hid (b = (gs.take q).any elF) ∧ Hid (Kp (fun _ => False) w9 wr)) (fun _ vi _ => j - (intOf vi).toNat)
                      case atStart => exact ⟨0, false, by omega, rfl, rfl, Lib.hid rfl, Lib.hid (Kp.refl _ _)⟩
                      case round =>
                        obtain ⟨q, b, hqj, rfl, rfl, Hb, HKq⟩ := hrel
                        by_cases hlt : q < j
                        · obtain ⟨b2, o2, c2, hv2, hb2, hcc2⟩ := Src.wide Hw9.out.row (by rw [Hgl.out]; omega) (by omega)
                          rw [Hgl.out] at hv2
                          cases hv2
                          obtain ⟨y, hy⟩ : ∃ y, gs[q]? = some y := ⟨_, List.getElem?_eq_getElem (by rw [Hgl.out]; exact hlt)⟩
                          have Hts := Lib.hid (any_take_succ hy)
                          rw [← Hb.out] at Hts
                          have d0 := (HKq.out.cell (p := ⟨b2, _, none⟩) hb2 (fun h => h)).trans (hcc2 _ _ (ff0 hy))
                          obtain ⟨⟨yk, yi, yo, ya, yb, yn, yf⟩, ydA, ydc, ysA, ysc, yd, ys⟩ := y
                          dsimp only at d0
                          have q1 : (q : Int) < (j : Int) := by omega
                          have q3 : (0 : Int) ≤ (q : Int) := by omega
                          clear hcc2 hy
                          cases b
                          · by_cases h2 : yk = 2
                            · subst h2
                              go_wp2_with fail
                              go_roundw
                              case rel => exact ⟨q + 1, false, by omega, by go_num, rfl, Lib.hid (by rw [Hts.out]; rfl), HKq⟩
                              case measure => simp [intOf]; omega
                            · have b2 : (yk != 2) = true := by simp [h2]
                              by_cases h12 : yk = 12
                              · subst h12
                                clear b2 h2
                                go_wp2_with fail
                                go_roundw
                                case rel => exact ⟨q + 1, false, by omega, by go_num, rfl, Lib.hid (by rw [Hts.out]; rfl), HKq⟩
                                case measure => simp [intOf]; omega
                              · have b12 : (yk != 12) = true := by simp [h12]
                                have He := Lib.hid (elF_yes (yi := yi) (yo := yo) (ya := ya) (yb := yb) (yn := yn) (yf := yf) (ydA := ydA) (ysA := ysA) (ydc := ydc) (ysc := ysc) (yd := yd) (ys := ys) h2 h12)
                                go_wp2_with fail
                                go_roundw
                                case rel => exact ⟨q + 1, true, by omega, by go_num, rfl, Lib.hid (by rw [Hts.out, He.out]; rfl), HKq⟩
                                case measure => simp [intOf]; omega
                          · go_wp2_with fail
                            go_roundw
                            case rel => exact ⟨q + 1, true, by omega, by go_num, rfl, Lib.hid (by rw [Hts.out]; rfl), HKq⟩
                            case measure => simp [intOf]; omega
                        · obtain rfl : q = j := by omega
                          have hany : b = ((gs.take k).any elF || (gs.drop k).any elF) := Hb.out.trans (any_parts Hgl.out k)
                          have HA := Lib.hid (H9.out.no HKq.out)
                          have HwA := Lib.hid (H9.out.keep Hw9.out HKq.out.no)
                          clear H9 Hw9 HKq Hb
                          have Hany := Lib.hid hany
                          clear hany
                          cases b
                          · have HH := Lib.hid (c2_no HA.out Hany.out.symm)
                            go_wp2_with fail
                            with_reducible refine (HH.out).mono ?_
                            rintro e w11 ⟨rfl, hk11⟩
                            have HBe : Hid (Below W.heap.size W w11) := Lib.hid (HA.out.no hk11).below
                            clear hk11 HH
                            go_wp2_with fail
                            go_ret
                            exact ⟨rfl, HBe.out⟩
                          · have HH := Lib.hid (c2_yes HA.out HwA.out Hll.out hn8 Hany.out.symm)
                            go_wp2_with fail
                            with_reducible refine (HH.out).mono ?_
                            rintro e w11 ⟨Rg, rfl, F', s', h1, h2, h3⟩
                            have HE := Lib.hid (And.intro h1 (And.intro h2 h3))
                            clear h1 h2 h3 HH
                            go_wp2_with fail
                            go_meet
                            case rel => exact ⟨F', Rg, l1 ++ l2, s', rfl, rfl, HE.out.2.1, HE.out.2.2, Hpu.out, HE.out.1⟩
              case rest =>
                obtain ⟨F', Rg, got, s', rfl, rfl, hg1, hg2, hpu, hsp⟩ := hcut
                generalize wc = wA at *
                have hgotl : got.length = j := by
                  have := congrArg List.length hpu
                  rw [List.length_map, List.length_map, Hgl.out] at this
                  exact this
                have Hg1 := Lib.hid hg1
                have Hg2 := Lib.hid hg2
                have Hpu' := Lib.hid hpu
                have Hgotl := Lib.hid hgotl
                have HB := Lib.hid hsp.below
                clear hg1 hg2 hpu hgotl hsp H9 Hw9
                go_wp2_with fail
                go_loopw [139] (fun vi wr => ∃ q : Nat, q ≤ j ∧ vi = .int .i64 q ∧ Hid (Kp (fun _ => False) wA wr)) (fun vi _ => j - (intOf vi).toNat)
                case atStart => exact ⟨0, by omega, rfl, Lib.hid (Kp.refl _ _)⟩
                case round =>
                  obtain ⟨q, hqj, rfl, HKq⟩ := hrel
                  by_cases hlt : q < j
                  · obtain ⟨b1, o1, c1, hv1, hb1, hcc1⟩ := Src.wide Hg1.out.row (by rw [Hgotl.out]; omega) (by omega)
                    obtain ⟨b2, o2, c2, hv2, hb2, hcc2⟩ := Src.wide Hg2.out.row (by rw [Hgl.out]; omega) (by omega)
                    rw [Hgotl.out] at hv1
                    rw [Hgl.out] at hv2
                    cases hv1
                    cases hv2
                    obtain ⟨x, hx⟩ : ∃ x, got[q]? = some x := ⟨_, List.getElem?_eq_getElem (by rw [Hgotl.out]; exact hlt)⟩
                    obtain ⟨y, hy⟩ : ∃ y, gs[q]? = some y := ⟨_, List.getElem?_eq_getElem (by rw [Hgl.out]; exact hlt)⟩
                    have hxy : x.pu = y.pu := by
                      have h1 : (got.map Fr.pu)[q]? = some x.pu := by rw [List.getElem?_map, hx]; rfl
                      have h2 : (gs.map Fr.pu)[q]? = some y.pu := by rw [List.getElem?_map, hy]; rfl
                      rw [Hpu'.out, h2] at h1
                      exact (Option.some.inj h1).symm
                    have hy8 := (Hgd.out y (List.mem_of_getElem? hy)).2
                    have hrx := (Hg1.out.each x (List.mem_of_getElem? hx)).kp HKq.out (fun _ _ h => h)
                    have hry := (Hg2.out.each y (List.mem_of_getElem? hy)).kp HKq.out (fun _ _ h => h)
                    have E1 : ∀ c u, (encs encF got)[q * 9 + c]? = some u → wr.cell? ⟨b1, o1 + (q * 9 + c), none⟩ = some u := fun c u h => (HKq.out.cell (p := ⟨b1, _, none⟩) hb1 (fun h => h)).trans (hcc1 _ _ h)
                    have E2 : ∀ c u, (encs encF gs)[q * 9 + c]? = some u → wr.cell? ⟨b2, o2 + (q * 9 + c), none⟩ = some u := fun c u h => (HKq.out.cell (p := ⟨b2, _, none⟩) hb2 (fun h => h)).trans (hcc2 _ _ h)
                    have e0 := E1 0 _ (ff0 hx)
                    have e1 := E1 1 _ (ff1 hx)
                    have e2 := E1 2 _ (ff2 hx)
                    have e3 := E1 3 _ (ff3 hx)
                    have e4 := E1 4 _ (ff4 hx)
                    have e5 := E1 5 _ (ff5 hx)
                    have e6 := E1 6 _ (ff6 hx)
                    have e7 := E1 7 _ (ff7 hx)
                    have e8 := E1 8 _ (ff8 hx)
                    have d0 := E2 0 _ (ff0 hy)
                    have d1 := E2 1 _ (ff1 hy)
                    have d2 := E2 2 _ (ff2 hy)
                    have d3 := E2 3 _ (ff3 hy)
                    have d4 := E2 4 _ (ff4 hy)
                    have d5 := E2 5 _ (ff5 hy)
                    have d6 := E2 6 _ (ff6 hy)
                    have d7 := E2 7 _ (ff7 hy)
                    have d8 := E2 8 _ (ff8 hy)
                    rw [Nat.add_zero] at e0 d0
                    rw [← Nat.add_assoc] at e1 e2 e3 e4 e5 e6 e7 e8 d1 d2 d3 d4 d5 d6 d7 d8
                    obtain ⟨⟨xk, xi, xo, xa, xb, xn, xf⟩, xdA, xdc, xsA, xsc, xd, xs⟩ := x
                    obtain ⟨⟨yk, yi, yo, ya, yb, yn, yf⟩, ydA, ydc, ysA, ysc, yd, ys⟩ := y
                    simp only [Fr.pu, Prod.mk.injEq, Hd.mk.injEq] at hxy
                    obtain ⟨⟨rfl, rfl, rfl, rfl, rfl, rfl, rfl⟩, rfl, rfl⟩ := hxy
                    dsimp only at e0 e1 e2 e3 e4 e5 e6 e7 e8 d0 d1 d2 d3 d4 d5 d6 d7 d8 hy8
                    have HSm : Hid (∀ w', Kp (fun _ => False) wr w' → Calls Try.prog 14 #[.agg #[.int .i64 xk, .int .i64 xi, .int .i64 xo, .int .i64 xa, .int .i64 xb, .int .i64 xn, .bool xf, .slice xdA xd.length xdc, .slice xsA xs.length xsc], .agg #[.int .i64 xk, .int .i64 xi, .int .i64 xo, .int .i64 xa, .int .i64 xb, .int .i64 xn, .bool xf, .slice ydA xd.length ydc, .slice ysA xs.length ysc]] w' fun e w2 => e = .returned (.bool true) ∧ Kp (fun _ => False) w' w2) := Lib.hid (fun w' hk => same_yes (f := ⟨⟨xk, xi, xo, xa, xb, xn, xf⟩, xdA, xdc, xsA, xsc, xd, xs⟩) (g := ⟨⟨xk, xi, xo, xa, xb, xn, xf⟩, ydA, ydc, ysA, ysc, xd, xs⟩) (hrx.kp hk (fun _ _ h => h)) (hry.kp hk (fun _ _ h => h)) ⟨rfl, rfl, rfl, rfl, rfl, rfl, rfl, rfl⟩ hy8)
                    have hbw1 := Nat.lt_of_lt_of_le hb1 HKq.out.size
                    have hbw2 := Nat.lt_of_lt_of_le hb2 HKq.out.size
                    have q1 : (q : Int) < (j : Int) := by omega
                    have q3 : (0 : Int) ≤ (q : Int) := by omega
                    have HE1 : Hid (∀ w', Kp (fun _ => False) wr w' → ∀ c u, wr.cell? ⟨b1, c, none⟩ = some u → w'.cell? ⟨b1, c, none⟩ = some u) := Lib.hid (fun w' hk c u h => (hk.cell (p := ⟨b1, c, none⟩) hbw1 (fun h => h)).trans h)
                    have HE2 : Hid (∀ w', Kp (fun _ => False) wr w' → ∀ c u, wr.cell? ⟨b2, c, none⟩ = some u → w'.cell? ⟨b2, c, none⟩ = some u) := Lib.hid (fun w' hk c u h => (hk.cell (p := ⟨b2, c, none⟩) hbw2 (fun h => h)).trans h)
                    clear hcc1 hcc2 E1 E2 hx hy hrx hry
                    generalize xd.length = xdl at *
                    generalize xs.length = xsl at *
                    go_wp2_with fail
                    refine wp_region_held_drew (S := (fun w' => Kp (fun _ => False) wr w')) (by kernel_rfl) ((Kp.refl _ _).drew) (fun hHeld => ?_)
                    refine wpAnyH_take (i := 0) (oi := { dst := some 142, op := Op.move (.tmp 13), type := _, pos := _, after := _, guard := _ }) (v := ?_) rfl (by kernel_rfl) (by kernel_rfl) (by kernel_rfl) (fun _ _ _ h => h) (Or.inl ⟨by rfl, ?_⟩) hHeld ?_
                    rotate_left
                    · intro w99 hSw
                      first | (go_simp; done) | (go_simp; with_reducible rfl)
                    try simp only [Act.put, List.setIfInBounds_toArray, List.set_cons_zero, List.set_cons_succ]
                    refine wpAnyH_take (i := 1) (oi := { dst := some 143, op := Op.move (.tmp 18), type := _, pos := _, after := _, guard := _ }) (v := ?_) rfl (by kernel_rfl) (by kernel_rfl) (by kernel_rfl) (fun _ _ _ h => h) (Or.inl ⟨by rfl, ?_⟩) hHeld ?_
                    rotate_left
                    · intro w99 hSw
                      first | (go_simp; done) | (go_simp; with_reducible rfl)
                    try simp only [Act.put, List.setIfInBounds_toArray, List.set_cons_zero, List.set_cons_succ]
                    refine wpAnyH_take (i := 2) (oi := { dst := some 144, op := Op.indexAddr 26 (.tmp 142) (.tmp 143), type := _, pos := _, after := _, guard := _ }) (v := ?_) rfl (by kernel_rfl) (by kernel_rfl) (by kernel_rfl) (fun _ _ _ h => h) (Or.inl ⟨by rfl, ?_⟩) hHeld ?_
                    rotate_left
                    · intro w99 hSw
                      first | (go_simp; done) | (go_simp; with_reducible rfl)
                    try simp only [Act.put, List.setIfInBounds_toArray, List.set_cons_zero, List.set_cons_succ]
                    refine wpAnyH_take (i := 3) (oi := { dst := some 145, op := Op.fieldAddr 31 (.tmp 144) 5, type := _, pos := _, after := _, guard := _ }) (v := ?_) rfl (by kernel_rfl) (by kernel_rfl) (by kernel_rfl) (fun _ _ _ h => h) (Or.inl ⟨by rfl, ?_⟩) hHeld ?_
                    rotate_left
                    · intro w99 hSw
                      first | (go_simp; done) | (go_simp; with_reducible rfl)
                    try simp only [Act.put, List.setIfInBounds_toArray, List.set_cons_zero, List.set_cons_succ]
                    refine wpAnyH_take (i := 4) (oi := { dst := some 146, op := Op.load 3 (.tmp 145), type := _, pos := _, after := _, guard := _ }) (v := ?_) rfl (by kernel_rfl) (by kernel_rfl) (by kernel_rfl) (fun _ _ _ h => h) (Or.inl ⟨by rfl, ?_⟩) hHeld ?_
                    rotate_left
                    · intro w99 hSw
                      have e5 := HE1.out w99 hSw _ _ e5; first | (go_simp; done) | (go_simp; with_reducible rfl)
                    try simp only [Act.put, List.setIfInBounds_toArray, List.set_cons_zero, List.set_cons_succ]
                    refine wpAnyH_take (i := 5) (oi := { dst := some 147, op := Op.move (.tmp 10), type := _, pos := _, after := _, guard := _ }) (v := ?_) rfl (by kernel_rfl) (by kernel_rfl) (by kernel_rfl) (fun _ _ _ h => h) (Or.inl ⟨by rfl, ?_⟩) hHeld ?_
                    rotate_left
                    · intro w99 hSw
                      first | (go_simp; done) | (go_simp; with_reducible rfl)
                    try simp only [Act.put, List.setIfInBounds_toArray, List.set_cons_zero, List.set_cons_succ]
                    refine wpAnyH_take (i := 6) (oi := { dst := some 148, op := Op.move (.tmp 18), type := _, pos := _, after := _, guard := _ }) (v := ?_) rfl (by kernel_rfl) (by kernel_rfl) (by kernel_rfl) (fun _ _ _ h => h) (Or.inl ⟨by rfl, ?_⟩) hHeld ?_
                    rotate_left
                    · intro w99 hSw
                      first | (go_simp; done) | (go_simp; with_reducible rfl)
                    try simp only [Act.put, List.setIfInBounds_toArray, List.set_cons_zero, List.set_cons_succ]
                    refine wpAnyH_take (i := 7) (oi := { dst := some 149, op := Op.indexAddr 26 (.tmp 147) (.tmp 148), type := _, pos := _, after := _, guard := _ }) (v := ?_) rfl (by kernel_rfl) (by kernel_rfl) (by kernel_rfl) (fun _ _ _ h => h) (Or.inl ⟨by rfl, ?_⟩) hHeld ?_
                    rotate_left
                    · intro w99 hSw
                      first | (go_simp; done) | (go_simp; with_reducible rfl)
                    try simp only [Act.put, List.setIfInBounds_toArray, List.set_cons_zero, List.set_cons_succ]
                    refine wpAnyH_take (i := 8) (oi := { dst := some 150, op := Op.fieldAddr 31 (.tmp 149) 5, type := _, pos := _, after := _, guard := _ }) (v := ?_) rfl (by kernel_rfl) (by kernel_rfl) (by kernel_rfl) (fun _ _ _ h => h) (Or.inl ⟨by rfl, ?_⟩) hHeld ?_
                    rotate_left
                    · intro w99 hSw
                      first | (go_simp; done) | (go_simp; with_reducible rfl)
                    try simp only [Act.put, List.setIfInBounds_toArray, List.set_cons_zero, List.set_cons_succ]
                    refine wpAnyH_take (i := 9) (oi := { dst := some 151, op := Op.load 3 (.tmp 150), type := _, pos := _, after := _, guard := _ }) (v := ?_) rfl (by kernel_rfl) (by kernel_rfl) (by kernel_rfl) (fun _ _ _ h => h) (Or.inl ⟨by rfl, ?_⟩) hHeld ?_
                    rotate_left
                    · intro w99 hSw
                      have d5 := HE2.out w99 hSw _ _ d5; first | (go_simp; done) | (go_simp; with_reducible rfl)
                    try simp only [Act.put, List.setIfInBounds_toArray, List.set_cons_zero, List.set_cons_succ]
                    refine wpAnyH_take (i := 10) (oi := { dst := some 152, op := Op.binOp BinOp.neq 3 (.tmp 146) (.tmp 151) 3, type := _, pos := _, after := _, guard := _ }) (v := ?_) rfl (by kernel_rfl) (by kernel_rfl) (by kernel_rfl) (fun _ _ _ h => h) (Or.inl ⟨by rfl, ?_⟩) hHeld ?_
                    rotate_left
                    · intro w99 hSw
                      first | (go_simp; done) | (go_simp; with_reducible rfl)
                    try simp only [Act.put, List.setIfInBounds_toArray, List.set_cons_zero, List.set_cons_succ]
                    refine wpAnyH_take (i := 11) (oi := { dst := some 153, op := Op.move (.tmp 152), type := _, pos := _, after := _, guard := _ }) (v := ?_) rfl (by kernel_rfl) (by kernel_rfl) (by kernel_rfl) (fun _ _ _ h => h) (Or.inl ⟨by rfl, ?_⟩) hHeld ?_
                    rotate_left
                    · intro w99 hSw
                      first | (go_simp; done) | (go_simp; with_reducible rfl)
                    try simp only [Act.put, List.setIfInBounds_toArray, List.set_cons_zero, List.set_cons_succ]
                    refine wpAnyH_take (i := 12) (oi := { dst := some 154, op := Op.move (.tmp 13), type := _, pos := _, after := _, guard := _ }) (v := ?_) rfl (by kernel_rfl) (by kernel_rfl) (by kernel_rfl) (fun _ _ _ h => h) (Or.inl ⟨by rfl, ?_⟩) hHeld ?_
                    rotate_left
                    · intro w99 hSw
                      first | (go_simp; done) | (go_simp; with_reducible rfl)
                    try simp only [Act.put, List.setIfInBounds_toArray, List.set_cons_zero, List.set_cons_succ]
                    refine wpAnyH_take (i := 13) (oi := { dst := some 155, op := Op.move (.tmp 18), type := _, pos := _, after := _, guard := _ }) (v := ?_) rfl (by kernel_rfl) (by kernel_rfl) (by kernel_rfl) (fun _ _ _ h => h) (Or.inl ⟨by rfl, ?_⟩) hHeld ?_
                    rotate_left
                    · intro w99 hSw
                      first | (go_simp; done) | (go_simp; with_reducible rfl)
                    try simp only [Act.put, List.setIfInBounds_toArray, List.set_cons_zero, List.set_cons_succ]
                    refine wpAnyH_take (i := 14) (oi := { dst := some 156, op := Op.indexAddr 26 (.tmp 154) (.tmp 155), type := _, pos := _, after := _, guard := _ }) (v := ?_) rfl (by kernel_rfl) (by kernel_rfl) (by kernel_rfl) (fun _ _ _ h => h) (Or.inl ⟨by rfl, ?_⟩) hHeld ?_
                    rotate_left
                    · intro w99 hSw
                      first | (go_simp; done) | (go_simp; with_reducible rfl)
                    try simp only [Act.put, List.setIfInBounds_toArray, List.set_cons_zero, List.set_cons_succ]
                    refine wpAnyH_take (i := 15) (oi := { dst := some 157, op := Op.load 31 (.tmp 156), type := _, pos := _, after := _, guard := _ }) (v := ?_) rfl (by kernel_rfl) (by kernel_rfl) (by kernel_rfl) (fun _ _ _ h => h) (Or.inl ⟨by rfl, ?_⟩) hHeld ?_
                    rotate_left
                    · intro w99 hSw
                      have e0 := HE1.out w99 hSw _ _ e0; have e1 := HE1.out w99 hSw _ _ e1; have e2 := HE1.out w99 hSw _ _ e2; have e3 := HE1.out w99 hSw _ _ e3; have e4 := HE1.out w99 hSw _ _ e4; have e5 := HE1.out w99 hSw _ _ e5; have e6 := HE1.out w99 hSw _ _ e6; have e7 := HE1.out w99 hSw _ _ e7; have e8 := HE1.out w99 hSw _ _ e8; first | (go_simp; done) | (go_simp; with_reducible rfl)
                    try simp only [Act.put, List.setIfInBounds_toArray, List.set_cons_zero, List.set_cons_succ]
                    refine wpAnyH_take (i := 16) (oi := { dst := some 158, op := Op.move (.tmp 10), type := _, pos := _, after := _, guard := _ }) (v := ?_) rfl (by kernel_rfl) (by kernel_rfl) (by kernel_rfl) (fun _ _ _ h => h) (Or.inl ⟨by rfl, ?_⟩) hHeld ?_
                    rotate_left
                    · intro w99 hSw
                      first | (go_simp; done) | (go_simp; with_reducible rfl)
                    try simp only [Act.put, List.setIfInBounds_toArray, List.set_cons_zero, List.set_cons_succ]
                    refine wpAnyH_take (i := 17) (oi := { dst := some 159, op := Op.move (.tmp 18), type := _, pos := _, after := _, guard := _ }) (v := ?_) rfl (by kernel_rfl) (by kernel_rfl) (by kernel_rfl) (fun _ _ _ h => h) (Or.inl ⟨by rfl, ?_⟩) hHeld ?_
                    rotate_left
                    · intro w99 hSw
                      first | (go_simp; done) | (go_simp; with_reducible rfl)
                    try simp only [Act.put, List.setIfInBounds_toArray, List.set_cons_zero, List.set_cons_succ]
                    refine wpAnyH_take (i := 18) (oi := { dst := some 160, op := Op.indexAddr 26 (.tmp 158) (.tmp 159), type := _, pos := _, after := _, guard := _ }) (v := ?_) rfl (by kernel_rfl) (by kernel_rfl) (by kernel_rfl) (fun _ _ _ h => h) (Or.inl ⟨by rfl, ?_⟩) hHeld ?_
                    rotate_left
                    · intro w99 hSw
                      first | (go_simp; done) | (go_simp; with_reducible rfl)
                    try simp only [Act.put, List.setIfInBounds_toArray, List.set_cons_zero, List.set_cons_succ]
                    refine wpAnyH_take (i := 19) (oi := { dst := some 161, op := Op.load 31 (.tmp 160), type := _, pos := _, after := _, guard := _ }) (v := ?_) rfl (by kernel_rfl) (by kernel_rfl) (by kernel_rfl) (fun _ _ _ h => h) (Or.inl ⟨by rfl, ?_⟩) hHeld ?_
                    rotate_left
                    · intro w99 hSw
                      have d0 := HE2.out w99 hSw _ _ d0; have d1 := HE2.out w99 hSw _ _ d1; have d2 := HE2.out w99 hSw _ _ d2; have d3 := HE2.out w99 hSw _ _ d3; have d4 := HE2.out w99 hSw _ _ d4; have d5 := HE2.out w99 hSw _ _ d5; have d6 := HE2.out w99 hSw _ _ d6; have d7 := HE2.out w99 hSw _ _ d7; have d8 := HE2.out w99 hSw _ _ d8; first | (go_simp; done) | (go_simp; with_reducible rfl)
                    try simp only [Act.put, List.setIfInBounds_toArray, List.set_cons_zero, List.set_cons_succ]
                    refine wpAnyH_ready (rs := [20]) (by kernel_rfl) (by simp) (AllReadyH.cons (o := { dst := some 162, op := Op.call { callee := Callee.value (Operand.func 14), args := #[(.tmp 157), (.tmp 161)], argTypes := #[31, 31] }, type := _, pos := _, after := _, guard := _ }) rfl (fun K hK => ?_) AllReadyH.nil)
                    go_simp
                    with_reducible refine (HSm.out _ hHeld).mono ?_
                    rintro e w' ⟨rfl, hkh⟩
                    go_wp2_with fail
                    have hx9 := (hHeld.trans hkh)
                    refine hK.out _ _ hx9 (fun _ => ?_)
                    clear hK hHeld
                    have hHeld := hx9
                    clear hx9
                    clear hkh
                    generalize w' = wd20 at *
                    try simp only [Act.put, List.setIfInBounds_toArray, List.set_cons_zero, List.set_cons_succ]
                    refine wpAnyH_take (i := 21) (oi := { dst := some 163, op := Op.unOp UnOp.not 4 (.tmp 162), type := _, pos := _, after := _, guard := _ }) (v := ?_) rfl (by kernel_rfl) (by kernel_rfl) (by kernel_rfl) (fun _ _ _ h => h) (Or.inl ⟨by rfl, ?_⟩) hHeld ?_
                    rotate_left
                    · intro w99 hSw
                      first | (go_simp; done) | (go_simp; with_reducible rfl)
                    try simp only [Act.put, List.setIfInBounds_toArray, List.set_cons_zero, List.set_cons_succ]
                    refine wpAnyH_take (i := 22) (oi := { dst := some 164, op := Op.pick (.tmp 153) (.const (Value.bool true)) (.tmp 163), type := _, pos := _, after := _, guard := _ }) (v := ?_) rfl (by kernel_rfl) (by kernel_rfl) (by kernel_rfl) (fun _ _ _ h => h) (Or.inl ⟨by rfl, ?_⟩) hHeld ?_
                    rotate_left
                    · intro w99 hSw
                      first | (go_simp; done) | (go_simp; with_reducible rfl)
                    try simp only [Act.put, List.setIfInBounds_toArray, List.set_cons_zero, List.set_cons_succ]
                    refine wpAnyH_done (by kernel_rfl) ?_ _
                    have Hh := Lib.hid hHeld
                    clear hHeld
                    go_wp2_with fail
                    go_roundw
                    case rel => exact ⟨q + 1, by omega, by go_num, Lib.hid (HKq.out.trans Hh.out)⟩
                    case measure => simp [intOf]; omega
                  · obtain rfl : q = j := by omega
                    have HBe : Hid (Below W.heap.size W wr) := Lib.hid (HB.out.trans (HKq.out.below (by have := HB.out.size; exact this) (fun _ h => h.elim)))
                    go_wp2_with fail
                    go_ret
                    exact ⟨rfl, HBe.out⟩
end Go.Proofs.Ytoiakdddghbdnaa
