/-
  Package spans: Of, Union.
-/
import Derived.Test.YtdcbgjbhoejpnaaSpan5
import Derived.Test.YtdcbgjbhoejpnaaSpan2
import Derived.Laws.Rows
namespace Go.Proofs.Ytdcbgjbhoejpnaa
open Go.RowKit

/-- Ints as cells. -/
def encN (l : List Int) : List Value := l.map (Value.int .i64)
theorem encN_get (l : List Int) (i : Nat) (x : Int) (h : l[i]? = some x) : (encN l)[i]? = some (.int .i64 x) := by simp [encN, h]
theorem encN_one (l : List Int) : ∀ u ∈ encN l, u.oneCell' = true := fun u hu => by
  obtain ⟨x, _, rfl⟩ := List.mem_map.1 hu
  rfl

/-- What Of makes of one number, of some. -/
def ofStep (L : List Pr) (x : Int) : List Pr := if 0 ≤ x ∧ x < EndS then addS L x (x + 1) else L
def ofL (xs : List Int) : List Pr := xs.foldl ofStep []
theorem of_snoc {xs : List Int} {i : Nat} {x : Int} (h : xs[i]? = some x) : ofL (xs.take (i + 1)) = ofStep (ofL (xs.take i)) x := by
  rw [ofL, List.take_add_one, h, List.foldl_append]; rfl

theorem set_form {w : World} {s : Nat} {v : Value} {L : List Pr} (h : SetAt w s v L) : ∃ A c, v = .slice A L.length c := by
  rcases h.src.2.2 with ⟨h1, h2⟩ | ⟨a, c, h1, _⟩
  · exact ⟨none, 0, by rw [h1, h2]⟩
  · exact ⟨_, _, h1⟩
theorem infoSet : (Try.prog.info? 27).map (·.size) = some 1 := by kernel_rfl
/-- The set variable as it was made. -/
theorem set_new {w : World} {s : Nat} (h : Whole w s 27 #[.slice none 0 0]) : SetAt w s (.slice none 0 0) [] :=
  ⟨h, (RowAt.nil w 0 2).src (fun u hu => by cases hu)⟩

set_option maxRecDepth 100000 in
set_option maxHeartbeats 1000000 in
theorem s_of {w : World} {A : Option Addr} {cap : Nat} {xs : List Int} (hx : Src w 1 (.slice A xs.length cap) xs.length (encN xs)) (hb : ∀ i, (ofL (xs.take i)).length ≤ 1048575) (hx63 : xs.length ≤ 1152921504606846976) :
    Calls Try.prog 12 #[.slice A xs.length cap] w fun e w' => ∃ v, e = .returned (.agg #[v]) ∧ Src w' 2 v (ofL xs).length (encs encP (ofL xs)) ∧ (∀ k, v.ownBlock = some k → w.heap.size ≤ k) ∧ Kp (fun _ => False) w w' := by
  have hk0 : Kp (fun _ => False) w ((w.alloc (.cells #[.slice none 0 0] 27)).alloc (.cells #[.slice none 0 0] 27)) := ((Kp.refl _ w).alloc _).alloc _
  have hr0 : Whole ((w.alloc (.cells #[.slice none 0 0] 27)).alloc (.cells #[.slice none 0 0] 27)) w.heap.size 27 #[.slice none 0 0] := (Whole.new w _ _).alloc _
  have hs0 : Whole ((w.alloc (.cells #[.slice none 0 0] 27)).alloc (.cells #[.slice none 0 0] 27)) (w.heap.size + 1) 27 #[.slice none 0 0] := by
    have := Whole.new (w.alloc (.cells #[.slice none 0 0] 27)) 27 #[.slice none 0 0]
    rwa [World.size_alloc] at this
  have hsz : ((w.alloc (.cells #[.slice none 0 0] 27)).alloc (.cells #[.slice none 0 0] 27)).heap.size = w.heap.size + 2 := by simp
  have HX := Lib.hid hx
  have HB := Lib.hid hb
  clear hx hb
  generalize hn : xs.length = n at *
  have Hn := Lib.hid hn
  clear hn
  go_enter Try.func12, Try.ntmps12
  go_upto_region 2 with (fail)
  generalize ((w.alloc (.cells #[.slice none 0 0] 27)).alloc (.cells #[.slice none 0 0] 27)) = w2 at *
  have Hk0 := Lib.hid hk0
  have Hr0 := Lib.hid hr0
  have Hs0 := Lib.hid hs0
  clear hk0 hr0 hs0
  have hsz1 : w2.heap.size ≤ w.heap.size + 2 := by omega
  have hsz2 : w.heap.size + 2 ≤ w2.heap.size := by omega
  clear hsz
  go_wp2_with fail
  go_loopw [8] (fun vi wr => ∃ (i : Nat) (v : Value), i ≤ n ∧ vi = .int .i64 i ∧ SetAt wr (w.heap.size + 1) v (ofL (xs.take i)) ∧ Hid (∀ k, v.ownBlock = some k → w2.heap.size ≤ k) ∧ Kp (fun k => k = w.heap.size + 1) w2 wr)
    (fun vi _ => n - (intOf vi).toNat)
  case atStart => exact ⟨0, .slice none 0 0, by omega, rfl, set_new Hs0.out, Lib.hid (fun k hk => by cases hk), Kp.refl _ _⟩
  case round =>
    obtain ⟨i, v, hin, rfl, hs, Hv, hk⟩ := hrel
    have Hs := Lib.hid hs
    have Hk := Lib.hid hk
    have hsw := hk.size
    clear hs hk
    by_cases hlt : i < n
    · obtain ⟨b, off, c', hv, hb, hc⟩ := Src.wide HX.out (by omega) (by omega)
      cases hv
      obtain ⟨x, hxi⟩ : ∃ x, xs[i]? = some x := ⟨_, List.getElem?_eq_getElem (by rw [Hn.out]; exact hlt)⟩
      have e0 := hc i _ (encN_get xs i x hxi)
      have Hkw : Hid (Kp (fun _ => False) w wr) := Lib.hid ((Hk0.out.no.trans Hk.out).mono (fun k hk e => by omega))
      rw [← Hkw.out.cell (p := ⟨b, _, none⟩) hb (fun h => h)] at e0
      have hbw := Nat.lt_of_lt_of_le hb Hkw.out.size
      have Hnx : Hid (ofL (xs.take (i + 1)) = ofStep (ofL (xs.take i)) x) := Lib.hid (of_snoc hxi)
      have hbl := HB.out i
      clear hc hxi
      have Hstep : Hid (∀ L : List Pr, ofStep L x = if 0 ≤ x ∧ x < 4611686018427387904 then addS L x (x + 1) else L) := Lib.hid (fun L => rfl)
      by_cases hp : 0 ≤ x ∧ x < 4611686018427387904
      · obtain ⟨p1, p2⟩ := hp
        have HA := Lib.hid (s_add Hs.out (by omega) x (x + 1))
        rw [Hstep.out, if_pos ⟨p1, p2⟩] at Hnx
        go_wp2_with fail
        with_reducible refine (HA.out).mono ?_
        rintro e w3 ⟨rfl, v3, hs3, hk3, hv3⟩
        have Hs3 := Lib.hid hs3
        have Hk3 := Lib.hid hk3
        have Hv3 := Lib.hid hv3
        clear hs3 hk3 hv3
        go_wp2_with fail
        go_roundw
        case rel => exact ⟨i + 1, v3, by omega, by go_num, by rw [Hnx.out]; exact Hs3.out, Lib.hid (fun k hk => by
          rcases Hv3.out with e | h
          · rw [e] at hk; exact Hv.out k hk
          · have := h k hk; omega), Hk.out.trans Hk3.out⟩
        case measure => simp [intOf]; omega
      · rw [Hstep.out, if_neg hp] at Hnx
        by_cases p1 : 0 ≤ x
        · have p2 : ¬ x < 4611686018427387904 := fun h => hp ⟨p1, h⟩
          go_wp2_with fail
          go_roundw
          case rel => exact ⟨i + 1, v, by omega, by go_num, by rw [Hnx.out]; exact Hs.out, Hv, Hk.out⟩
          case measure => simp [intOf]; omega
        · go_wp2_with fail
          go_roundw
          case rel => exact ⟨i + 1, v, by omega, by go_num, by rw [Hnx.out]; exact Hs.out, Hv, Hk.out⟩
          case measure => simp [intOf]; omega
    · obtain rfl : i = n := by omega
      rw [List.take_of_length_le (by rw [Hn.out]; omega)] at Hs
      have c1 := Hs.out.cell.cell 0
      have h1 := Hs.out.cell.lt
      simp only [List.getElem?_toArray, List.getElem?_cons_zero] at c1
      have Hr1 := Lib.hid (Hk.out.whole Hr0.out (by omega))
      have f1 := Hr1.out.frozen 0
      have c2 := Hr1.out.cell 0
      simp only [List.getElem?_toArray, List.getElem?_cons_zero] at c2
      have h2 := Hr1.out.lt
      obtain ⟨Av, cv, rfl⟩ := set_form Hs.out
      have hsrc := Hs.out.src
      have Hsrc := Lib.hid hsrc
      clear hsrc
      generalize hln : (ofL xs).length = ln at *
      have Hln := Lib.hid hln
      clear hln
      have hkf : Kp (fun _ => False) w (wr.setCell ⟨w.heap.size, 0, none⟩ (.slice Av ln cv)) := (((Hk0.out.no.trans Hk.out).mono (fun k hk e => by omega)).set (.inr (Nat.le_refl _)) _)
      have hend : Whole (wr.setCell ⟨w.heap.size, 0, none⟩ (.slice Av ln cv)) w.heap.size 27 #[.slice Av ln cv] := Hr1.out.set 0 _
      have hsf : Src (wr.setCell ⟨w.heap.size, 0, none⟩ (.slice Av ln cv)) 2 (.slice Av ln cv) ln (encs encP (ofL xs)) := (Kp.set (S := fun k => k = w.heap.size) (Kp.refl _ wr) (p := ⟨w.heap.size, 0, none⟩) (.inl rfl) _).src Hsrc.out (fun k hk e => by have := Hv.out k hk; omega)
      have Hkf := Lib.hid hkf
      have Hend := Lib.hid hend
      have Hsf := Lib.hid hsf
      clear hkf hend hsf
      go_wp2_with fail
      refine ⟨rfl, .agg #[.slice Av ln cv], results_cell_row rfl _ _ w.heap.size 27 #[.slice Av ln cv] (0, 0) _ rfl Hend.out Try.underlying27 rfl infoSet, ?_⟩
      exact ⟨_, rfl, by rw [Hln.out]; exact Hsf.out, fun k hk => by have := Hv.out k hk; omega, Hkf.out⟩

theorem add_len : ∀ (L : List Pr) (s : AddS), (L.foldl addStep s).out.length + (if (L.foldl addStep s).done = true then 0 else 1) ≤ s.out.length + (if s.done = true then 0 else 1) + L.length := by
  intro L
  induction L with
  | nil => intro s; exact Nat.le_refl _
  | cons r L ih =>
    intro s
    have := ih (addStep s r)
    have h1 : (addStep s r).out.length + (if (addStep s r).done = true then 0 else 1) ≤ s.out.length + (if s.done = true then 0 else 1) + 1 := by
      unfold addStep
      split
      · simp; omega
      · split
        · cases hd : s.done <;> simp
        · simp
    rw [List.foldl_cons, List.length_cons]
    omega
theorem addS_len (L : List Pr) (f t : Int) : (addS L f t).length ≤ L.length + 1 := by
  unfold addS
  split
  · have := add_len L ⟨[], false, bringS f, bringS t⟩
    simp at this
    unfold addL addEnd
    cases hd : (L.foldl addStep ⟨[], false, bringS f, bringS t⟩).done
    · rw [hd] at this; simp at this; simp; omega
    · rw [hd] at this; simp at this; simp; omega
  · omega

/-- What a Union makes of some runs. -/
def addP (L : List Pr) (r : Pr) : List Pr := addS L r.1 r.2
def unL (Ls : List (List Pr)) : List Pr := Ls.foldl (fun L M => M.foldl addP L) []
theorem addP_len : ∀ (M L : List Pr), (M.foldl addP L).length ≤ L.length + M.length := by
  intro M
  induction M with
  | nil => intro L; simp
  | cons r M ih =>
    intro L
    have h1 := ih (addP L r)
    have h2 := addS_len L r.1 r.2
    rw [List.foldl_cons, List.length_cons]
    unfold addP at *
    omega
theorem un_len0 : ∀ (Ls : List (List Pr)) (L : List Pr), (Ls.foldl (fun L M => M.foldl addP L) L).length ≤ L.length + (Ls.map (·.length)).sum := by
  intro Ls
  induction Ls with
  | nil => intro L; simp
  | cons M Ls ih =>
    intro L
    have h1 := ih (M.foldl addP L)
    have h2 := addP_len M L
    rw [List.foldl_cons, List.map_cons, List.sum_cons]
    omega
theorem un_len {Ls : List (List Pr)} {i : Nat} {M : List Pr} (h : Ls[i]? = some M) : (unL (Ls.take i)).length + M.length ≤ (Ls.map (·.length)).sum := by
  have h1 := un_len0 (Ls.take i) []
  have h2 : ((Ls.take (i + 1)).map (·.length)).sum ≤ (Ls.map (·.length)).sum := by
    conv => rhs; rw [← List.take_append_drop (i + 1) Ls, List.map_append, List.sum_append]
    omega
  rw [List.take_add_one, h, List.map_append, List.sum_append] at h2
  simp at h2
  simp at h1
  unfold unL
  omega
theorem un_snoc {Ls : List (List Pr)} {i : Nat} {M : List Pr} (h : Ls[i]? = some M) : unL (Ls.take (i + 1)) = M.foldl addP (unL (Ls.take i)) := by
  rw [unL, List.take_add_one, h, List.foldl_append]; rfl
theorem addP_snoc {M : List Pr} {j : Nat} {r : Pr} (L : List Pr) (h : M[j]? = some r) : (M.take (j + 1)).foldl addP L = addS ((M.take j).foldl addP L) r.1 r.2 := by
  rw [takeP h, List.foldl_append]; rfl

set_option maxRecDepth 100000 in
set_option maxHeartbeats 2000000 in
theorem s_union {w : World} {A : Option Addr} {cap : Nat} {vs : List Value} {Ls : List (List Pr)} (hx : Src w 1 (.slice A vs.length cap) vs.length vs)
    (hl : vs.length = Ls.length) (hv : ∀ (j : Nat) (u : Value) (M : List Pr), vs[j]? = some u → Ls[j]? = some M → Src w 2 u M.length (encs encP M)) (hb : (Ls.map (·.length)).sum ≤ 1048575) (hx63 : vs.length ≤ 1152921504606846976) :
    Calls Try.prog 14 #[.slice A vs.length cap] w fun e w' => ∃ v, e = .returned (.agg #[v]) ∧ Src w' 2 v (unL Ls).length (encs encP (unL Ls)) ∧ (∀ k, v.ownBlock = some k → w.heap.size ≤ k) ∧ Kp (fun _ => False) w w' := by
  have hk0 : Kp (fun _ => False) w ((w.alloc (.cells #[.slice none 0 0] 27)).alloc (.cells #[.slice none 0 0] 27)) := ((Kp.refl _ w).alloc _).alloc _
  have hr0 : Whole ((w.alloc (.cells #[.slice none 0 0] 27)).alloc (.cells #[.slice none 0 0] 27)) w.heap.size 27 #[.slice none 0 0] := (Whole.new w _ _).alloc _
  have hs0 : Whole ((w.alloc (.cells #[.slice none 0 0] 27)).alloc (.cells #[.slice none 0 0] 27)) (w.heap.size + 1) 27 #[.slice none 0 0] := by
    have := Whole.new (w.alloc (.cells #[.slice none 0 0] 27)) 27 #[.slice none 0 0]
    rwa [World.size_alloc] at this
  have hsz : ((w.alloc (.cells #[.slice none 0 0] 27)).alloc (.cells #[.slice none 0 0] 27)).heap.size = w.heap.size + 2 := by simp
  have HX := Lib.hid hx
  have HB := Lib.hid hb
  have HV := Lib.hid hv
  clear hx hb hv
  generalize hn : vs.length = n at *
  have Hn := Lib.hid hn
  have Hl := Lib.hid hl
  clear hn hl
  go_enter Try.func14, Try.ntmps14
  go_upto_region 2 with (fail)
  generalize ((w.alloc (.cells #[.slice none 0 0] 27)).alloc (.cells #[.slice none 0 0] 27)) = w2 at *
  have Hk0 := Lib.hid hk0
  have Hr0 := Lib.hid hr0
  have Hs0 := Lib.hid hs0
  clear hk0 hr0 hs0
  have hsz1 : w2.heap.size ≤ w.heap.size + 2 := by omega
  have hsz2 : w.heap.size + 2 ≤ w2.heap.size := by omega
  clear hsz
  go_wp2_with fail
  go_loopw [10] (fun vi wr => ∃ (i : Nat) (v : Value), i ≤ n ∧ vi = .int .i64 i ∧ SetAt wr (w.heap.size + 1) v (unL (Ls.take i)) ∧ Hid (∀ k, v.ownBlock = some k → w2.heap.size ≤ k) ∧ Kp (fun k => k = w.heap.size + 1) w2 wr)
    (fun vi _ => n - (intOf vi).toNat)
  case atStart => exact ⟨0, .slice none 0 0, by omega, rfl, set_new Hs0.out, Lib.hid (fun k hk => by cases hk), Kp.refl _ _⟩
  case round =>
    obtain ⟨i, v, hin, rfl, hs, Hv, hk⟩ := hrel
    have Hs := Lib.hid hs
    have Hk := Lib.hid hk
    have hsw := hk.size
    clear hs hk
    by_cases hlt : i < n
    · obtain ⟨b, off, c', hv, hb, hc⟩ := Src.wide HX.out (by omega) (by omega)
      cases hv
      obtain ⟨u, hui⟩ : ∃ u, vs[i]? = some u := ⟨_, List.getElem?_eq_getElem (by rw [Hn.out]; exact hlt)⟩
      obtain ⟨M, hMi⟩ : ∃ M, Ls[i]? = some M := ⟨_, List.getElem?_eq_getElem (by rw [← Hl.out]; exact hlt)⟩
      have e0 := hc i _ hui
      have hsm := HV.out i u M hui hMi
      obtain ⟨Am, cm, rfl⟩ : ∃ Am cm, u = .slice Am M.length cm := by
        rcases hsm.2.2 with ⟨h1, h2⟩ | ⟨a, c, h1, _⟩
        · exact ⟨none, 0, by rw [h1, h2]⟩
        · exact ⟨_, _, h1⟩
      have Hkw : Hid (Kp (fun _ => False) w wr) := Lib.hid ((Hk0.out.no.trans Hk.out).mono (fun k hk e => by omega))
      rw [← Hkw.out.cell (p := ⟨b, _, none⟩) hb (fun h => h)] at e0
      have hbw := Nat.lt_of_lt_of_le hb Hkw.out.size
      have Hnx := Lib.hid (un_snoc hMi)
      have hbl := Nat.le_trans (un_len hMi) HB.out
      have Hsm := Lib.hid hsm
      clear hc hui hMi hsm
      generalize unL (Ls.take i) = U at *
      generalize hml : M.length = ml at *
      have Hml := Lib.hid hml
      clear hml
      generalize hul : U.length = ul at *
      have Hul := Lib.hid hul
      clear hul
      have ha5 : Whole (wr.alloc (.cells #[.slice Am ml cm] 27)) wr.heap.size 27 #[.slice Am ml cm] := Whole.new _ _ _
      have hk5 : Kp (fun k => k = w.heap.size + 1) w2 (wr.alloc (.cells #[.slice Am ml cm] 27)) := Hk.out.alloc _
      have hs5 : SetAt (wr.alloc (.cells #[.slice Am ml cm] 27)) (w.heap.size + 1) v U := Hs.out.kp (S := fun _ => False) ((Kp.refl _ _).alloc _) (fun h => h) (fun _ _ h => h)
      go_upto_region 5 with (fail)
      generalize wr.alloc (.cells #[.slice Am ml cm] 27) = w5 at *
      have c5 := ha5.cell 0
      have h5 := ha5.lt
      simp only [List.getElem?_toArray, List.getElem?_cons_zero] at c5
      have Hk5 := Lib.hid hk5
      have Hs5 := Lib.hid hs5
      clear hk5 hs5 ha5
      go_wp2_with fail
      go_loopw [17] (fun vj wi => ∃ (j : Nat) (v : Value), j ≤ ml ∧ vj = .int .i64 j ∧ SetAt wi (w.heap.size + 1) v ((M.take j).foldl addP U) ∧ Hid (∀ k, v.ownBlock = some k → w2.heap.size ≤ k) ∧ Kp (fun k => k = w.heap.size + 1) w2 wi)
        (fun vj _ => ml - (intOf vj).toNat)
      case atStart => exact ⟨0, v, by omega, rfl, Hs5.out, Hv, Hk5.out⟩
      case round =>
        obtain ⟨j, v6, hjm, rfl, hs6, Hv6, hk6⟩ := hrel
        have Hs6 := Lib.hid hs6
        have Hk6 := Lib.hid hk6
        have hsw6 := hk6.size
        clear hs6 hk6
        by_cases hltj : j < ml
        · obtain ⟨b2, off2, c2', hv2, hb2, hc2⟩ := Src.wide Hsm.out (by omega) (by omega)
          cases hv2
          obtain ⟨r, hrj⟩ : ∃ r, M[j]? = some r := ⟨_, List.getElem?_eq_getElem (by rw [Hml.out]; exact hltj)⟩
          have d0 := hc2 (j * 2) _ (pp0 hrj)
          have d1 := hc2 (j * 2 + 1) _ (pp1 hrj)
          have Hkw6 : Hid (Kp (fun _ => False) w wr) := Lib.hid ((Hk0.out.no.trans Hk6.out).mono (fun k hk e => by omega))
          rw [← Hkw6.out.cell (p := ⟨b2, _, none⟩) hb2 (fun h => h)] at d0 d1
          rw [← Nat.add_assoc] at d1
          have hbw2 := Nat.lt_of_lt_of_le hb2 Hkw6.out.size
          have Hnx2 := Lib.hid (addP_snoc U hrj)
          have hl1 := addP_len (M.take j) U
          rw [List.length_take] at hl1
          have hl2 : ((M.take j).foldl addP U).length ≤ 1048575 := by rw [Hul.out] at hl1; omega
          clear hc2 hrj hl1
          generalize (M.take j).foldl addP U = V at *
          obtain ⟨r1, r2⟩ := r
          dsimp only at d0 d1 Hnx2
          have ha7 : Whole (wr.alloc (.cells #[.int .i64 r1, .int .i64 r2] 35)) wr.heap.size 35 #[.int .i64 r1, .int .i64 r2] := Whole.new _ _ _
          have hk7 : Kp (fun k => k = w.heap.size + 1) w2 (wr.alloc (.cells #[.int .i64 r1, .int .i64 r2] 35)) := Hk6.out.alloc _
          have hs7 : SetAt (wr.alloc (.cells #[.int .i64 r1, .int .i64 r2] 35)) (w.heap.size + 1) v6 V := Hs6.out.kp (S := fun _ => False) ((Kp.refl _ _).alloc _) (fun h => h) (fun _ _ h => h)
          go_upto_region 8 with (fail)
          generalize wr.alloc (.cells #[.int .i64 r1, .int .i64 r2] 35) = w7 at *
          have x0 := ha7.cell 0
          have x1 := ha7.cell 1
          have x2 := ha7.lt
          simp at x0 x1
          have hsw7 := hk7.size
          have HA := Lib.hid (s_add hs7 (by omega) r1 r2)
          have Hk7 := Lib.hid hk7
          clear hk7 hs7 ha7
          go_wp2_with fail
          with_reducible refine (HA.out).mono ?_
          rintro e w8 ⟨rfl, v8, hs8, hk8, hv8⟩
          have Hs8 := Lib.hid hs8
          have Hk8 := Lib.hid hk8
          have Hv8 := Lib.hid hv8
          clear hs8 hk8 hv8
          go_wp2_with fail
          go_roundw
          case rel => exact ⟨j + 1, v8, by omega, by go_num, by rw [Hnx2.out]; exact Hs8.out, Lib.hid (fun k hk => by
            rcases Hv8.out with e | h
            · rw [e] at hk; exact Hv6.out k hk
            · have := h k hk; omega), Hk7.out.trans Hk8.out⟩
          case measure => simp [intOf]; omega
        · obtain rfl : j = ml := by omega
          rw [List.take_of_length_le (by rw [Hml.out]; omega), ← Hnx.out] at Hs6
          go_wp2_with fail
          go_roundw
          case rel => exact ⟨i + 1, v6, by omega, by go_num, Hs6.out, Hv6, Hk6.out⟩
          case measure => simp [intOf]; omega
    · obtain rfl : i = n := by omega
      rw [List.take_of_length_le (by rw [← Hl.out]; omega)] at Hs
      have c1 := Hs.out.cell.cell 0
      have h1 := Hs.out.cell.lt
      simp only [List.getElem?_toArray, List.getElem?_cons_zero] at c1
      have Hr1 := Lib.hid (Hk.out.whole Hr0.out (by omega))
      have f1 := Hr1.out.frozen 0
      have c2 := Hr1.out.cell 0
      simp only [List.getElem?_toArray, List.getElem?_cons_zero] at c2
      have h2 := Hr1.out.lt
      obtain ⟨Av, cv, rfl⟩ := set_form Hs.out
      have hsrc := Hs.out.src
      have Hsrc := Lib.hid hsrc
      clear hsrc
      generalize hln : (unL Ls).length = ln at *
      have Hln := Lib.hid hln
      clear hln
      have hkf : Kp (fun _ => False) w (wr.setCell ⟨w.heap.size, 0, none⟩ (.slice Av ln cv)) := (((Hk0.out.no.trans Hk.out).mono (fun k hk e => by omega)).set (.inr (Nat.le_refl _)) _)
      have hend : Whole (wr.setCell ⟨w.heap.size, 0, none⟩ (.slice Av ln cv)) w.heap.size 27 #[.slice Av ln cv] := Hr1.out.set 0 _
      have hsf : Src (wr.setCell ⟨w.heap.size, 0, none⟩ (.slice Av ln cv)) 2 (.slice Av ln cv) ln (encs encP (unL Ls)) := (Kp.set (S := fun k => k = w.heap.size) (Kp.refl _ wr) (p := ⟨w.heap.size, 0, none⟩) (.inl rfl) _).src Hsrc.out (fun k hk e => by have := Hv.out k hk; omega)
      have Hkf := Lib.hid hkf
      have Hend := Lib.hid hend
      have Hsf := Lib.hid hsf
      clear hkf hend hsf
      go_wp2_with fail
      refine ⟨rfl, .agg #[.slice Av ln cv], results_cell_row rfl _ _ w.heap.size 27 #[.slice Av ln cv] (0, 0) _ rfl Hend.out Try.underlying27 rfl infoSet, ?_⟩
      exact ⟨_, rfl, by rw [Hln.out]; exact Hsf.out, fun k hk => by have := Hv.out k hk; omega, Hkf.out⟩
end Go.Proofs.Ytdcbgjbhoejpnaa
