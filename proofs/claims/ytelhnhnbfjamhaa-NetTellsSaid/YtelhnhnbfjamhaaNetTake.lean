/-
  Put and Take of a net.
-/
import Derived.Test.YtelhnhnbfjamhaaNetBag
namespace Go.Proofs.Ytelhnhnbfjamhaa
open Go.RowKit

theorem net_put {w : World} {g B : Nat} {A : Option Addr} {cap : Nat} {ps : List Pk} (h : NetAt w g B A cap ps) (hB : B ≤ w.heap.size) (X : Option Addr) (c : Nat) (qs : List Pk) (hx : Src w 2 (.slice X qs.length c) qs.length (encs encPk qs))
    (hX : ∀ a, X = some a → a.add 0 = a) (hX0 : X = none → c = 0) (hmc : qs.length ≤ c) (hc : c ≤ maxLen) :
    Calls Try.prog 15 #[.pointer (some ⟨g, 0, none⟩), .slice X qs.length c] w fun e w' => e = .returned (.int .i64 (qs.take (64 - ps.length)).length) ∧ Kp (NetS g A) w w' ∧
      ∃ A' cap', NetAt w' g B A' cap' (ps ++ qs.take (64 - ps.length)) ∧ Near w (.slice A ps.length cap) (.slice A' (ps ++ qs.take (64 - ps.length)).length cap') := by
  have hfew := h.few
  have htl : (qs.take (64 - ps.length)).length = min (64 - ps.length) qs.length := List.length_take
  have hsrc : Src w.drew 2 (.slice X (min (64 - ps.length) qs.length) c) (min (64 - ps.length) qs.length) (encs encPk (qs.take (64 - ps.length))) := by
    obtain ⟨hl, h1, h2⟩ := hx
    refine ⟨by rw [encs_len encPk_len, htl], encs_one (fun x _ => encPk_one x), ?_⟩
    rcases h2 with ⟨h2, h3⟩ | ⟨a, c', h2, h3⟩
    · rw [h3] at h2 ⊢
      have h2' := h2
      injection h2' with e1 e2 e3
      rw [e1, e3, Nat.min_zero]
      exact .inl ⟨rfl, rfl⟩
    · injection h2 with e1 e2 e3
      rw [e1]
      refine .inr ⟨a, c, rfl, fun j u hj => ?_⟩
      rw [← encs_take encPk_len, List.getElem?_take] at hj
      split at hj
      · exact h3 j u hj
      · cases hj
  refine (net_put0 h.cell h.own h.far hB X hsrc hX hX0 hmc hc (by omega) (by omega)).mono ?_
  rintro e w' ⟨rfl, hk, A', cap', hw, ho, hn⟩
  refine ⟨by rw [htl], hk, A', cap', ⟨?_, ?_, h.far, ?_⟩, ?_⟩
  · rw [List.length_append, htl]; exact hw
  · rw [List.length_append, htl, encs_append]; exact ho
  · rw [List.length_append, htl]; omega
  · rw [List.length_append, htl]; exact hn

set_option maxRecDepth 100000 in
set_option maxHeartbeats 1000000 in
theorem net_take_none {w : World} {g B : Nat} {A : Option Addr} {cap : Nat} {ps : List Pk} (h : NetAt w g B A cap ps) (k : Int) (hk : ¬ (0 ≤ k ∧ k < ps.length)) :
    Calls Try.prog 14 #[.pointer (some ⟨g, 0, none⟩), .int .i64 k] w fun e w' => e = .returned (.tuple #[.agg #[.int .i64 0, .string ⟨#[]⟩], .bool false]) ∧ Kp (fun _ => False) w w' := by
  have H := Lib.hid (h.cell)
  have hd : decide (0 ≤ k ∧ k < (ps.length : Int)) = false := by simpa using hk
  have hi := fun (w' : World) (hw : NetAt w' g B A cap ps) => net_is hw k
  rw [hd] at hi
  have HI := Lib.hid hi
  have hA : NetAt (w.alloc (.cells #[.int .i64 0, .string ⟨#[]⟩] 31)) g B A cap ps := ⟨h.cell.alloc _, h.own.alloc _, h.far, h.few⟩
  have HA := Lib.hid hA
  clear h hk hd hi hA
  go_enter Try.func14, Try.ntmps14
  go_wp2_with (go_at_call 46; refine (HI.out _ HA.out).mono ?_; rintro e w1 ⟨rfl, rfl⟩)
  refine bodyPost_ret (v := .tuple #[.agg #[.int .i64 0, .string ⟨#[]⟩], .bool false]) (by simp [results, Try.results14, go_sem]) rfl ⟨rfl, (Kp.refl _ _).alloc _⟩

set_option maxRecDepth 100000 in
set_option maxHeartbeats 2000000 in
theorem net_take {w : World} {g B : Nat} {A : Option Addr} {cap : Nat} {ps : List Pk} (h : NetAt w g B A cap ps) (hB : B ≤ w.heap.size) (i : Nat) (p : Pk) (hi : ps[i]? = some p) :
    Calls Try.prog 14 #[.pointer (some ⟨g, 0, none⟩), .int .i64 i] w fun e w' => e = .returned (.tuple #[.agg #[.int .i64 p.1, .string p.2], .bool true]) ∧ Kp (NetS g A) w w' ∧ NetAt w' g B A cap (ps.eraseIdx i) := by
  have hil : i < ps.length := (List.getElem?_eq_some_iff.1 hi).1
  have hf := h.few
  obtain ⟨b, rfl⟩ : ∃ b, A = some ⟨b, 0, none⟩ := by
    rcases h.own.2 with ⟨hv, hn⟩ | ⟨b, c, _, hv, _⟩
    · omega
    · cases hv; exact ⟨b, rfl⟩
  have hlen : (ps.eraseIdx i).length = ps.length - 1 := by rw [List.length_eraseIdx, if_pos hil]
  have her : encs encPk (ps.eraseIdx i) = (encs encPk ps).take (i * 2) ++ (encs encPk ps).drop ((i + 1) * 2) := by
    rw [List.eraseIdx_eq_take_drop_succ, encs_append, encs_take encPk_len, encs_drop encPk_len]
  have c0 := h.cell.cell 0
  have f0 := h.cell.frozen 0
  rw [show (#[Value.slice (some ⟨b, 0, none⟩) ps.length cap] : Array Value)[0]? = some (.slice (some ⟨b, 0, none⟩) ps.length cap) from rfl] at c0
  obtain ⟨hnc, hcm, hbB, hbl⟩ := own_cap h.own
  have hgl := h.cell.lt
  have e0 : w.cell? ⟨b, i * 2, none⟩ = some (.int .i64 p.1) := by
    have := h.own.cells (g := b) rfl (i * 2 + 0) (.int .i64 p.1) (by rw [encs_get encPk_len ps i 0 p hi (by omega)]; rfl)
    rw [Addr.add_lit] at this
    simpa using this
  have e1 : w.cell? ⟨b, i * 2 + 1, none⟩ = some (.string p.2) := by
    have := h.own.cells (g := b) rfl (i * 2 + 1) (.string p.2) (by rw [encs_get encPk_len ps i 1 p hi (by omega)]; rfl)
    rw [Addr.add_lit] at this
    simpa using this
  have hd : decide (0 ≤ (i : Int) ∧ (i : Int) < (ps.length : Int)) = true := by simpa using hil
  have hI := fun (w' : World) (hw : NetAt w' g B (some ⟨b, 0, none⟩) cap ps) => net_is hw i
  rw [hd] at hI
  have HI := Lib.hid hI
  have h1 : NetAt (w.alloc (.cells #[.int .i64 0, .string ⟨#[]⟩] 31)) g B (some ⟨b, 0, none⟩) cap ps := ⟨h.cell.alloc _, h.own.alloc _, h.far, h.few⟩
  have H1 := Lib.hid h1
  have H := Lib.hid h
  have hgB := h.far
  have Hlen := Lib.hid hlen
  have Her := Lib.hid her
  clear h hd hI h1 hlen her hi
  obtain ⟨P1, P2⟩ := p
  dsimp only at *
  have ho2 : ((w.alloc (.cells #[.int .i64 0, .string ⟨#[]⟩] 31)).alloc (.cells #[.int .i64 P1, .string P2] 31)).ownsRow B 31 2 (.slice (some ⟨b, 0, none⟩) ps.length cap) ps.length (encs encPk ps) := (H.out.own.alloc _).alloc _
  have hw2 : Whole ((w.alloc (.cells #[.int .i64 0, .string ⟨#[]⟩] 31)).alloc (.cells #[.int .i64 P1, .string P2] 31)) g 25 #[.slice (some ⟨b, 0, none⟩) ps.length cap] := (H.out.cell.alloc _).alloc _
  have hr2 : Whole ((w.alloc (.cells #[.int .i64 0, .string ⟨#[]⟩] 31)).alloc (.cells #[.int .i64 P1, .string P2] 31)) w.heap.size 31 #[.int .i64 0, .string ⟨#[]⟩] := (Whole.new w _ _).alloc _
  have hp2 : Whole ((w.alloc (.cells #[.int .i64 0, .string ⟨#[]⟩] 31)).alloc (.cells #[.int .i64 P1, .string P2] 31)) (w.heap.size + 1) 31 #[.int .i64 P1, .string P2] := whole_at _ _ rfl (by simp)
  have hk2 : Kp (NetS g (some ⟨b, 0, none⟩)) w ((w.alloc (.cells #[.int .i64 0, .string ⟨#[]⟩] 31)).alloc (.cells #[.int .i64 P1, .string P2] 31)) := ((Kp.refl _ w).alloc _).alloc _
  have Ho2 := Lib.hid ho2
  have Hw2 := Lib.hid hw2
  have Hr2 := Lib.hid hr2
  have Hp2 := Lib.hid hp2
  have Hk2 := Lib.hid hk2
  clear ho2 hw2 hr2 hp2 hk2
  have HgB := Lib.hid hgB
  have HbB := Lib.hid hbB
  have hgs1 : g < w.heap.size + 1 := by omega
  have hgs2 : g < w.heap.size + 2 := by omega
  have hgb : g ≠ b := by omega
  have HB := Lib.hid hB
  have Hil := Lib.hid hil
  have Hf := Lib.hid hf
  clear hgB hbB hB
  go_enter Try.func14, Try.ntmps14
  go_wp2_with first
    | (go_at_call 46; refine (HI.out _ H1.out).mono ?_; rintro e w1 ⟨rfl, rfl⟩)
    | (go_at_call 47; refine (delete_pk Ho2.out hil (encs_one (fun x _ => encPk_one x)) (by omega) (by simp; have := HB.out; omega)).mono ?_; rintro e w1 ⟨rfl, hown, hg1⟩; have Hown := Lib.hid hown; have Hg1 := Lib.hid hg1; have a0 := (Hw2.out.grown hg1 (by simp; omega)).cell 0; have a1 := (Hw2.out.grown hg1 (by simp; omega)).frozen 0; have b0 := (Hr2.out.grown hg1 (by simp; omega)).cell 0; have b1 := (Hr2.out.grown hg1 (by simp; omega)).cell 1; have b2 := (Hr2.out.grown hg1 (by simp; omega)).frozen 0; have b3 := (Hr2.out.grown hg1 (by simp; omega)).frozen 1; have d0 := (Hp2.out.grown hg1 (by simp; omega)).cell 0; have d1 := (Hp2.out.grown hg1 (by simp; omega)).cell 1; have hs1 := hg1.size; clear hown hg1)
  have z1 : Whole w1 g 25 _ := Hw2.out.grown Hg1.out (by simp; omega)
  have z2 : Whole w1 w.heap.size 31 _ := Hr2.out.grown Hg1.out (by simp; omega)
  have z3 := (((z2.far (p := ⟨g, 0, none⟩) (by simp; omega) (.slice (some ⟨b, 0, none⟩) (ps.length - 1) cap)).set 0 (.int .i64 P1)).set 1 (.string P2))
  have z4 := (((z1.set 0 (.slice (some ⟨b, 0, none⟩) (ps.length - 1) cap)).far (p := ⟨w.heap.size, 0, none⟩) (by simp; omega) (.int .i64 P1)).far (p := ⟨w.heap.size, 1, none⟩) (by simp; omega) (.string P2))
  have z5 : ((((w1.setCell ⟨g, 0, none⟩ (.slice (some ⟨b, 0, none⟩) (ps.length - 1) cap)).setCell ⟨w.heap.size, 0, none⟩ (.int .i64 P1)).setCell ⟨w.heap.size, 1, none⟩ (.string P2))).ownsRow B 31 2 (.slice (some ⟨b, 0, none⟩) (ps.length - 1) cap) (ps.length - 1) (encs encPk (ps.eraseIdx i)) := by
    rw [Her.out]
    have e1 := ownsRow_setCell_below Hown.out (a := ⟨g, 0, none⟩) HgB.out (.slice (some ⟨b, 0, none⟩) (ps.length - 1) cap)
    refine Kp.own (S := fun k => k = w.heap.size) (((Kp.refl (fun k => k = w.heap.size) _).set (p := ⟨w.heap.size, 0, none⟩) (.inl rfl) _).set (p := ⟨w.heap.size, 1, none⟩) (.inl rfl) _) e1 (fun k hk e => ?_)
    have : b = k := Option.some.inj hk
    omega
  have z6 : Kp (NetS g (some ⟨b, 0, none⟩)) w (((w1.setCell ⟨g, 0, none⟩ (.slice (some ⟨b, 0, none⟩) (ps.length - 1) cap)).setCell ⟨w.heap.size, 0, none⟩ (.int .i64 P1)).setCell ⟨w.heap.size, 1, none⟩ (.string P2)) :=
    (((Hk2.out.grown Hg1.out (fun k hk _ => .inr hk)).set (.inl (.inl rfl)) _).set (.inr (Nat.le_refl _)) _).set (.inr (Nat.le_refl _)) _
  generalize (((w1.setCell ⟨g, 0, none⟩ (.slice (some ⟨b, 0, none⟩) (ps.length - 1) cap)).setCell ⟨w.heap.size, 0, none⟩ (.int .i64 P1)).setCell ⟨w.heap.size, 1, none⟩ (.string P2)) = wf at *
  have y0 := z3.cell 0
  have y1 := z3.cell 1
  simp at y0 y1
  refine bodyPost_ret (v := .tuple #[.agg #[.int .i64 P1, .string P2], .bool true]) (by simp [results, Try.results14, go_sem, y0, y1]) rfl ⟨rfl, z6, ⟨?_, ?_, HgB.out, ?_⟩⟩
  · rw [Hlen.out]; simpa using z4
  · rw [Hlen.out]; exact z5
  · rw [Hlen.out]; have := Hf.out; omega
end Go.Proofs.Ytelhnhnbfjamhaa
