/-
  The reference's net (argosyref18.Net): what each call answers, and what it does.
-/
import Derived.Test.YtelhnhnbfjamhaaNetOff
import Derived.BigRegion
import Derived.Outline
namespace Go.Proofs.Ytelhnhnbfjamhaa
open Go.RowKit

theorem infoRk : (Try.prog.info? 44).map (fun i => (i.zero, i.size, i.bytes)) = some (some (.agg #[.int .i64 0, .string ⟨#[]⟩]), 2, 24) := by kernel_rfl

/-- The reference's net r holds qs. -/
structure RefAt (w : World) (r : Nat) (A : Option Addr) (cap : Nat) (qs : List Pk) : Prop where
  cell : Whole w r 43 #[.slice A qs.length cap]
  own : w.ownsRow 0 44 2 (.slice A qs.length cap) qs.length (encs encPk qs)
  few : qs.length ≤ 64

/-- What a call on it leaves: a row of its own, anew. -/
def RefLeft (w : World) (r : Nat) (qs : List Pk) (w' : World) : Prop :=
  ∃ A cap, RefAt w' r A cap qs ∧ (∀ k, A.map (·.block) = some k → w.heap.size ≤ k) ∧ Kp (fun k => k = r) w w'

set_option maxHeartbeats 400000 in
theorem ref_has {w : World} {r : Nat} {A : Option Addr} {cap : Nat} {qs : List Pk} (h : RefAt w r A cap qs) (k : Int) :
    Calls Try.prog 50 #[.pointer (some ⟨r, 0, none⟩), .int .i64 k] w fun e w' => e = .returned (.bool (decide (0 ≤ k ∧ k < qs.length))) ∧ w = w' := by
  have c0 := h.cell.cell 0
  have hf := h.few
  rw [show (#[Value.slice A qs.length cap] : Array Value)[0]? = some (.slice A qs.length cap) from rfl] at c0
  generalize qs.length = n at *
  by_cases h0 : 0 ≤ k
  · by_cases h1 : k < n
    · rw [show decide (0 ≤ k ∧ k < (n : Int)) = true by simp; omega]
      go_enter Try.func50, Try.ntmps50
      go_wp2_with fail
      go_ret
      exact ⟨rfl, rfl⟩
    · rw [show decide (0 ≤ k ∧ k < (n : Int)) = false by simp; omega]
      go_enter Try.func50, Try.ntmps50
      go_wp2_with fail
      go_ret
      exact ⟨rfl, rfl⟩
  · rw [show decide (0 ≤ k ∧ k < (n : Int)) = false by simp; omega]
    go_enter Try.func50, Try.ntmps50
    go_wp2_with fail
    go_ret
    exact ⟨rfl, rfl⟩

theorem own_new0 {w W1 : World} {b : Nat} (e : TypeId) (hw : w = (W1.alloc (.cells #[] e)).drew) (hb : b = W1.heap.size) : w.ownsRow 0 e 2 (.slice (some ⟨b, 0, none⟩) 0 0) 0 [] := by
  subst hw hb
  exact (World.ownsRow_made W1 #[] 0 (Nat.zero_le _) (Nat.zero_le _) rfl).drew
theorem own_new1 {w W1 : World} {b : Nat} (e : TypeId) (o : Obj) (hw : w = ((W1.alloc (.cells #[] e)).alloc o).drew) (hb : b = W1.heap.size) : w.ownsRow 0 e 2 (.slice (some ⟨b, 0, none⟩) 0 0) 0 [] := by
  subst hw hb
  exact ((World.ownsRow_made W1 #[] 0 (Nat.zero_le _) (Nat.zero_le _) rfl).alloc o).drew

theorem src_rk {w : World} {b : Nat} (p : Pk) (h : Whole w b 44 #[.int .i64 p.1, .string p.2]) : Src w 2 (.slice (some ⟨b, 0, none⟩) 1 1) 1 (encs encPk [p]) := by
  refine ⟨rfl, encs_one (fun x _ => encPk_one x), .inr ⟨_, _, rfl, fun j u hj => ?_⟩⟩
  rw [Addr.add_lit, Nat.zero_add, h.cell]
  match j, hj with
  | 0, hj => simpa [encs, encPk] using hj
  | 1, hj => simpa [encs, encPk] using hj
  | j + 2, hj => simp [encs, encPk] at hj

theorem near_far {W : World} {b n c n' c' N : Nat} {A' : Option Addr} (h : Near W (.slice (some ⟨b, 0, none⟩) n c) (.slice A' n' c')) (hb : N ≤ b) (hW : N ≤ W.heap.size) : ∀ k, A'.map (·.block) = some k → N ≤ k := by
  intro k hk
  rcases near_map h with h | h
  · rw [h] at hk
    have : b = k := Option.some.inj hk
    omega
  · have := h k hk; omega
theorem near_far2 {W : World} {n c n' c' N : Nat} {A A' : Option Addr} (h : Near W (.slice A n c) (.slice A' n' c')) (hb : ∀ k, A.map (·.block) = some k → N ≤ k) (hW : N ≤ W.heap.size) : ∀ k, A'.map (·.block) = some k → N ≤ k := by
  intro k hk
  rcases near_map h with h | h
  · rw [h] at hk
    exact hb k hk
  · have := h k hk; omega

theorem ref_left {w w2 : World} {r : Nat} {A A2 : Option Addr} {cap cap2 n : Nat} {qs qs' : List Pk} (h : RefAt w r A cap qs) (hk : Kp (fun _ => False) w w2) (ho : w2.ownsRow 0 44 2 (.slice A2 n cap2) n (encs encPk qs')) (hn : qs'.length = n) (hf : n ≤ 64)
    (hfar : ∀ k, A2.map (·.block) = some k → w.heap.size ≤ k) : RefLeft w r qs' (w2.setCell ⟨r, 0, none⟩ (.slice A2 n cap2)) := by
  subst hn
  have hr := h.cell.lt
  refine ⟨A2, cap2, ⟨(hk.whole h.cell (fun h => h)).set 0 _, Kp.own (S := fun k => k = r) (Kp.set (S := fun k => k = r) (Kp.refl _ w2) (p := ⟨r, 0, none⟩) (.inl rfl) _) ho (fun k hk e => ?_), hf⟩, hfar, Kp.set (S := fun k => k = r) hk.no (p := ⟨r, 0, none⟩) (.inl rfl) _⟩
  have := hfar k (own_map.symm.trans hk)
  omega

set_option maxRecDepth 100000 in
set_option maxHeartbeats 1000000 in
theorem ref_put_full {w : World} {r : Nat} {A : Option Addr} {cap : Nat} {qs : List Pk} (h : RefAt w r A cap qs) (p : Pk) (hf : 64 ≤ qs.length) :
    Calls Try.prog 25 #[.pointer (some ⟨r, 0, none⟩), .agg #[.int .i64 p.1, .string p.2]] w fun e w' => e = .returned (.bool false) ∧ Kp (fun _ => False) w w' := by
  have c0 := h.cell.cell 0
  rw [show (#[Value.slice A qs.length cap] : Array Value)[0]? = some (.slice A qs.length cap) from rfl] at c0
  have hr := h.cell.lt
  clear h
  obtain ⟨P1, P2⟩ := p
  dsimp only
  go_enter Try.func25, Try.ntmps25
  go_wp2_with fail
  go_ret
  exact ⟨rfl, (Kp.refl _ _).alloc _⟩

set_option maxRecDepth 100000 in
set_option maxHeartbeats 1000000 in
theorem ref_put {w : World} {r : Nat} {A : Option Addr} {cap : Nat} {qs : List Pk} (h : RefAt w r A cap qs) (p : Pk) (hf : qs.length < 64) :
    Calls Try.prog 25 #[.pointer (some ⟨r, 0, none⟩), .agg #[.int .i64 p.1, .string p.2]] w fun e w' => e = .returned (.bool true) ∧ RefLeft w r (qs ++ [p]) w' := by
  have c0 := h.cell.cell 0
  have f0 := h.cell.frozen 0
  rw [show (#[Value.slice A qs.length cap] : Array Value)[0]? = some (.slice A qs.length cap) from rfl] at c0
  have hr := h.cell.lt
  have H := Lib.hid h
  clear h
  obtain ⟨P1, P2⟩ := p
  dsimp only
  obtain ⟨i0, hii, hz0, hz1, hz2⟩ := info_parts infoRk
  have Hi := Lib.hid hii
  have Hz0 := Lib.hid hz0
  have Hz1 := Lib.hid hz1
  have Hz2 := Lib.hid hz2
  clear hii hz0 hz1 hz2
  go_enter Try.func25, Try.ntmps25
  go_wp2_with fail
  have HS : ∀ w1, Kp (fun _ => False) w w1 → Src w1 2 (.slice A qs.length cap) qs.length (encs encPk qs) := fun w1 hk => hk.src (ownsRow_src H.out.own (encs_one (fun x _ => encPk_one x))) (fun _ _ h => h)
  have HS' := Lib.hid HS
  clear HS
  obtain ⟨l1, l2, l3, l4, _, _⟩ := le_steps hr
  go_region_law (first | (refine step_app rfl (.tmp 12) (.tmp 16) 41 rfl 0 44 i0 _ 2 24 Try.underlying41 Hi.out Hz0.out Hz1.out Hz2.out rfl (by decide) (.slice (some ⟨w.heap.size + 1, 0, none⟩) 0 0) 0 [] (by simp [Act.eval]) (own_new0 _ rfl (by simp)) (.slice A qs.length cap) qs.length (encs encPk qs) (by simp [Act.eval]) (HS'.out _ (((Kp.refl _ w).alloc _).alloc _).drew) (by unfold maxLen; omega) (by omega) (by omega) ?_; intro v' w1 hown1 hg1 hn1; obtain ⟨A', cap', rfl⟩ := own_form hown1; have Hown1 := Lib.hid hown1; have Hn1 := Lib.hid hn1; have b0 := (Whole.grown (g := w.heap.size) (t := 44) (cs := #[.int .i64 P1, .string P2]) (Whole.drew (Whole.alloc (whole_at _ _ rfl rfl) _)) hg1 (by simp [Value.ownBlock])).cell 0; have b1 := (Whole.grown (g := w.heap.size) (t := 44) (cs := #[.int .i64 P1, .string P2]) (Whole.drew (Whole.alloc (whole_at _ _ rfl rfl) _)) hg1 (by simp [Value.ownBlock])).cell 1; have Hk1 : Hid (Kp (fun _ => False) w w1) := Lib.hid (Kp.grown (((Kp.refl _ w).alloc _).alloc _).drew hg1 (fun i hi hlt => by have := Option.some.inj hi; dsimp only at this; omega)); have Hw1 := Lib.hid (True.intro); have Hf1 := Lib.hid (near_far (N := w.heap.size) hn1 (by omega) (by simp; try omega)); clear hown1 hg1 hn1) | (refine step_app rfl (.tmp 12) (.tmp 16) 41 rfl 0 44 i0 _ 2 24 Try.underlying41 Hi.out Hz0.out Hz1.out Hz2.out rfl (by decide) (.slice (some ⟨w.heap.size + 1, 0, none⟩) 0 0) 0 [] (by simp [Act.eval]) (own_new1 _ _ rfl (by simp)) (.slice A qs.length cap) qs.length (encs encPk qs) (by simp [Act.eval]) (HS'.out _ ((((Kp.refl _ w).alloc _).alloc _).alloc _).drew) (by unfold maxLen; omega) (by omega) (by omega) ?_; intro v' w1 hown1 hg1 hn1; obtain ⟨A', cap', rfl⟩ := own_form hown1; have Hown1 := Lib.hid hown1; have Hn1 := Lib.hid hn1; have b0 := (Whole.grown (g := w.heap.size) (t := 44) (cs := #[.int .i64 P1, .string P2]) (Whole.drew (Whole.alloc (Whole.alloc (whole_at _ _ rfl rfl) _) _)) hg1 (by simp [Value.ownBlock])).cell 0; have b1 := (Whole.grown (g := w.heap.size) (t := 44) (cs := #[.int .i64 P1, .string P2]) (Whole.drew (Whole.alloc (Whole.alloc (whole_at _ _ rfl rfl) _) _)) hg1 (by simp [Value.ownBlock])).cell 1; have Hk1 : Hid (Kp (fun _ => False) w w1) := Lib.hid (Kp.grown ((((Kp.refl _ w).alloc _).alloc _).alloc _).drew hg1 (fun i hi hlt => by have := Option.some.inj hi; dsimp only at this; omega)); have Hw1 := Lib.hid (Whole.grown (g := w.heap.size + 2) (t := 44) (cs := #[.int .i64 P1, .string P2]) (Whole.drew (whole_at _ _ rfl (by simp))) hg1 (by simp [Value.ownBlock])); have Hf1 := Lib.hid (near_far (N := w.heap.size) hn1 (by omega) (by simp; try omega)); clear hown1 hg1 hn1) | (refine step_app rfl (.tmp 12) (.tmp 16) 41 rfl 0 44 i0 _ 2 24 Try.underlying41 Hi.out Hz0.out Hz1.out Hz2.out rfl (by decide) (.slice (some ⟨w.heap.size + 2, 0, none⟩) 0 0) 0 [] (by simp [Act.eval]) (own_new0 _ rfl (by simp)) (.slice A qs.length cap) qs.length (encs encPk qs) (by simp [Act.eval]) (HS'.out _ ((((Kp.refl _ w).alloc _).alloc _).alloc _).drew) (by unfold maxLen; omega) (by omega) (by omega) ?_; intro v' w1 hown1 hg1 hn1; obtain ⟨A', cap', rfl⟩ := own_form hown1; have Hown1 := Lib.hid hown1; have Hn1 := Lib.hid hn1; have b0 := (Whole.grown (g := w.heap.size) (t := 44) (cs := #[.int .i64 P1, .string P2]) (Whole.drew (Whole.alloc (Whole.alloc (whole_at _ _ rfl rfl) _) _)) hg1 (by simp [Value.ownBlock])).cell 0; have b1 := (Whole.grown (g := w.heap.size) (t := 44) (cs := #[.int .i64 P1, .string P2]) (Whole.drew (Whole.alloc (Whole.alloc (whole_at _ _ rfl rfl) _) _)) hg1 (by simp [Value.ownBlock])).cell 1; have Hk1 : Hid (Kp (fun _ => False) w w1) := Lib.hid (Kp.grown ((((Kp.refl _ w).alloc _).alloc _).alloc _).drew hg1 (fun i hi hlt => by have := Option.some.inj hi; dsimp only at this; omega)); have Hw1 := Lib.hid (Whole.grown (g := w.heap.size + 1) (t := 44) (cs := #[.int .i64 P1, .string P2]) (Whole.drew (Whole.alloc (whole_at _ _ rfl (by simp)) _)) hg1 (by simp [Value.ownBlock])); have Hf1 := Lib.hid (near_far (N := w.heap.size) hn1 (by omega) (by simp; try omega)); clear hown1 hg1 hn1) | (refine step_app rfl (.tmp 17) (.tmp 19) 41 rfl 0 44 i0 _ 2 24 Try.underlying41 Hi.out Hz0.out Hz1.out Hz2.out rfl (by decide) (.slice A' (0 + qs.length) cap') (0 + qs.length) _ (by simp [Act.eval]) (Hown1.out.alloc _) (.slice (some ⟨w1.heap.size, 0, none⟩) 1 1) 1 (encs encPk [(P1, P2)]) (by simp [Act.eval]) (src_rk (P1, P2) (whole_at _ _ rfl rfl)) (by unfold maxLen; omega) (by omega) (by omega) ?_; intro v'' w2 hown2 hg2 hn2; obtain ⟨A2, cap2, rfl⟩ := own_form hown2; have Hown2 := Lib.hid hown2; have Hn2 := Lib.hid hn2; have hk2 : Kp (fun _ => False) w w2 := Kp.grown (Hk1.out.alloc _) hg2 (fun i hi hlt => absurd (Hf1.out i (own_map.symm.trans hi)) (by omega)); have r0 := (hk2.whole H.out.cell (fun h => h)).cell 0; have r1 := (hk2.whole H.out.cell (fun h => h)).frozen 0; have Hk2 := Lib.hid hk2; have Hf2 := Lib.hid (near_far2 (N := w.heap.size) hn2 Hf1.out (by have := Hk1.out.size; simp; omega)); clear hown2 hg2 hn2 hk2) | (refine step_app rfl (.tmp 17) (.tmp 19) 41 rfl 0 44 i0 _ 2 24 Try.underlying41 Hi.out Hz0.out Hz1.out Hz2.out rfl (by decide) (.slice A' (0 + qs.length) cap') (0 + qs.length) _ (by simp [Act.eval]) (Hown1.out) (.slice (some ⟨w.heap.size + 2, 0, none⟩) 1 1) 1 (encs encPk [(P1, P2)]) (by simp [Act.eval]) (src_rk (P1, P2) (Hw1.out)) (by unfold maxLen; omega) (by omega) (by omega) ?_; intro v'' w2 hown2 hg2 hn2; obtain ⟨A2, cap2, rfl⟩ := own_form hown2; have Hown2 := Lib.hid hown2; have Hn2 := Lib.hid hn2; have hk2 : Kp (fun _ => False) w w2 := Kp.grown Hk1.out hg2 (fun i hi hlt => absurd (Hf1.out i (own_map.symm.trans hi)) (by omega)); have r0 := (hk2.whole H.out.cell (fun h => h)).cell 0; have r1 := (hk2.whole H.out.cell (fun h => h)).frozen 0; have Hk2 := Lib.hid hk2; have Hf2 := Lib.hid (near_far2 (N := w.heap.size) hn2 Hf1.out (by have := Hk1.out.size; simp; omega)); clear hown2 hg2 hn2 hk2) | (refine step_app rfl (.tmp 17) (.tmp 19) 41 rfl 0 44 i0 _ 2 24 Try.underlying41 Hi.out Hz0.out Hz1.out Hz2.out rfl (by decide) (.slice A' (0 + qs.length) cap') (0 + qs.length) _ (by simp [Act.eval]) (Hown1.out) (.slice (some ⟨w.heap.size + 1, 0, none⟩) 1 1) 1 (encs encPk [(P1, P2)]) (by simp [Act.eval]) (src_rk (P1, P2) (Hw1.out)) (by unfold maxLen; omega) (by omega) (by omega) ?_; intro v'' w2 hown2 hg2 hn2; obtain ⟨A2, cap2, rfl⟩ := own_form hown2; have Hown2 := Lib.hid hown2; have Hn2 := Lib.hid hn2; have hk2 : Kp (fun _ => False) w w2 := Kp.grown Hk1.out hg2 (fun i hi hlt => absurd (Hf1.out i (own_map.symm.trans hi)) (by omega)); have r0 := (hk2.whole H.out.cell (fun h => h)).cell 0; have r1 := (hk2.whole H.out.cell (fun h => h)).frozen 0; have Hk2 := Lib.hid hk2; have Hf2 := Lib.hid (near_far2 (N := w.heap.size) hn2 Hf1.out (by have := Hk1.out.size; simp; omega)); clear hown2 hg2 hn2 hk2))
  all_goals
    go_wp2_with fail
    go_ret
    exact ⟨rfl, ref_left (qs' := qs ++ [(P1, P2)]) H.out Hk2.out (by rw [encs_append]; simpa using Hown2.out) (by simp) (by omega) Hf2.out⟩
end Go.Proofs.Ytelhnhnbfjamhaa
