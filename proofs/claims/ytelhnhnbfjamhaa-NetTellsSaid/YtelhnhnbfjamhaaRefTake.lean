/-
  The reference's net: Take, Double.
-/
import Derived.Test.YtelhnhnbfjamhaaRefNet
import Derived.IntWalk
namespace Go.Proofs.Ytelhnhnbfjamhaa
open Go.RowKit

set_option maxRecDepth 100000 in
set_option maxHeartbeats 1000000 in
theorem ref_take_none {w : World} {r : Nat} {A : Option Addr} {cap : Nat} {qs : List Pk} (h : RefAt w r A cap qs) (k : Int) (hk : ¬ (0 ≤ k ∧ k < qs.length)) :
    Calls Try.prog 21 #[.pointer (some ⟨r, 0, none⟩), .int .i64 k] w fun e w' => e = .returned (.tuple #[.agg #[.int .i64 0, .string ⟨#[]⟩], .bool false]) ∧ Kp (fun _ => False) w w' := by
  have hd : decide (0 ≤ k ∧ k < (qs.length : Int)) = false := by simpa using hk
  have hA : RefAt (w.alloc (.cells #[.int .i64 0, .string ⟨#[]⟩] 44)) r A cap qs := ⟨h.cell.alloc _, h.own.alloc _, h.few⟩
  have hi := ref_has hA k
  rw [hd] at hi
  have HI := Lib.hid hi
  clear h hk hd hi hA
  go_enter Try.func21, Try.ntmps21
  go_wp2_with fail
  refine (HI.out).mono ?_
  rintro e w1 ⟨rfl, rfl⟩
  go_wp2_with fail
  refine bodyPost_ret (v := .tuple #[.agg #[.int .i64 0, .string ⟨#[]⟩], .bool false]) (by simp [results, Try.results21, go_sem]) rfl ⟨rfl, (Kp.refl _ _).alloc _⟩

set_option maxRecDepth 100000 in
set_option maxHeartbeats 1000000 in
theorem ref_double_none {w : World} {r : Nat} {A : Option Addr} {cap : Nat} {qs : List Pk} (h : RefAt w r A cap qs) (k : Int) (hk : ¬ (0 ≤ k ∧ k < qs.length)) :
    Calls Try.prog 22 #[.pointer (some ⟨r, 0, none⟩), .int .i64 k] w fun e w' => e = .returned (.bool false) ∧ Kp (fun _ => False) w w' := by
  have hi := ref_has h k
  rw [decide_eq_false hk] at hi
  have HI := Lib.hid hi
  clear h hk hi
  go_enter Try.func22, Try.ntmps22
  go_wp2_with fail
  refine (HI.out).mono ?_
  rintro e w1 ⟨rfl, rfl⟩
  go_wp2_with fail
  go_ret
  exact ⟨rfl, Kp.refl _ _⟩

set_option maxRecDepth 100000 in
set_option maxHeartbeats 1000000 in
theorem ref_double {w : World} {r : Nat} {A : Option Addr} {cap : Nat} {qs : List Pk} (h : RefAt w r A cap qs) (i : Nat) (p : Pk) (hi : qs[i]? = some p) (hf : qs.length < 64) :
    Calls Try.prog 22 #[.pointer (some ⟨r, 0, none⟩), .int .i64 i] w fun e w' => e = .returned (.bool true) ∧ RefLeft w r (qs ++ [p]) w' := by
  have hil : i < qs.length := (List.getElem?_eq_some_iff.1 hi).1
  have hI := ref_has h i
  rw [show decide (0 ≤ (i : Int) ∧ (i : Int) < (qs.length : Int)) = true by simpa using hil] at hI
  have hP := ref_put h p hf
  have c0 := h.cell.cell 0
  rw [show (#[Value.slice A qs.length cap] : Array Value)[0]? = some (.slice A qs.length cap) from rfl] at c0
  obtain ⟨b, rfl, hcells⟩ := own_some h.own (by omega)
  have e0 := hcells (i * 2) _ (pk0 hi)
  have e1 := hcells (i * 2 + 1) _ (pk1 hi)
  have HI := Lib.hid hI
  have HP := Lib.hid hP
  clear h hI hP hcells hi
  obtain ⟨P1, P2⟩ := p
  dsimp only at *
  go_enter Try.func22, Try.ntmps22
  go_wp2_with fail
  refine (HI.out).mono ?_
  rintro e w1 ⟨rfl, rfl⟩
  go_wp2_with fail
  refine (HP.out).mono ?_
  rintro e w1 ⟨rfl, h1⟩
  have H1 := Lib.hid h1
  clear h1
  go_wp2_with fail
  go_ret
  exact ⟨rfl, H1.out⟩

set_option maxRecDepth 100000 in
set_option maxHeartbeats 1000000 in
theorem ref_double_full {w : World} {r : Nat} {A : Option Addr} {cap : Nat} {qs : List Pk} (h : RefAt w r A cap qs) (i : Nat) (p : Pk) (hi : qs[i]? = some p) (hf : 64 ≤ qs.length) :
    Calls Try.prog 22 #[.pointer (some ⟨r, 0, none⟩), .int .i64 i] w fun e w' => e = .returned (.bool false) ∧ Kp (fun _ => False) w w' := by
  have hil : i < qs.length := (List.getElem?_eq_some_iff.1 hi).1
  have hI := ref_has h i
  rw [show decide (0 ≤ (i : Int) ∧ (i : Int) < (qs.length : Int)) = true by simpa using hil] at hI
  have hP := ref_put_full h p hf
  have c0 := h.cell.cell 0
  rw [show (#[Value.slice A qs.length cap] : Array Value)[0]? = some (.slice A qs.length cap) from rfl] at c0
  obtain ⟨b, rfl, hcells⟩ := own_some h.own (by omega)
  have e0 := hcells (i * 2) _ (pk0 hi)
  have e1 := hcells (i * 2 + 1) _ (pk1 hi)
  have hfew := h.few
  have HI := Lib.hid hI
  have HP := Lib.hid hP
  clear h hI hP hcells hi
  obtain ⟨P1, P2⟩ := p
  dsimp only at *
  go_enter Try.func22, Try.ntmps22
  go_wp2_with fail
  refine (HI.out).mono ?_
  rintro e w1 ⟨rfl, rfl⟩
  go_wp2_with fail
  refine (HP.out).mono ?_
  rintro e w1 ⟨rfl, h1⟩
  have H1 := Lib.hid h1
  clear h1
  go_wp2_with fail
  go_ret
  exact ⟨rfl, H1.out⟩

theorem encs_erase (ps : List Pk) (i : Nat) : encs encPk (ps.eraseIdx i) = (encs encPk ps).take (i * 2) ++ (encs encPk ps).drop ((i + 1) * 2) := by
  rw [List.eraseIdx_eq_take_drop_succ, encs_append, encs_take encPk_len, encs_drop encPk_len]

/-- The two parts of a row, as slices that are read. -/
theorem src_parts {w : World} {B b n cap : Nat} {e : TypeId} {qs : List Pk} (h : w.ownsRow B e 2 (.slice (some ⟨b, 0, none⟩) n cap) n (encs encPk qs)) (i : Nat) (hi : i < n) :
    Src w 2 (.slice (some ⟨b, 0, none⟩) i cap) i ((encs encPk qs).take (i * 2)) ∧
    Src w 2 (.slice (if cap = i + 1 then some ⟨b, 0, none⟩ else some ⟨b, (i + 1) * 2, none⟩) (n - (i + 1)) (cap - (i + 1))) (n - (i + 1)) ((encs encPk qs).drop ((i + 1) * 2)) := by
  have h1 : ∀ u ∈ encs encPk qs, u.oneCell' = true := encs_one (fun x _ => encPk_one x)
  refine ⟨ownsRow_src (ownsRow_take h i (by omega)) (fun u hu => h1 u (List.mem_of_mem_take hu)), ⟨by rw [List.length_drop, h.1, Nat.sub_mul], fun u hu => h1 u (List.mem_of_mem_drop hu), .inr ⟨if cap = i + 1 then ⟨b, 0, none⟩ else ⟨b, (i + 1) * 2, none⟩, _, by split <;> rfl, fun j u hj => ?_⟩⟩⟩
  rw [List.getElem?_drop] at hj
  have hlt := (List.getElem?_eq_some_iff.1 hj).1
  rw [h.1] at hlt
  have hc := own_cap h
  rw [if_neg (by omega)]
  have := h.cells (g := b) rfl _ u hj
  rw [Addr.add_lit] at this ⊢
  simpa using this

theorem ref_left2 {w w2 : World} {r : Nat} {A A2 : Option Addr} {cap cap2 n : Nat} {qs qs' : List Pk} (h : RefAt w r A cap qs) (hk : Kp (fun _ => False) w w2) (ho : w2.ownsRow 0 44 2 (.slice A2 n cap2) n (encs encPk qs')) (hn : qs'.length = n) (hf : n ≤ 64)
    (hfar : ∀ k, A2.map (·.block) = some k → w.heap.size + 2 ≤ k) (u v : Value) : RefLeft w r qs' (((w2.setCell ⟨r, 0, none⟩ (.slice A2 n cap2)).setCell ⟨w.heap.size, 0, none⟩ u).setCell ⟨w.heap.size, 1, none⟩ v) := by
  obtain ⟨A3, cap3, h1, h2, h3⟩ := ref_left (w := w) (r := r) h hk ho hn hf (fun k hk => by have := hfar k hk; omega)
  have hr := h.cell.lt
  have hrn : r ≠ w.heap.size := by omega
  subst hn
  have e : (Value.slice A2 qs'.length cap2) = .slice A3 qs'.length cap3 := by
    have h4 := h1.cell.cell 0
    have hw := hk.whole h.cell (fun h => h)
    rw [World.cell?_setCell_same' _ _ _ (by rw [hw.cell 0]; rfl)] at h4
    exact Option.some.inj h4
  cases e
  refine ⟨A2, cap2, ⟨(h1.cell.far (p := ⟨w.heap.size, 0, none⟩) hrn _).far (p := ⟨w.heap.size, 1, none⟩) hrn _, ?_, h1.few⟩, fun k hk => by have := hfar k hk; omega, Kp.set (Kp.set h3 (p := ⟨w.heap.size, 0, none⟩) (.inr (Nat.le_refl _)) _) (p := ⟨w.heap.size, 1, none⟩) (.inr (Nat.le_refl _)) _⟩
  refine Kp.own (S := fun k => k = w.heap.size) (Kp.set (S := fun k => k = w.heap.size) (Kp.set (S := fun k => k = w.heap.size) (Kp.refl _ _) (p := ⟨w.heap.size, 0, none⟩) (.inl rfl) _) (p := ⟨w.heap.size, 1, none⟩) (.inl rfl) _) h1.own (fun k hk e => ?_)
  have := hfar k (own_map.symm.trans hk)
  omega

set_option maxRecDepth 100000 in
set_option maxHeartbeats 1000000 in
theorem ref_take {w : World} {r : Nat} {A : Option Addr} {cap : Nat} {qs : List Pk} (h : RefAt w r A cap qs) (i : Nat) (p : Pk) (hi : qs[i]? = some p) :
    Calls Try.prog 21 #[.pointer (some ⟨r, 0, none⟩), .int .i64 i] w fun e w' => e = .returned (.tuple #[.agg #[.int .i64 p.1, .string p.2], .bool true]) ∧ RefLeft w r (qs.eraseIdx i) w' := by
  have hil : i < qs.length := (List.getElem?_eq_some_iff.1 hi).1
  have hf := h.few
  have hA : RefAt (w.alloc (.cells #[.int .i64 0, .string ⟨#[]⟩] 44)) r A cap qs := ⟨h.cell.alloc _, h.own.alloc _, h.few⟩
  have hI := ref_has hA i
  rw [show decide (0 ≤ (i : Int) ∧ (i : Int) < (qs.length : Int)) = true by simpa using hil] at hI
  have HI := Lib.hid hI
  have c0 := h.cell.cell 0
  rw [show (#[Value.slice A qs.length cap] : Array Value)[0]? = some (.slice A qs.length cap) from rfl] at c0
  obtain ⟨b, rfl, hcells⟩ := own_some h.own (by omega)
  have e0 := hcells (i * 2) _ (pk0 hi)
  have e1 := hcells (i * 2 + 1) _ (pk1 hi)
  have hr := h.cell.lt
  have hcap := own_cap h.own
  obtain ⟨l1, l2, l3, l4, _, _⟩ := le_steps hr
  obtain ⟨m1, m2, m3, m4, _, _⟩ := le_steps hcap.2.2.2
  have hbl := hcap.2.2.2
  have hnc := hcap.1
  have hS := src_parts h.own i hil
  have HS : Hid (∀ w1, Kp (fun _ => False) w w1 → Src w1 2 (.slice (some ⟨b, 0, none⟩) i cap) i ((encs encPk qs).take (i * 2))) := Lib.hid (fun w1 hk => hk.src hS.1 (fun _ _ h => h))
  have HS2 : Hid (∀ w1, Kp (fun _ => False) w w1 → Src w1 2 (.slice (if cap = i + 1 then some ⟨b, 0, none⟩ else some ⟨b, (i + 1) * 2, none⟩) (qs.length - (i + 1)) (cap - (i + 1))) (qs.length - (i + 1)) ((encs encPk qs).drop ((i + 1) * 2))) := Lib.hid (fun w1 hk => hk.src hS.2 (fun _ _ h => h))
  have H := Lib.hid h
  obtain ⟨i0, hii, hz0, hz1, hz2⟩ := info_parts infoRk
  have Hi := Lib.hid hii
  have Hz0 := Lib.hid hz0
  have Hz1 := Lib.hid hz1
  have Hz2 := Lib.hid hz2
  have hic : i ≤ cap := by omega
  have h0i : 0 ≤ (i : Int) + 1 := by omega
  have hjn : i + 1 ≤ qs.length := by omega
  have hjn' : (i : Int) + 1 ≤ qs.length := by omega
  have hcm : cap ≤ 9223372036854775807 := hcap.2.1
  clear hii hz0 hz1 hz2 hA hI hcells hS h hi hcap
  obtain ⟨P1, P2⟩ := p
  dsimp only at *
  obtain ⟨m, hm⟩ : ∃ m, m = qs.length - (i + 1) := ⟨_, rfl⟩
  have hnm : qs.length - (i + 1) = m := hm.symm
  rw [hnm] at HS2
  have him : i + m ≤ 64 := by omega
  have hml : (qs.eraseIdx i).length = i + m := by rw [List.length_eraseIdx, if_pos hil]; omega
  have Hml := Lib.hid hml
  clear hm hml
  by_cases hc : cap = i + 1
  · subst hc
    rw [if_pos rfl] at HS2
    have hii1 : (i : Int) ≤ (i : Int) + 1 := by omega
    obtain rfl : m = 0 := by omega
    rw [Nat.sub_self] at HS2
    go_enter Try.func21, Try.ntmps21
    go_wp2_with fail
    refine (HI.out).mono ?_
    rintro e w1 ⟨rfl, rfl⟩
    go_wp2_with fail
    have hwr : IntKind.i64.wrap ((i : Int) + 1) = (i : Int) + 1 := IntWalk.i64_in _ (by omega)
    have htn : ((i : Int) + 1).toNat = i + 1 := by omega
    go_region_law (first | (refine step_app rfl (.tmp 20) (.tmp 26) 41 rfl 0 44 i0 _ 2 24 Try.underlying41 Hi.out Hz0.out Hz1.out Hz2.out rfl (by decide) (.slice (some ⟨w.heap.size + 2, 0, none⟩) 0 0) 0 [] (by simp [Act.eval, Act.put]) (own_new0 _ rfl (by simp)) (.slice (some ⟨b, 0, none⟩) i (i + 1)) i _ (by simp [Act.eval, Act.put]) (HS.out _ ((((Kp.refl _ w).alloc _).alloc _).alloc _).drew) (by unfold maxLen; omega) (by clear hwr htn; omega) (by clear hwr htn; omega) ?_; intro v' w1 hown1 hg1 hn1; obtain ⟨A', cap', rfl⟩ := own_form hown1; have hk1 : Kp (fun _ => False) w w1 := Kp.grown ((((Kp.refl _ w).alloc _).alloc _).alloc _).drew hg1 (fun i hi hlt => by clear hwr htn; have := Option.some.inj hi; dsimp only at this; omega); have q0 := (hk1.whole H.out.cell (fun h => h)).cell 0; rw [show (#[Value.slice (some ⟨b, 0, none⟩) qs.length (i + 1)] : Array Value)[0]? = some (.slice (some ⟨b, 0, none⟩) qs.length (i + 1)) from rfl] at q0; have Hown1 := Lib.hid hown1; have Hk1 := Lib.hid hk1; have Hf1 := Lib.hid (near_far (N := w.heap.size + 2) hn1 (by clear hwr htn; omega) (by simp; try (clear hwr htn; omega))); have Hw1 := Lib.hid (Whole.grown (g := w.heap.size + 1) (t := 44) (cs := #[.int .i64 P1, .string P2]) (Whole.drew (Whole.alloc (whole_at _ _ rfl (by simp)) _)) hg1 (by simp [Value.ownBlock])); have Hx1 := Lib.hid (Whole.grown (g := w.heap.size) (t := 44) (cs := #[.int .i64 0, .string ⟨#[]⟩]) (Whole.drew (Whole.alloc (Whole.alloc (whole_at _ _ rfl rfl) _) _)) hg1 (by simp [Value.ownBlock])); have Hs1 := Lib.hid hg1.size; clear hown1 hg1 hn1 hk1) | (refine step_app rfl (.tmp 27) (.tmp 34) 41 rfl 0 44 i0 _ 2 24 Try.underlying41 Hi.out Hz0.out Hz1.out Hz2.out rfl (by decide) (.slice A' (0 + i) cap') (0 + i) _ (by simp [Act.eval, Act.put]) (Hown1.out) (.slice (some ⟨b, 0, none⟩) 0 0) 0 _ (by simp [Act.eval, Act.put]) (HS2.out _ Hk1.out) (by unfold maxLen; omega) (by clear hwr htn; omega) (by clear hwr htn; omega) ?_; intro v'' w2 hown2 hg2 hn2; obtain ⟨A2, cap2, rfl⟩ := own_form hown2; have hk2 : Kp (fun _ => False) w w2 := Kp.grown Hk1.out hg2 (fun i hi hlt => absurd (Hf1.out i (own_map.symm.trans hi)) (by clear hwr htn; omega)); have r0 := (hk2.whole H.out.cell (fun h => h)).cell 0; have r1 := (hk2.whole H.out.cell (fun h => h)).frozen 0; have hn0 : ∀ k, k < w.heap.size + 2 → some k ≠ (Value.slice A' (0 + i) cap').ownBlock := (fun k hk e => absurd (Hf1.out k (own_map.symm.trans e.symm)) (by clear hwr htn; omega)); have b0 := (Hw1.out.grown hg2 (hn0 _ (by clear hwr htn; omega))).cell 0; have b1 := (Hw1.out.grown hg2 (hn0 _ (by clear hwr htn; omega))).cell 1; have x0 := (Hx1.out.grown hg2 (hn0 _ (by clear hwr htn; omega))).cell 0; have x1 := (Hx1.out.grown hg2 (hn0 _ (by clear hwr htn; omega))).cell 1; have x2 := (Hx1.out.grown hg2 (hn0 _ (by clear hwr htn; omega))).frozen 0; have x3 := (Hx1.out.grown hg2 (hn0 _ (by clear hwr htn; omega))).frozen 1; have Hx2 := Lib.hid (Hx1.out.grown hg2 (hn0 _ (by clear hwr htn; omega))); have s2 : w.heap.size + 2 < w2.heap.size := (by clear hwr htn; have := Hs1.out; have := hg2.size; simp at *; omega); have Hown2 := Lib.hid hown2; have Hk2 := Lib.hid hk2; have Hf2 := Lib.hid (near_far2 (N := w.heap.size + 2) hn2 Hf1.out (by clear hwr htn; have := Hs1.out; simp at this; omega)); clear hown2 hg2 hn2 hk2 hn0))
    all_goals
      clear hwr htn
      go_wp2_with fail
      have hl := ref_left2 (qs' := qs.eraseIdx i) H.out Hk2.out (by rw [encs_erase]; simpa using Hown2.out) Hml.out (by omega) Hf2.out (.int .i64 P1) (.string P2)
      have z := ((Hx2.out.far (p := ⟨r, 0, none⟩) (by simp; omega) (.slice A2 (i) cap2)).set 0 (.int .i64 P1)).set 1 (.string P2)
      generalize ((w2.setCell ⟨r, 0, none⟩ (.slice A2 (i) cap2)).setCell ⟨w.heap.size, 0, none⟩ (.int .i64 P1)).setCell ⟨w.heap.size, 1, none⟩ (.string P2) = wf at hl z ⊢
      have y0 := z.cell 0
      have y1 := z.cell 1
      simp at y0 y1
      exact bodyPost_ret (v := .tuple #[.agg #[.int .i64 P1, .string P2], .bool true]) (by simp [results, Try.results21, go_sem, y0, y1]) rfl ⟨rfl, hl⟩
  · rw [if_neg hc] at HS2
    go_enter Try.func21, Try.ntmps21
    go_wp2_with fail
    refine (HI.out).mono ?_
    rintro e w1 ⟨rfl, rfl⟩
    go_wp2_with fail
    have hwr : IntKind.i64.wrap ((i : Int) + 1) = (i : Int) + 1 := IntWalk.i64_in _ (by omega)
    have htn : ((i : Int) + 1).toNat = i + 1 := by omega
    go_region_law (first | (refine step_app rfl (.tmp 20) (.tmp 26) 41 rfl 0 44 i0 _ 2 24 Try.underlying41 Hi.out Hz0.out Hz1.out Hz2.out rfl (by decide) (.slice (some ⟨w.heap.size + 2, 0, none⟩) 0 0) 0 [] (by simp [Act.eval, Act.put]) (own_new0 _ rfl (by simp)) (.slice (some ⟨b, 0, none⟩) i cap) i _ (by simp [Act.eval, Act.put]) (HS.out _ ((((Kp.refl _ w).alloc _).alloc _).alloc _).drew) (by unfold maxLen; omega) (by clear hwr htn; omega) (by clear hwr htn; omega) ?_; intro v' w1 hown1 hg1 hn1; obtain ⟨A', cap', rfl⟩ := own_form hown1; have hk1 : Kp (fun _ => False) w w1 := Kp.grown ((((Kp.refl _ w).alloc _).alloc _).alloc _).drew hg1 (fun i hi hlt => by clear hwr htn; have := Option.some.inj hi; dsimp only at this; omega); have q0 := (hk1.whole H.out.cell (fun h => h)).cell 0; rw [show (#[Value.slice (some ⟨b, 0, none⟩) qs.length cap] : Array Value)[0]? = some (.slice (some ⟨b, 0, none⟩) qs.length cap) from rfl] at q0; have Hown1 := Lib.hid hown1; have Hk1 := Lib.hid hk1; have Hf1 := Lib.hid (near_far (N := w.heap.size + 2) hn1 (by clear hwr htn; omega) (by simp; try (clear hwr htn; omega))); have Hw1 := Lib.hid (Whole.grown (g := w.heap.size + 1) (t := 44) (cs := #[.int .i64 P1, .string P2]) (Whole.drew (Whole.alloc (whole_at _ _ rfl (by simp)) _)) hg1 (by simp [Value.ownBlock])); have Hx1 := Lib.hid (Whole.grown (g := w.heap.size) (t := 44) (cs := #[.int .i64 0, .string ⟨#[]⟩]) (Whole.drew (Whole.alloc (Whole.alloc (whole_at _ _ rfl rfl) _) _)) hg1 (by simp [Value.ownBlock])); have Hs1 := Lib.hid hg1.size; clear hown1 hg1 hn1 hk1) | (refine step_app rfl (.tmp 27) (.tmp 34) 41 rfl 0 44 i0 _ 2 24 Try.underlying41 Hi.out Hz0.out Hz1.out Hz2.out rfl (by decide) (.slice A' (0 + i) cap') (0 + i) _ (by simp [Act.eval, Act.put]) (Hown1.out) (.slice (some ⟨b, (i + 1) * 2, none⟩) m (cap - (i + 1))) m _ (by simp [Act.eval, Act.put]) (HS2.out _ Hk1.out) (by unfold maxLen; omega) (by clear hwr htn; omega) (by clear hwr htn; omega) ?_; intro v'' w2 hown2 hg2 hn2; obtain ⟨A2, cap2, rfl⟩ := own_form hown2; have hk2 : Kp (fun _ => False) w w2 := Kp.grown Hk1.out hg2 (fun i hi hlt => absurd (Hf1.out i (own_map.symm.trans hi)) (by clear hwr htn; omega)); have r0 := (hk2.whole H.out.cell (fun h => h)).cell 0; have r1 := (hk2.whole H.out.cell (fun h => h)).frozen 0; have hn0 : ∀ k, k < w.heap.size + 2 → some k ≠ (Value.slice A' (0 + i) cap').ownBlock := (fun k hk e => absurd (Hf1.out k (own_map.symm.trans e.symm)) (by clear hwr htn; omega)); have b0 := (Hw1.out.grown hg2 (hn0 _ (by clear hwr htn; omega))).cell 0; have b1 := (Hw1.out.grown hg2 (hn0 _ (by clear hwr htn; omega))).cell 1; have x0 := (Hx1.out.grown hg2 (hn0 _ (by clear hwr htn; omega))).cell 0; have x1 := (Hx1.out.grown hg2 (hn0 _ (by clear hwr htn; omega))).cell 1; have x2 := (Hx1.out.grown hg2 (hn0 _ (by clear hwr htn; omega))).frozen 0; have x3 := (Hx1.out.grown hg2 (hn0 _ (by clear hwr htn; omega))).frozen 1; have Hx2 := Lib.hid (Hx1.out.grown hg2 (hn0 _ (by clear hwr htn; omega))); have s2 : w.heap.size + 2 < w2.heap.size := (by clear hwr htn; have := Hs1.out; have := hg2.size; simp at *; omega); have Hown2 := Lib.hid hown2; have Hk2 := Lib.hid hk2; have Hf2 := Lib.hid (near_far2 (N := w.heap.size + 2) hn2 Hf1.out (by clear hwr htn; have := Hs1.out; simp at this; omega)); clear hown2 hg2 hn2 hk2 hn0))
    all_goals
      clear hwr htn
      go_wp2_with fail
      have hl := ref_left2 (qs' := qs.eraseIdx i) H.out Hk2.out (by rw [encs_erase]; simpa using Hown2.out) Hml.out (by omega) Hf2.out (.int .i64 P1) (.string P2)
      have z := ((Hx2.out.far (p := ⟨r, 0, none⟩) (by simp; omega) (.slice A2 (i + m) cap2)).set 0 (.int .i64 P1)).set 1 (.string P2)
      generalize ((w2.setCell ⟨r, 0, none⟩ (.slice A2 (i + m) cap2)).setCell ⟨w.heap.size, 0, none⟩ (.int .i64 P1)).setCell ⟨w.heap.size, 1, none⟩ (.string P2) = wf at hl z ⊢
      have y0 := z.cell 0
      have y1 := z.cell 1
      simp at y0 y1
      exact bodyPost_ret (v := .tuple #[.agg #[.int .i64 P1, .string P2], .bool true]) (by simp [results, Try.results21, go_sem, y0, y1]) rfl ⟨rfl, hl⟩
end Go.Proofs.Ytelhnhnbfjamhaa
