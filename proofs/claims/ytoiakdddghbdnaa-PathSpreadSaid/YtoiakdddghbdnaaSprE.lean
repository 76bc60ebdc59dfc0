/-
  argosylaw11.PathSpread: its path, call by call.
-/
import Derived.Test.YtoiakdddghbdnaaSprD
namespace Go.Proofs.Ytoiakdddghbdnaa
open Go.RowKit

/-- The frame with another note. -/
def noteF (f : Fr) (n : Int) : Fr := { f with h := { f.h with n := n } }
/-- The first i frames have their notes. -/
def setN (fs : List Fr) (i : Nat) : List Fr := fs.mapIdx (fun j f => if j < i then noteF f (100 + (j : Int)) else f)
theorem setN_len (fs : List Fr) (i : Nat) : (setN fs i).length = fs.length := by simp [setN]
theorem setN_at {fs : List Fr} {i j : Nat} {f : Fr} (h : fs[j]? = some f) : (setN fs i)[j]? = some (if j < i then noteF f (100 + (j : Int)) else f) := by simp [setN, h]
theorem setN_zero (fs : List Fr) : setN fs 0 = fs := by
  apply List.ext_getElem?
  intro j
  by_cases hj : j < fs.length
  · have hg : fs[j]? = some fs[j] := List.getElem?_eq_getElem hj
    rw [setN_at hg, if_neg (by omega), hg]
  · rw [List.getElem?_eq_none (by rw [setN_len]; omega), List.getElem?_eq_none (by omega)]
theorem setN_succ {fs : List Fr} {i : Nat} {f : Fr} (h : fs[i]? = some f) : (setN fs i).set i (noteF f (100 + (i : Int))) = setN fs (i + 1) := by
  apply List.ext_getElem?
  intro j
  have hi := (List.getElem?_eq_some_iff.1 h).1
  by_cases hj : j < fs.length
  · obtain ⟨g, hg⟩ : ∃ g, fs[j]? = some g := ⟨_, List.getElem?_eq_getElem hj⟩
    rw [List.getElem?_set, setN_at hg, setN_at hg]
    by_cases e : i = j
    · subst e
      rw [hg] at h
      cases h
      rw [if_pos rfl, if_pos (by rw [setN_len]; exact hi), if_pos (by omega)]
    · rw [if_neg e]
      by_cases hl : j < i
      · rw [if_pos hl, if_pos (by omega)]
      · rw [if_neg hl, if_neg (by omega)]
  · rw [List.getElem?_eq_none (by rw [List.length_set, setN_len]; omega), List.getElem?_eq_none (by rw [setN_len]; omega)]
theorem setN_mem {fs : List Fr} {i : Nat} {g : Fr} (h : g ∈ setN fs i) : ∃ f ∈ fs, ∃ n, g = noteF f n ∨ g = f := by
  obtain ⟨j, hj⟩ := List.mem_iff_getElem?.1 h
  have hl := (List.getElem?_eq_some_iff.1 hj).1
  rw [setN_len] at hl
  obtain ⟨f, hf⟩ : ∃ f, fs[j]? = some f := ⟨_, List.getElem?_eq_getElem hl⟩
  rw [setN_at hf] at hj
  refine ⟨f, List.mem_of_getElem? hf, 100 + (j : Int), ?_⟩
  cases hj
  split
  · exact .inl rfl
  · exact .inr rfl
theorem Reads.note {w : World} {F : Nat → Prop} {f : Fr} (h : Reads w F f) (n : Int) : Reads w F (noteF f n) := ⟨h.d, h.s, h.dF, h.sF⟩

/-- New blocks that nobody turns. -/
theorem HasA.layN {w w' : World} {F L : Nat → Prop} {p : Nat} {s : PS} (h : HasA w F L p s) (hk : Kp (fun _ => False) w w') : HasA w' (fun k => F k ∨ (w.heap.size ≤ k ∧ k < w'.heap.size)) L p s := by
  have hlt := h.lt.1
  have hold := h.old
  have hdis := h.dis
  obtain ⟨cs, v, h⟩ := h
  refine ⟨cs, v, (h.no hk).more (w0 := w) hlt h.vlt (fun k e => .inl e) (fun k e => e) (fun k e => .inl e) (fun k e e' => ?_)⟩
  rcases e with e | e
  · exact hdis k e e'
  · have := hold k (.inr e'); omega
/-- New blocks: those of the row V are turned, the others not. -/
theorem HasA.layV {w w' : World} {F : Nat → Prop} {p : Nat} {s : PS} (h : HasA w F (fun _ => False) p s) (hk : Kp (fun _ => False) w w') (V : Value) (hV : ∀ k, V.ownBlock = some k → w.heap.size ≤ k ∧ k < w'.heap.size) :
    HasA w' (fun k => F k ∨ ((w.heap.size ≤ k ∧ k < w'.heap.size) ∧ V.ownBlock ≠ some k)) (fun k => V.ownBlock = some k) p s := by
  have hlt := h.lt.1
  have hold := h.old
  obtain ⟨cs, v, h⟩ := h
  refine ⟨cs, v, (h.no hk).more (w0 := w) hlt h.vlt (fun k e => .inl e) (fun k e => e.imp id (fun e => e.1)) (fun k e => .inr (hV k e)) (fun k e e' => ?_)⟩
  rcases e with e | e
  · have := hold k (.inl e); have := (hV k e').1; omega
  · exact e.2 e'

/-- The law's path: V's row is turned by the law, the blocks F by nobody. -/
structure SpR (W w : World) (F : Nat → Prop) (p : Nat) (s : PS) (V : Value) : Prop where
  has : HasA w F (fun k => V.ownBlock = some k) p s
  base : ∀ k, k < W.heap.size → F k
  kp : Kp (fun k => W.heap.size ≤ k) W w
  vW : ∀ k, V.ownBlock = some k → W.heap.size ≤ k
section
variable {W w w' : World} {F F' : Nat → Prop} {p : Nat} {s s' : PS} {V : Value}
theorem SpR.aft (h : SpR W w F p s V) (hs : HasA w' F' (fun k => V.ownBlock = some k) p s') (ha : Aft w F (fun k => V.ownBlock = some k) w' F') : SpR W w' F' p s' V := by
  refine ⟨hs, fun k hk => ha.sup k (h.base k hk), h.kp.trans (ha.kp.mono (fun k _ e => ?_)), h.vW⟩
  rcases Nat.lt_or_ge k W.heap.size with hk | hk
  · exact absurd (h.base k hk) e.1
  · exact hk
theorem SpR.turn (h : SpR W w F p s V) (hk : Kp (fun k => V.ownBlock = some k) w w') : SpR W w' F p s V :=
  ⟨h.has.turn hk (fun _ e => e), h.base, h.kp.trans (hk.mono (fun k _ e => h.vW k e)), h.vW⟩
theorem SpR.no (h : SpR W w F p s V) (hk : Kp (fun _ => False) w w') : SpR W w' F p s V := h.turn hk.no
theorem SpR.layN (h : SpR W w F p s V) (hk : Kp (fun _ => False) w w') : SpR W w' (fun k => F k ∨ (w.heap.size ≤ k ∧ k < w'.heap.size)) p s V :=
  ⟨h.has.layN hk, fun k hk => .inl (h.base k hk), h.kp.trans hk.no, h.vW⟩
theorem SpR.below (h : SpR W w F p s V) : Below W.heap.size W w := h.kp.below (Nat.le_refl _) (fun _ e => e)
theorem SpR.keep {v : Value} {l : List Fr} (h : SpR W w F p s V) (hr : FrsR w F v l) (hk : Kp (fun k => V.ownBlock = some k) w w') : FrsR w' F v l := hr.kp hk (fun k e e' => h.has.dis k e e')
end

/-- The states of the path behind the Sends. -/
abbrev sp1 (A : Option Addr) (c : Nat) (l : List Fr) (e : Bool) : PS := ⟨⟨0, 0, 0, false⟩, ⟨4, 32, 0, 0⟩, [⟨0, 0, e, A, c, l⟩], 1, 0⟩
abbrev sp2 (A1 A2 : Option Addr) (c1 c2 : Nat) (l1 l2 : List Fr) (e1 e2 : Bool) : PS := ⟨⟨0, 0, 0, false⟩, ⟨4, 32, 0, 0⟩, [⟨0, 0, e1, A1, c1, l1⟩, ⟨1, 0, e2, A2, c2, l2⟩], 2, 0⟩
abbrev sp3 (A1 A2 A3 : Option Addr) (c1 c2 c3 : Nat) (l1 l2 : List Fr) (e1 e2 : Bool) : PS := ⟨⟨0, 0, 0, false⟩, ⟨4, 32, 0, 0⟩, [⟨0, 0, e1, A1, c1, l1⟩, ⟨1, 0, e2, A2, c2, l2⟩, ⟨2, 0, false, A3, c3, []⟩], 3, 0⟩

/-- A Send of a part of the row. -/
theorem sp_send {W w : World} {F : Nat → Prop} {p : Nat} {r : R4} {q : W4} {zs : List Pk} {next top : Int} {V : Value} (h : SpR W w F p ⟨r, q, zs, next, top⟩ V) {A : Option Addr} {c m : Nat} {fl : List Fr} (hm : fl.length = m) (hy : Src w 9 (.slice A m c) m (encs encF fl)) (hr : ∀ f ∈ fl, Reads w F f) (hA : ∀ k, (Value.slice A m c).ownBlock = some k → k < w.heap.size)
    (hl : m ≤ 8) (hd : ∀ f ∈ fl, f.d.length ≤ 120 ∧ f.s.length ≤ 8) (hn0 : 0 ≤ next) (hn : next ≤ 99) (hz : zs.length ≤ 99) :
    Calls Try.prog 10 #[.pointer (some ⟨p, 0, none⟩), .int .i64 0, .slice A m c] w fun e w' => e = .returned (.int .i64 next) ∧ ∃ F' B cc l, SpR W w' F' p ⟨r, q, zs ++ [⟨next, 0, fl.any elF, B, cc, l⟩], next + 1, top⟩ V ∧ Aft w F (fun k => V.ownBlock = some k) w' F' ∧ l.map Fr.pu = fl.map Fr.pu := by
  subst hm
  have hold := h.has.old
  refine (a_sendG h.has 0 (G := fun k => k < w.heap.size) ⟨hy, hA, fun f hf => (hr f hf).sup (fun k e => hold k (.inl e))⟩ (fun _ e => e) (by omega) (fun f hf => by have := hd f hf; omega) (by dsimp only; omega) hn0 (by dsimp only; omega)).mono ?_
  rintro e w' ⟨rfl, F', z, h1, h2, h3, h4, h5, h6⟩
  obtain ⟨z1, z2, z3, zA, zc, zl⟩ := z
  dsimp only at h3 h4 h5 h6
  subst h3 h4 h5
  exact ⟨rfl, F', zA, zc, zl, h.aft h1 h2, h2, h6⟩

theorem any_pu {l m : List Fr} (h : l.map Fr.pu = m.map Fr.pu) : l.any elF = m.any elF := by
  have : ∀ l : List Fr, l.any elF = (l.map Fr.pu).any (fun x => decide (x.1.k ≠ 2) && decide (x.1.k ≠ 12)) := fun l => by rw [List.any_map]; rfl
  rw [this l, this m, h]


section
variable {W w : World} {F : Nat → Prop} {p : Nat} {V vw : Value} {gs : List Fr} {B1 B2 B3 : Option Addr} {cc1 cc2 cc3 j : Nat} {l1 l2 : List Fr} {e1 e2 : Bool}
theorem SpR.obj {s : PS} (h : SpR W w F p s V) (hw : FrsR w F vw gs) (o : Obj) : ∃ F', F' w.heap.size ∧ SpR W (w.alloc o) F' p s V ∧ FrsR (w.alloc o) F' vw gs := by
  have hk : Kp (fun _ => False) w (w.alloc o) := (Kp.refl _ w).alloc o
  exact ⟨_, .inr ⟨Nat.le_refl _, by simp⟩, h.layN hk, (h.keep hw hk.no).sup (fun k e => .inl e)⟩
theorem sp3_frs : frsK (sp3 B1 B2 B3 cc1 cc2 cc3 l1 l2 e1 e2).zs = l1 ++ l2 := by simp [frsK]
theorem sp3_hit : (sp3 B1 B2 B3 cc1 cc2 cc3 l1 l2 e1 e2).zs.filter (hitK [(0, 2)]) = (sp3 B1 B2 B3 cc1 cc2 cc3 l1 l2 e1 e2).zs := by
  rw [List.filter_eq_self]
  intro z hz
  simp at hz
  rcases hz with rfl | rfl | rfl <;> simp [hitK, hitP]
theorem sp3_at : ∀ z ∈ (sp3 B1 B2 B3 cc1 cc2 cc3 l1 l2 e1 e2).zs, 0 ≤ z.a ∧ z.a ≤ 4611686018427387904 := by
  intro z hz
  simp at hz
  rcases hz with rfl | rfl | rfl <;> (dsimp only; omega)
theorem c0_heard (h : SpR W w F p (sp3 B1 B2 B3 cc1 cc2 cc3 l1 l2 e1 e2) V) (hw : FrsR w F vw gs) (hj : (l1 ++ l2).length = j) (hj8 : j ≤ 8) :
    Calls Try.prog 11 #[.pointer (some ⟨p, 0, none⟩), .slice (some ⟨w.heap.size, 0, none⟩) 1 1, .int .i64 1] (w.alloc (.cells #[.int .i64 0, .int .i64 2] 37)) fun e w' => ∃ Rg, e = .returned (.tuple #[.slice Rg j j, .int .i64 0]) ∧ ∃ F' s', SpR W w' F' p s' V ∧ FrsR w' F' (.slice Rg j j) (l1 ++ l2) ∧ FrsR w' F' vw gs := by
  subst hj
  obtain ⟨F1, hF1, h1, hw1⟩ := h.obj hw (.cells #[.int .i64 0, .int .i64 2] 37)
  have hfr := sp3_frs (B1 := B1) (B2 := B2) (B3 := B3) (cc1 := cc1) (cc2 := cc2) (cc3 := cc3) (l1 := l1) (l2 := l2) (e1 := e1) (e2 := e2)
  rw [← sp3_hit] at hfr
  have hh := a_heard h1.has (A := some ⟨w.heap.size, 0, none⟩) (c := 1) (rs := [(0, 2)]) (srcW [.int .i64 0, .int .i64 2] (Whole.new _ _ _) rfl (fun u hu => by simp at hu; rcases hu with rfl | rfl <;> rfl)) (fun k hk => (by have : w.heap.size = k := Option.some.inj hk; exact this ▸ hF1)) (by simp) (by simp [overP]) 1 (by omega) sp3_at (by dsimp only; omega) (by dsimp only; omega) (by dsimp only; omega) (by simp) (by rw [hfr]; omega)
  rw [hfr] at hh
  refine hh.mono ?_
  rintro e w' ⟨Rg, rfl, F', k1, k2, k3⟩
  exact ⟨Rg, rfl, F', _, h1.aft k1 k2, k3, k2.frs hw1⟩
abbrev ping2 : Array Value := #[.int .i64 1, .int .i64 0, .int .i64 0, .int .i64 0, .int .i64 0, .int .i64 0, .bool false, .slice none 0 0, .slice none 0 0, .int .i64 1, .int .i64 0, .int .i64 0, .int .i64 0, .int .i64 0, .int .i64 0, .bool false, .slice none 0 0, .slice none 0 0]
abbrev sp4 (A1 A2 A3 A4 : Option Addr) (c1 c2 c3 c4 : Nat) (l1 l2 l4 : List Fr) (e1 e2 : Bool) : PS := ⟨⟨0, 0, 0, false⟩, ⟨4, 32, 0, 0⟩, [⟨0, 0, e1, A1, c1, l1⟩, ⟨1, 0, e2, A2, c2, l2⟩, ⟨2, 0, false, A3, c3, []⟩, ⟨3, 1, true, A4, c4, l4⟩], 4, 0⟩
abbrev sp5 (A1 A2 A3 : Option Addr) (c1 c2 c3 : Nat) (l1 l2 : List Fr) (e1 e2 : Bool) : PS := ⟨⟨8, 2, 0, true⟩, ⟨5, 32, 0, 0⟩, [⟨0, 0, e1, A1, c1, l1⟩, ⟨1, 0, e2, A2, c2, l2⟩, ⟨2, 0, false, A3, c3, []⟩], 4, 4⟩
theorem c1_send (h : SpR W w F p (sp3 B1 B2 B3 cc1 cc2 cc3 l1 l2 e1 e2) V) (hw : FrsR w F vw gs) :
    Calls Try.prog 10 #[.pointer (some ⟨p, 0, none⟩), .int .i64 1, .slice (some ⟨w.heap.size, 0, none⟩) 2 2] (w.alloc (.cells ping2 31)) fun e w' => e = .returned (.int .i64 3) ∧ ∃ F' B4 cc4 l4, SpR W w' F' p (sp4 B1 B2 B3 B4 cc1 cc2 cc3 cc4 l1 l2 l4 e1 e2) V ∧ l4.length = 2 ∧ FrsR w' F' vw gs := by
  obtain ⟨F1, hF1, h1, hw1⟩ := h.obj hw (.cells ping2 31)
  have hh := a_send h1.has 1 (A := some ⟨w.heap.size, 0, none⟩) (c := 2) (fl := [bareF 1, bareF 1]) ⟨srcW (encs encF [bareF 1, bareF 1]) (Whole.new w 31 ping2) rfl (encF_one _), fun k hk => (by have : w.heap.size = k := Option.some.inj hk; exact this ▸ hF1), fun f hf => by simp at hf; subst hf; exact reads_bare _⟩ (by simp) (fun f hf => by simp at hf; subst hf; simp) (by dsimp only; omega) (by dsimp only; omega) (by simp)
  refine hh.mono ?_
  rintro e w' ⟨rfl, F', z, k1, k2, k3, k4, k5, k6⟩
  obtain ⟨z1, z2, z3, zA, zc, zl⟩ := z
  dsimp only at k3 k4 k5 k6
  subst k3 k4 k5
  exact ⟨rfl, F', zA, zc, zl, h1.aft k1 k2, by have := congrArg List.length k6; simpa using this, k2.frs hw1⟩
theorem sp4_hit {B4 : Option Addr} {cc4 : Nat} {l4 : List Fr} : (sp4 B1 B2 B3 B4 cc1 cc2 cc3 cc4 l1 l2 l4 e1 e2).zs.filter (hitK [(3, 3)]) = [⟨3, 1, true, B4, cc4, l4⟩] := by simp [hitK, hitP]
theorem sp4_heard {B4 : Option Addr} {cc4 : Nat} {l4 : List Fr} : heardS (sp4 B1 B2 B3 B4 cc1 cc2 cc3 cc4 l1 l2 l4 e1 e2) [(3, 3)] 2 = sp5 B1 B2 B3 cc1 cc2 cc3 l1 l2 e1 e2 := by
  unfold heardS
  rw [sp4_hit]
  have h1 : ((sp4 B1 B2 B3 B4 cc1 cc2 cc3 cc4 l1 l2 l4 e1 e2).zs.filter fun z => !hitK [(3, 3)] z) = (sp5 B1 B2 B3 cc1 cc2 cc3 l1 l2 e1 e2).zs := by simp [hitK, hitP]
  rw [h1]
  rfl
theorem c1_heard {B4 : Option Addr} {cc4 : Nat} {l4 : List Fr} (h : SpR W w F p (sp4 B1 B2 B3 B4 cc1 cc2 cc3 cc4 l1 l2 l4 e1 e2) V) (hw : FrsR w F vw gs) (hl4 : l4.length = 2) :
    Calls Try.prog 11 #[.pointer (some ⟨p, 0, none⟩), .slice (some ⟨w.heap.size, 0, none⟩) 1 1, .int .i64 2] (w.alloc (.cells #[.int .i64 3, .int .i64 3] 37)) fun e w' => ∃ Rg T, e = .returned (.tuple #[.slice Rg T T, .int .i64 0]) ∧ ∃ F', SpR W w' F' p (sp5 B1 B2 B3 cc1 cc2 cc3 l1 l2 e1 e2) V ∧ FrsR w' F' vw gs := by
  obtain ⟨F1, hF1, h1, hw1⟩ := h.obj hw (.cells #[.int .i64 3, .int .i64 3] 37)
  have hfr : frsK ((sp4 B1 B2 B3 B4 cc1 cc2 cc3 cc4 l1 l2 l4 e1 e2).zs.filter (hitK [(3, 3)])) = l4 := by rw [sp4_hit]; simp [frsK]
  have hh := a_heard h1.has (A := some ⟨w.heap.size, 0, none⟩) (c := 1) (rs := [(3, 3)]) (srcW [.int .i64 3, .int .i64 3] (Whole.new _ _ _) rfl (fun u hu => by simp at hu; rcases hu with rfl | rfl <;> rfl)) (fun k hk => (by have : w.heap.size = k := Option.some.inj hk; exact this ▸ hF1)) (by simp) (by simp [overP]) 2 (by omega) (by intro z hz; simp at hz; rcases hz with rfl | rfl | rfl | rfl <;> (dsimp only; omega)) (by dsimp only; omega) (by dsimp only; omega) (by dsimp only; omega) (by simp) (by rw [hfr]; omega)
  rw [sp4_heard] at hh
  refine hh.mono ?_
  rintro e w' ⟨Rg, rfl, F', k1, k2, _⟩
  exact ⟨Rg, _, rfl, F', h1.aft k1 k2, k2.frs hw1⟩
theorem c1_late (h : SpR W w F p (sp5 B1 B2 B3 cc1 cc2 cc3 l1 l2 e1 e2) V) (hw : FrsR w F vw gs) (hj : (l1 ++ l2).length = j) (hj8 : j ≤ 8) :
    Calls Try.prog 12 #[.pointer (some ⟨p, 0, none⟩), .int .i64 60] w fun e w' => ∃ Rg, e = .returned (.slice Rg j j) ∧ ∃ F' s', SpR W w' F' p s' V ∧ FrsR w' F' (.slice Rg j j) (l1 ++ l2) ∧ FrsR w' F' vw gs := by
  subst hj
  have hf : (sp5 B1 B2 B3 cc1 cc2 cc3 l1 l2 e1 e2).zs.filter (lostK 4 60 (R4.late ⟨8, 2, 0, true⟩)) = (sp5 B1 B2 B3 cc1 cc2 cc3 l1 l2 e1 e2).zs := by
    rw [List.filter_eq_self]
    intro z hz
    simp at hz
    rcases hz with rfl | rfl | rfl <;> rfl
  have hfr : frsK ((sp5 B1 B2 B3 cc1 cc2 cc3 l1 l2 e1 e2).zs.filter (lostK 4 60 (R4.late ⟨8, 2, 0, true⟩))) = l1 ++ l2 := by rw [hf]; simp [frsK]
  have hh := a_late h.has 60 (by omega) (by dsimp only; omega) (by dsimp only; omega) (by simp) (by rw [hfr]; omega)
  rw [hfr] at hh
  refine hh.mono ?_
  rintro e w' ⟨Rg, rfl, F', k1, k2, k3⟩
  exact ⟨Rg, rfl, F', _, h.aft k1 k2, k3, k2.frs hw⟩
theorem c2_yes (h : SpR W w F p (sp3 B1 B2 B3 cc1 cc2 cc3 l1 l2 e1 e2) V) (hw : FrsR w F vw gs) (hj : (l1 ++ l2).length = j) (hj8 : j ≤ 8) (he : (e1 || e2) = true) :
    Calls Try.prog 13 #[.pointer (some ⟨p, 0, none⟩), .int .i64 40] w fun e w' => ∃ Rg, e = .returned (.tuple #[.slice Rg j j, .bool true]) ∧ ∃ F' s', SpR W w' F' p s' V ∧ FrsR w' F' (.slice Rg j j) (l1 ++ l2) ∧ FrsR w' F' vw gs := by
  subst hj
  have ho : oldK (sp3 B1 B2 B3 cc1 cc2 cc3 l1 l2 e1 e2).zs = (0, true) := by
    cases e1
    · cases e2
      · cases he
      · rfl
    · rfl
  have hh := a_probe h.has 40 (by omega) (by simp) (by rw [sp3_frs]; omega) (by dsimp only; omega) (by rw [ho]) (by rw [ho]; show (0:Int) ≤ 40 - R4.wait ⟨0, 0, 0, false⟩; decide)
  rw [sp3_frs] at hh
  refine hh.mono ?_
  rintro e w' ⟨Rg, rfl, F', k1, k2, k3⟩
  exact ⟨Rg, rfl, F', _, h.aft k1 k2, k3, k2.frs hw⟩
theorem c2_no (h : SpR W w F p (sp3 B1 B2 B3 cc1 cc2 cc3 l1 l2 e1 e2) V) (he : (e1 || e2) = false) :
    Calls Try.prog 13 #[.pointer (some ⟨p, 0, none⟩), .int .i64 40] w fun e w' => e = .returned (.tuple #[.slice none 0 0, .bool false]) ∧ Kp (fun _ => False) w w' := by
  refine a_probe_no h.has 40 (by omega) (by simp) (.inl ?_)
  cases e1
  · cases e2
    · rfl
    · cases he
  · cases he
theorem any_take_succ {l : List Fr} {q : Nat} {y : Fr} (h : l[q]? = some y) : (l.take (q + 1)).any elF = ((l.take q).any elF || elF y) := by
  rw [List.take_add_one, List.any_append, h]; simp
theorem any_parts {l : List Fr} {q : Nat} (h : l.length = q) (k : Nat) : (l.take q).any elF = ((l.take k).any elF || (l.drop k).any elF) := by
  rw [List.take_of_length_le (by omega), ← List.any_append, List.take_append_drop]
theorem elF_yes {yk yi yo ya yb yn : Int} {yf : Bool} {ydA ysA : Option Addr} {ydc ysc : Nat} {yd : List UInt8} {ys : List (Int × Int)} (h2 : ¬ yk = 2) (h12 : ¬ yk = 12) : elF ⟨⟨yk, yi, yo, ya, yb, yn, yf⟩, ydA, ydc, ysA, ysc, yd, ys⟩ = true := by simp [elF, h2, h12]
abbrev pingV : Value := .agg #[.int .i64 1, .int .i64 0, .int .i64 0, .int .i64 0, .int .i64 0, .int .i64 0, .bool false, .slice none 0 0, .slice none 0 0]
theorem two_pings (a : Act) (w : World) (K : Act → World → Prop) (Q : Exit → Act → World → Prop) (i0 i1 d : Nat) (pos : String) (af) (h0 : a.tmps[i0]? = some pingV) (h1 : a.tmps[i1]? = some pingV)
    (hK : K (a.put (some d) (.slice (some ⟨w.heap.size, 0, none⟩) 2 2)) (w.alloc (.cells ping2 31))) :
    Oper.wp Try.prog { dst := some d, op := Op.buildSlice 26 2 #[(0, Operand.tmp i0), (1, Operand.tmp i1)], type := 26, pos := pos, after := af, guard := none } a w K Q := by
  go_simp
  exact hK
end
end Go.Proofs.Ytoiakdddghbdnaa
