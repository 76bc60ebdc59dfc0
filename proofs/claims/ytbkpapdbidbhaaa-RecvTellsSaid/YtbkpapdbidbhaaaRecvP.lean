/-
  recv.Stream: plain laws of Put and Take.
-/
import Derived.Test.YtbkpapdbidbhaaaRecvKw
namespace Go.Proofs.Ytbkpapdbidbhaaa
open Go.RowKit

theorem pieceG_get {p : List UInt8} {o : Nat} {r : Pr} (h1 : (o : Int) ≤ r.1) {j : Nat} (hj : r.1 ≤ (j : Int)) (hj2 : (j : Int) < r.2) : (pieceG p o r)[j - r.1.toNat]? = p[j - o]? := by
  unfold pieceG
  rw [List.getElem?_take, if_pos (by omega), List.getElem?_drop]
  congr 1
  omega
open Classical in
theorem fill_get {p : List UInt8} {o tt : Nat} (hp : o + p.length = tt) : ∀ (G : List Pr) (d : List UInt8), (∀ r ∈ G, (o : Int) ≤ r.1 ∧ r.1 < r.2 ∧ r.2 ≤ (tt : Int)) → tt ≤ d.length → ∀ j : Nat, (fillG p o G d)[j]? = if InL G j then p[j - o]? else d[j]?
  | [], d, _, _, j => by rw [if_neg (inl_nil _)]; rfl
  | r :: G, d, h, hd, j => by
    have h0 := h r (by simp)
    have hpl := pieceG_len h0.1 h0.2.1 h0.2.2 hp
    have hl : (putD d r.1.toNat (pieceG p o r)).length = d.length := putD_len (by rw [hpl]; omega)
    have ih := fill_get hp G (putD d r.1.toNat (pieceG p o r)) (fun r hr => h r (by simp [hr])) (by rw [hl]; exact hd) j
    show (fillG p o G (putD d r.1.toNat (pieceG p o r)))[j]? = _
    rw [ih]
    by_cases e1 : InL G j
    · rw [if_pos e1, if_pos ((inl_cons _ _ _).2 (.inr e1))]
    · rw [if_neg e1, putD_get (by rw [hpl]; omega), hpl]
      by_cases e2 : r.1 ≤ (j : Int) ∧ (j : Int) < r.2
      · rw [if_pos (by omega), if_pos ((inl_cons _ _ _).2 (.inl e2)), pieceG_get h0.1 e2.1 e2.2]
      · rw [if_neg (by omega), if_neg (fun e => ((inl_cons _ _ _).1 e).elim e2 e1)]
theorem growD_get {d : List UInt8} {tt j : Nat} (h : j < d.length) : (growD d tt)[j]? = d[j]? := by
  unfold growD
  rw [List.getElem?_append_left h]
section
variable {s : RS} {o : Nat} {fin : Bool} {p : List UInt8}
theorem putS_gaps (h : s.Ok) (hto : o + p.length ≤ 225000000000000) : (∀ r ∈ gapL s.L (bringS (o : Int)) (bringS ((o + p.length : Nat) : Int)), (o : Int) ≤ r.1 ∧ r.1 < r.2 ∧ r.2 ≤ ((o + p.length : Nat) : Int)) ∧ ∀ n, InL (gapL s.L (bringS (o : Int)) (bringS ((o + p.length : Nat) : Int))) n ↔ (o : Int) ≤ n ∧ n < ((o + p.length : Nat) : Int) ∧ ¬ InL s.L n := by
  rw [bringS_id (n := (o : Int)) (by omega) (by unfold EndS; omega), bringS_id (n := ((o + p.length : Nat) : Int)) (by omega) (by unfold EndS; omega)]
  exact gap_in h.norm _ _
theorem putS_in (h : s.Ok) (hto : o + p.length ≤ 225000000000000) : ∀ n, InL (putS s o fin p).L n ↔ InL s.L n ∨ ((o : Int) ≤ n ∧ n < ((o + p.length : Nat) : Int)) :=
  (addS_in h.norm (by unfold EndS; omega) (f := (o : Int)) (t := ((o + p.length : Nat) : Int)) (by omega) (by omega) (by omega) (by omega)).2
open Classical in
theorem putS_get (h : s.Ok) (hto : o + p.length ≤ 225000000000000) (j : Nat) : (putS s o fin p).d[j]? = if (o ≤ j ∧ j < o + p.length ∧ ¬ InL s.L j) then p[j - o]? else (growD s.d (o + p.length))[j]? := by
  obtain ⟨g1, g2⟩ := putS_gaps (s := s) (o := o) (p := p) h hto
  show (fillG p o _ _)[j]? = _
  rw [fill_get rfl _ _ g1 (by rw [growD_len]; omega)]
  by_cases e : InL (gapL s.L (bringS (o : Int)) (bringS ((o + p.length : Nat) : Int))) j
  · rw [if_pos e, if_pos (by have := (g2 j).1 e; exact ⟨by omega, by omega, this.2.2⟩)]
  · rw [if_neg e, if_neg (fun hh => e ((g2 j).2 ⟨by omega, by omega, hh.2.2⟩))]
theorem putS_len (h : s.Ok) (hto : o + p.length ≤ 225000000000000) : (putS s o fin p).d.length = max s.d.length (o + p.length) := by
  have g1 := (putS_gaps (s := s) (o := o) (p := p) h hto).1
  show (fillG p o _ _).length = _
  rw [fill_len rfl _ _ g1 (by rw [growD_len]; omega), growD_len]
/-- What is there is what was written. -/
def Good2 (all : List UInt8) (s : RS) : Prop := ∀ j : Nat, InL s.L j → s.d[j]? = all[j]?
theorem good_put {all : List UInt8} (h : s.Ok) (hto : o + p.length ≤ 225000000000000) (hG : Good2 all s) (hp : ∀ j, o ≤ j → j < o + p.length → ¬ InL s.L j → p[j - o]? = all[j]?) : Good2 all (putS s o fin p) := by
  intro j hj
  rw [putS_get h hto]
  by_cases e1 : InL s.L j
  · rw [if_neg (fun hh => hh.2.2 e1)]
    have := h.cov j e1
    rw [growD_get (by omega)]
    exact hG j e1
  · have := ((putS_in (fin := fin) h hto j).1 hj).resolve_left e1
    rw [if_pos ⟨by omega, by omega, e1⟩]
    exact hp j (by omega) (by omega) e1
end
/-- firstL is known by what is there. -/
theorem first_is {E : Int} {L : List Pr} (h : NormL E L) {n f : Int} (h1 : n ≤ f) (h2 : ∀ j, n ≤ j → j < f → InL L j) (h3 : ¬ InL L f) : firstL L n = f := by
  obtain ⟨g1, g2, g3⟩ := first_spec h n
  rcases Int.lt_trichotomy (firstL L n) f with e | e | e
  · exact absurd (h2 _ g1 e) g3
  · exact e
  · exact absurd (g2 f h1 e) h3
theorem count_from0 {E : Int} {L : List Pr} (h : NormL E L) (n : Nat) (hn : (n : Int) ≤ E) (hI : ∀ j, InL L j ↔ 0 ≤ j ∧ j < (n : Int)) : countL L = (n : Int) := by
  by_cases h0 : n = 0
  · subst h0
    have : L = [] := norm_ext L [] h (NormL.nil E) (fun j => by rw [hI]; exact ⟨fun h => by omega, fun h => absurd h (inl_nil _)⟩)
    subst this
    rfl
  · have : L = [((0 : Int), (n : Int))] := norm_ext L _ h (NormL.make (NormL.nil E) (fun x hx => by cases hx) ⟨by simp, by simp; omega, hn⟩) (fun j => by rw [hI, inl_cons]; exact ⟨.inl, fun h => h.resolve_right (inl_nil _)⟩)
    subst this
    simp [countL]

/-- A stream that was put whole: its first en bytes are all's, its end is told. -/
structure Whole1 (all : List UInt8) (en : Nat) (s : RS) : Prop where
  ok : s.Ok
  told : s.told = 400
  ended : s.ended = true
  end_ : s.en = en
  top : s.top = en
  broken : s.broken = false
  taken : s.taken = 0
  inl : ∀ j, InL s.L j ↔ 0 ≤ j ∧ j < (en : Int)
  good : Good2 all s
  len : s.d.length = en
theorem rs0_ok : rs0.Ok := ⟨NormL.nil _, by decide, rfl, by decide, by decide, by decide, by decide, by decide, by decide, fun n hn => absurd hn (inl_nil n), by decide⟩
theorem whole_start {all : List UInt8} {en : Nat} (h1 : en ≤ all.length) (h4 : en ≤ 400) (hok : (putS rs0 0 true (all.take en)).Ok) : Whole1 all en (putS rs0 0 true (all.take en)) := by
  have hl : (all.take en).length = en := by rw [List.length_take]; omega
  refine ⟨hok, rfl, rfl, ?_, ?_, rfl, rfl, fun j => ?_, ?_, ?_⟩
  · show (if true = true then 0 + (all.take en).length else rs0.en) = en
    rw [if_pos rfl, hl, Nat.zero_add]
  · show (if (all.take en).length = 0 ∧ true = false then rs0.top else max rs0.top (0 + (all.take en).length)) = en
    rw [if_neg (fun h => by cases h.2), hl]
    show max 0 (0 + en) = en
    omega
  · rw [putS_in rs0_ok (by omega), hl]
    constructor
    · rintro (h | h)
      · exact absurd h (inl_nil _)
      · omega
    · intro h; right; omega
  · refine good_put rs0_ok (by omega) (fun j hj => absurd hj (inl_nil _)) (fun j h1 h2 _ => ?_)
    rw [List.getElem?_take, if_pos (by omega)]
    simp
  · rw [putS_len rs0_ok (by omega), hl]
    show max 0 (0 + en) = en
    omega
theorem whole_put {all : List UInt8} {en : Nat} {s : RS} (h : Whole1 all en s) (h4 : en ≤ 400) {o : Nat} {fin : Bool} {p : List UInt8} (he : putErr s (o : Int) fin p.length = 0) (hok : (putS s o fin p).Ok) : Whole1 all en (putS s o fin p) := by
  have hto : o + p.length ≤ en ∧ (fin = true → o + p.length = en) := by
    unfold putErr at he
    rw [h.told, h.ended, h.end_, h.top] at he
    by_cases e1 : (o : Int) < 0 ∨ 4611686018427387903 - (p.length : Int) < (o : Int)
    · rw [if_pos e1] at he; cases he
    · rw [if_neg e1] at he
      by_cases e2 : ((400 : Nat) : Int) < (o : Int) + (p.length : Int)
      · rw [if_pos e2] at he; cases he
      · rw [if_neg e2] at he
        by_cases e3 : (true = true ∧ (en : Int) < (o : Int) + (p.length : Int)) ∨ (fin = true ∧ true = true ∧ (o : Int) + (p.length : Int) ≠ en) ∨ (fin = true ∧ (o : Int) + (p.length : Int) < en)
        · rw [if_pos e3] at he; cases he
        · constructor
          · have : ¬ ((en : Int) < (o : Int) + (p.length : Int)) := fun h => e3 (.inl ⟨rfl, h⟩)
            omega
          · intro hf
            have : ¬ ((o : Int) + (p.length : Int) ≠ en) := fun h => e3 (.inr (.inl ⟨hf, rfl, h⟩))
            omega
  refine ⟨hok, h.told, ?_, ?_, ?_, h.broken, h.taken, fun j => ?_, ?_, ?_⟩
  · show (s.ended || fin) = true
    rw [h.ended]; rfl
  · show (if fin = true then o + p.length else s.en) = en
    split
    · rename_i hf; exact hto.2 hf
    · exact h.end_
  · show (if p.length = 0 ∧ fin = false then s.top else max s.top (o + p.length)) = en
    have := h.top
    split <;> omega
  · rw [putS_in h.ok (by omega), h.inl]
    constructor
    · rintro (h | h) <;> omega
    · intro h; left; exact h
  · exact good_put h.ok (by omega) h.good (fun j h1 h2 h3 => absurd ((h.inl j).2 ⟨by omega, by omega⟩) h3)
  · rw [putS_len h.ok (by omega), h.len]; omega
theorem whole_all {all : List UInt8} {en : Nat} {s : RS} (h : Whole1 all en s) : allB s en = true := by
  unfold allB
  have := h.ok.en
  have := h.end_
  rw [bringS_id (n := 0) (by omega) (by unfold EndS; omega), bringS_id (n := (en : Int)) (by omega) (by unfold EndS; omega)]
  exact gap_all h.ok.norm (fun n h1 h2 => (h.inl n).2 ⟨h1, h2⟩)
theorem whole_brk {all : List UInt8} {en : Nat} {s : RS} (h : Whole1 all en s) (code sure : Nat) (hok : (brkS s code en sure).Ok) : Whole1 all en (brkS s code en sure) := by
  have e : brkS s code en sure = { s with ended := true, en := en, top := max s.top en } := by
    unfold brkS
    rw [if_pos ⟨h.ended, whole_all h, h.broken⟩]
  rw [e] at hok ⊢
  exact ⟨hok, h.told, rfl, rfl, by show max s.top en = en; have := h.top; omega, h.broken, h.taken, h.inl, h.good, h.len⟩
theorem whole_take {all : List UInt8} {en : Nat} {s : RS} (h : Whole1 all en s) (h4 : en ≤ 400) : toN s 999 = en ∧ ((s.d.drop s.taken).take (en - s.taken)) = all.take en ∧ overN (takeS s en) = 1 ∧ countL (takeS s en).L = (en : Int) := by
  have hf : firstL s.L s.taken = (en : Int) := by
    rw [h.taken]
    exact first_is h.ok.norm (by omega) (fun j h1 h2 => (h.inl j).2 ⟨h1, h2⟩) (fun hh => by have := (h.inl _).1 hh; omega)
  refine ⟨?_, ?_, ?_, ?_⟩
  · unfold toN farN mostN
    rw [if_neg (by rw [h.broken]; simp), hf, h.taken]
    omega
  · rw [h.taken, List.drop_zero, Nat.sub_zero, List.take_of_length_le (by rw [h.len]; exact Nat.le_refl _)]
    apply List.ext_getElem?
    intro j
    rw [List.getElem?_take]
    by_cases hj : j < en
    · rw [if_pos hj]
      exact h.good j ((h.inl j).2 ⟨by omega, by omega⟩)
    · rw [if_neg hj, List.getElem?_eq_none (by rw [h.len]; omega)]
  · unfold overN takeS
    simp [h.broken, h.ended, h.end_]
  · exact count_from0 h.ok.norm en (by omega) h.inl
end Go.Proofs.Ytbkpapdbidbhaaa
