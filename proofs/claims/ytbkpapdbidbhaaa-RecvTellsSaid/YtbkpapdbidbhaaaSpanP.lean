/-
  Sets of numbers as rising runs that do not touch: what Add, Drop, Gaps make of them (plain part).
-/
import Derived.Test.YtbkpapdbidbhaaaRow4
namespace Go.Proofs.Ytbkpapdbidbhaaa
open Go.RowKit

/-- A run: from a number on, up to another one. -/
abbrev Pr := Int × Int
/-- The number is in the runs. -/
def InL (L : List Pr) (n : Int) : Prop := ∃ r ∈ L, r.1 ≤ n ∧ n < r.2
/-- Runs that rise, that do not touch, each of some numbers of those from 0 on, behind E none. -/
structure NormL (E : Int) (L : List Pr) : Prop where
  asc : L.Pairwise (fun a b => a.2 < b.1)
  run : ∀ r ∈ L, 0 ≤ r.1 ∧ r.1 < r.2 ∧ r.2 ≤ E
theorem NormL.nil (E : Int) : NormL E [] := ⟨List.Pairwise.nil, fun r hr => by cases hr⟩
theorem inl_nil (n : Int) : ¬ InL [] n := fun ⟨r, hr, _⟩ => by cases hr
theorem inl_cons (r : Pr) (L : List Pr) (n : Int) : InL (r :: L) n ↔ (r.1 ≤ n ∧ n < r.2) ∨ InL L n := by
  constructor
  · rintro ⟨x, hx, h⟩
    rcases List.mem_cons.1 hx with rfl | hx
    · exact .inl h
    · exact .inr ⟨x, hx, h⟩
  · rintro (h | ⟨x, hx, h⟩)
    · exact ⟨r, by simp, h⟩
    · exact ⟨x, by simp [hx], h⟩
theorem inl_append (L M : List Pr) (n : Int) : InL (L ++ M) n ↔ InL L n ∨ InL M n := by
  constructor
  · rintro ⟨x, hx, h⟩
    rcases List.mem_append.1 hx with hx | hx
    · exact .inl ⟨x, hx, h⟩
    · exact .inr ⟨x, hx, h⟩
  · rintro (⟨x, hx, h⟩ | ⟨x, hx, h⟩)
    · exact ⟨x, by simp [hx], h⟩
    · exact ⟨x, by simp [hx], h⟩
theorem NormL.cons {E : Int} {r : Pr} {L : List Pr} (h : NormL E (r :: L)) : NormL E L ∧ (∀ x ∈ L, r.2 < x.1) ∧ 0 ≤ r.1 ∧ r.1 < r.2 ∧ r.2 ≤ E := by
  obtain ⟨h1, h2⟩ := List.pairwise_cons.1 h.asc
  exact ⟨⟨h2, fun x hx => h.run x (by simp [hx])⟩, h1, h.run r (by simp)⟩
theorem NormL.make {E : Int} {r : Pr} {L : List Pr} (h : NormL E L) (h1 : ∀ x ∈ L, r.2 < x.1) (h2 : 0 ≤ r.1 ∧ r.1 < r.2 ∧ r.2 ≤ E) : NormL E (r :: L) :=
  ⟨List.pairwise_cons.2 ⟨h1, h.asc⟩, fun x hx => by
    rcases List.mem_cons.1 hx with rfl | hx
    · exact h2
    · exact h.run x hx⟩

/-- Two lists of runs of the same numbers are one. -/
theorem norm_ext {E : Int} : ∀ (L M : List Pr), NormL E L → NormL E M → (∀ n, InL L n ↔ InL M n) → L = M := by
  intro L
  induction L with
  | nil =>
    intro M _ hM h
    cases M with
    | nil => rfl
    | cons m M =>
      have hm := (hM.cons).2.2
      exact absurd ((h m.1).2 ((inl_cons _ _ _).2 (.inl (by omega)))) (inl_nil _)
  | cons r L ih =>
    intro M hL hM h
    obtain ⟨hL0, hL1, hL2⟩ := hL.cons
    cases M with
    | nil => exact absurd ((h r.1).1 ((inl_cons _ _ _).2 (.inl (by omega)))) (inl_nil _)
    | cons m M =>
      obtain ⟨hM0, hM1, hM2⟩ := hM.cons
      have loL : ∀ n, InL L n → r.2 < n := fun n ⟨x, hx, h0, _⟩ => by have := hL1 x hx; omega
      have loM : ∀ n, InL M n → m.2 < n := fun n ⟨x, hx, h0, _⟩ => by have := hM1 x hx; omega
      have e1 : r.1 = m.1 := by
        have a1 := (h r.1).1 ((inl_cons _ _ _).2 (.inl (by omega)))
        have a2 := (h m.1).2 ((inl_cons _ _ _).2 (.inl (by omega)))
        rcases (inl_cons _ _ _).1 a1 with a1 | a1
        · rcases (inl_cons _ _ _).1 a2 with a2 | a2
          · omega
          · have := loL _ a2; omega
        · have := loM _ a1
          rcases (inl_cons _ _ _).1 a2 with a2 | a2
          · omega
          · have := loL _ a2; omega
      have e2 : r.2 = m.2 := by
        rcases Int.lt_trichotomy r.2 m.2 with hlt | he | hlt
        · exfalso
          have a := (h r.2).2 ((inl_cons _ _ _).2 (.inl (by omega)))
          rcases (inl_cons _ _ _).1 a with a | a
          · omega
          · have := loL _ a; omega
        · exact he
        · exfalso
          have a := (h m.2).1 ((inl_cons _ _ _).2 (.inl (by omega)))
          rcases (inl_cons _ _ _).1 a with a | a
          · omega
          · have := loM _ a; omega
      have er : r = m := Prod.ext e1 e2
      subst er
      rw [ih M hL0 hM0 (fun n => ?_)]
      constructor
      · intro hn
        have h1 := loL n hn
        rcases (inl_cons _ _ _).1 ((h n).1 ((inl_cons _ _ _).2 (.inr hn))) with a | a
        · omega
        · exact a
      · intro hn
        have h1 := loM n hn
        rcases (inl_cons _ _ _).1 ((h n).2 ((inl_cons _ _ _).2 (.inr hn))) with a | a
        · omega
        · exact a

/-- What Add does, run by run: what is made so far, whether the new run is in it, its ends. -/
structure AddS where
  out : List Pr
  done : Bool
  f : Int
  t : Int
def addStep (s : AddS) (r : Pr) : AddS :=
  if r.2 < s.f then { s with out := s.out ++ [r] }
  else if s.t < r.1 then { s with out := (bif s.done then s.out else s.out ++ [(s.f, s.t)]) ++ [r], done := true }
  else { s with f := min s.f r.1, t := max s.t r.2 }
def addEnd (s : AddS) : List Pr := bif s.done then s.out else s.out ++ [(s.f, s.t)]
def addL (L : List Pr) (f t : Int) : List Pr := addEnd (L.foldl addStep ⟨[], false, f, t⟩)

/-- Where the new run is in, the rest follows as it was. -/
theorem add_done : ∀ (L : List Pr) (s : AddS), s.done = true → (∀ x ∈ L, s.t < x.1 ∧ x.1 < x.2) → s.f < s.t → (L.foldl addStep s).done = true ∧ (L.foldl addStep s).out = s.out ++ L := by
  intro L
  induction L with
  | nil => intro s h _ _; exact ⟨h, by simp⟩
  | cons r L ih =>
    intro s h hx hft
    have hr := hx r (by simp)
    have hs : addStep s r = { s with out := s.out ++ [r] } := by
      unfold addStep
      rw [if_neg (by omega), if_pos (by omega), h, cond_true]
    rw [List.foldl_cons, hs]
    obtain ⟨h1, h2⟩ := ih { s with out := s.out ++ [r] } h (fun x hx' => hx x (by simp [hx'])) hft
    exact ⟨h1, by rw [h2]; simp⟩

/-- What Add makes: behind what is made already, and rising. -/
theorem add_go (E : Int) : ∀ (L : List Pr) (s : AddS), NormL E L → s.done = false → NormL E s.out → 0 ≤ s.f → s.f < s.t → s.t ≤ E → (∀ x ∈ s.out, x.2 < s.f) → (∀ x ∈ s.out, ∀ y ∈ L, x.2 < y.1) →
    NormL E (addEnd (L.foldl addStep s)) ∧ ∀ n, InL (addEnd (L.foldl addStep s)) n ↔ InL s.out n ∨ (s.f ≤ n ∧ n < s.t) ∨ InL L n := by
  intro L
  induction L with
  | nil =>
    intro s _ hd ho h0 hft ht hlt _
    have he : addEnd s = s.out ++ [(s.f, s.t)] := by rw [addEnd, hd, cond_false]
    rw [List.foldl_nil, he]
    refine ⟨⟨List.pairwise_append.2 ⟨ho.asc, by simp, fun x hx y hy => ?_⟩, fun x hx => ?_⟩, fun n => ?_⟩
    · simp only [List.mem_singleton] at hy
      subst hy
      exact hlt x hx
    · rcases List.mem_append.1 hx with hx | hx
      · exact ho.run x hx
      · simp only [List.mem_singleton] at hx
        subst hx
        exact ⟨h0, hft, ht⟩
    · rw [inl_append, inl_cons]
  | cons r L ih =>
    intro s hL hd ho h0 hft ht hlt hout
    obtain ⟨hL0, hL1, hr0, hr1, hr2⟩ := hL.cons
    rw [List.foldl_cons]
    by_cases h1 : r.2 < s.f
    · have hs : addStep s r = { s with out := s.out ++ [r] } := by unfold addStep; rw [if_pos h1]
      rw [hs]
      obtain ⟨g1, g2⟩ := ih { s with out := s.out ++ [r] } hL0 hd ⟨List.pairwise_append.2 ⟨ho.asc, by simp, fun x hx y hy => by
        simp only [List.mem_singleton] at hy
        subst hy
        exact hout x hx y (by simp)⟩, fun x hx => by
        rcases List.mem_append.1 hx with hx | hx
        · exact ho.run x hx
        · simp only [List.mem_singleton] at hx
          subst hx
          exact ⟨hr0, hr1, hr2⟩⟩ h0 hft ht (fun x hx => by
        rcases List.mem_append.1 hx with hx | hx
        · exact hlt x hx
        · simp only [List.mem_singleton] at hx
          subst hx
          exact h1) (fun x hx y hy => by
        rcases List.mem_append.1 hx with hx | hx
        · exact hout x hx y (by simp [hy])
        · simp only [List.mem_singleton] at hx
          subst hx
          exact hL1 y hy)
      refine ⟨g1, fun n => ?_⟩
      rw [g2, inl_append, inl_cons, inl_cons]
      constructor
      · rintro ((h | h | h) | h | h)
        · exact .inl h
        · exact .inr (.inr (.inl h))
        · exact absurd h (inl_nil _)
        · exact .inr (.inl h)
        · exact .inr (.inr (.inr h))
      · rintro (h | h | h | h)
        · exact .inl (.inl h)
        · exact .inr (.inl h)
        · exact .inl (.inr (.inl h))
        · exact .inr (.inr h)
    · by_cases h2 : s.t < r.1
      · have hs : addStep s r = { s with out := s.out ++ [(s.f, s.t)] ++ [r], done := true } := by unfold addStep; rw [if_neg h1, if_pos h2, hd, cond_false]
        rw [hs]
        obtain ⟨g1, g2⟩ := add_done L { s with out := s.out ++ [(s.f, s.t)] ++ [r], done := true } rfl (fun x hx => ⟨by have := hL1 x hx; dsimp only; omega, (hL0.run x hx).2.1⟩) hft
        have he : addEnd (L.foldl addStep { s with out := s.out ++ [(s.f, s.t)] ++ [r], done := true }) = s.out ++ ((s.f, s.t) :: r :: L) := by
          rw [addEnd, g1, cond_true, g2]
          simp
        rw [he]
        refine ⟨⟨List.pairwise_append.2 ⟨ho.asc, List.pairwise_cons.2 ⟨fun y hy => ?_, hL.asc⟩, fun x hx y hy => ?_⟩, fun x hx => ?_⟩, fun n => ?_⟩
        · rcases List.mem_cons.1 hy with rfl | hy
          · exact h2
          · have := hL1 y hy; dsimp only; omega
        · rcases List.mem_cons.1 hy with rfl | hy
          · exact hlt x hx
          · exact hout x hx y hy
        · rcases List.mem_append.1 hx with hx | hx
          · exact ho.run x hx
          · rcases List.mem_cons.1 hx with rfl | hx
            · exact ⟨h0, hft, ht⟩
            · exact hL.run x hx
        · rw [inl_append, inl_cons]
      · have hs : addStep s r = { s with f := min s.f r.1, t := max s.t r.2 } := by unfold addStep; rw [if_neg h1, if_neg h2]
        rw [hs]
        obtain ⟨g1, g2⟩ := ih { s with f := min s.f r.1, t := max s.t r.2 } hL0 hd ho (by dsimp only; omega) (by dsimp only; omega) (by dsimp only; omega) (fun x hx => by
          have a1 := hlt x hx
          have a2 := hout x hx r (by simp)
          dsimp only
          omega) (fun x hx y hy => hout x hx y (by simp [hy]))
        refine ⟨g1, fun n => ?_⟩
        rw [g2, inl_cons]
        dsimp only
        constructor
        · rintro (h | h | h)
          · exact .inl h
          · by_cases hc : s.f ≤ n ∧ n < s.t
            · exact .inr (.inl hc)
            · exact .inr (.inr (.inl (by omega)))
          · exact .inr (.inr (.inr h))
        · rintro (h | h | h | h)
          · exact .inl h
          · exact .inr (.inl (by omega))
          · exact .inr (.inl (by omega))
          · exact .inr (.inr h)

theorem add_norm {E : Int} {L : List Pr} (h : NormL E L) {f t : Int} (h0 : 0 ≤ f) (hft : f < t) (ht : t ≤ E) : NormL E (addL L f t) ∧ ∀ n, InL (addL L f t) n ↔ InL L n ∨ (f ≤ n ∧ n < t) := by
  obtain ⟨g1, g2⟩ := add_go E L ⟨[], false, f, t⟩ h rfl (NormL.nil E) h0 hft ht (fun x hx => by cases hx) (fun x hx => by cases hx)
  refine ⟨g1, fun n => ?_⟩
  rw [addL, g2]
  constructor
  · rintro (h | h | h)
    · exact absurd h (inl_nil _)
    · exact .inr h
    · exact .inl h
  · rintro (h | h)
    · exact .inr (.inr h)
    · exact .inr (.inl h)

/-- What Drop does to a run. -/
def dropR (f t : Int) (r : Pr) : List Pr := (if r.1 < min r.2 f then [(r.1, min r.2 f)] else []) ++ (if max r.1 t < r.2 then [(max r.1 t, r.2)] else [])
def dropL (L : List Pr) (f t : Int) : List Pr := L.flatMap (dropR f t)
theorem drop_norm {E : Int} {f t : Int} (hft : f < t) : ∀ (L : List Pr), NormL E L → NormL E (dropL L f t) ∧ (∀ x ∈ dropL L f t, ∃ r ∈ L, r.1 ≤ x.1 ∧ x.2 ≤ r.2) ∧ ∀ n, InL (dropL L f t) n ↔ InL L n ∧ ¬ (f ≤ n ∧ n < t) := by
  intro L
  induction L with
  | nil => intro _; exact ⟨NormL.nil E, (fun x hx => by cases hx), fun n => ⟨fun h => absurd h (inl_nil _), fun h => absurd h.1 (inl_nil _)⟩⟩
  | cons r L ih =>
    intro hL
    obtain ⟨hL0, hL1, hr0, hr1, hr2⟩ := hL.cons
    obtain ⟨g1, g2, g3⟩ := ih hL0
    have he : dropL (r :: L) f t = dropR f t r ++ dropL L f t := rfl
    have hin : ∀ x ∈ dropR f t r, r.1 ≤ x.1 ∧ x.1 < x.2 ∧ x.2 ≤ r.2 := fun x hx => by
      unfold dropR at hx
      rcases List.mem_append.1 hx with hx | hx
      · split at hx
        · simp only [List.mem_singleton] at hx
          subst hx
          dsimp only
          omega
        · cases hx
      · split at hx
        · simp only [List.mem_singleton] at hx
          subst hx
          dsimp only
          omega
        · cases hx
    have hasc : (dropR f t r).Pairwise (fun a b => a.2 < b.1) := by
      unfold dropR
      refine List.pairwise_append.2 ⟨by split <;> simp, by split <;> simp, fun x hx y hy => ?_⟩
      split at hx
      · split at hy
        · simp only [List.mem_singleton] at hx hy
          subst hx hy
          dsimp only
          omega
        · cases hy
      · cases hx
    have hmem : ∀ n, InL (dropR f t r) n ↔ (r.1 ≤ n ∧ n < r.2) ∧ ¬ (f ≤ n ∧ n < t) := fun n => by
      unfold dropR
      rw [inl_append]
      constructor
      · rintro (⟨x, hx, h⟩ | ⟨x, hx, h⟩)
        · split at hx
          · simp only [List.mem_singleton] at hx
            subst hx
            dsimp only at h
            omega
          · cases hx
        · split at hx
          · simp only [List.mem_singleton] at hx
            subst hx
            dsimp only at h
            omega
          · cases hx
      · rintro ⟨h1, h2⟩
        by_cases hc : n < f
        · exact .inl ⟨(r.1, min r.2 f), by rw [if_pos (by omega)]; simp, by dsimp only; omega⟩
        · exact .inr ⟨(max r.1 t, r.2), by rw [if_pos (by omega)]; simp, by dsimp only; omega⟩
    rw [he]
    refine ⟨⟨List.pairwise_append.2 ⟨hasc, g1.asc, fun x hx y hy => ?_⟩, fun x hx => ?_⟩, fun x hx => ?_, fun n => ?_⟩
    · obtain ⟨r2, hr2m, h1, _⟩ := g2 y hy
      have := hL1 r2 hr2m
      have := hin x hx
      omega
    · rcases List.mem_append.1 hx with hx | hx
      · have := hin x hx; omega
      · exact g1.run x hx
    · rcases List.mem_append.1 hx with hx | hx
      · exact ⟨r, by simp, (hin x hx).1, (hin x hx).2.2⟩
      · obtain ⟨y, hy, h⟩ := g2 x hx
        exact ⟨y, by simp [hy], h⟩
    · rw [inl_append, hmem, g3, inl_cons]
      constructor
      · rintro (⟨h1, h2⟩ | ⟨h1, h2⟩)
        · exact ⟨.inl h1, h2⟩
        · exact ⟨.inr h1, h2⟩
      · rintro ⟨h1 | h1, h2⟩
        · exact .inl ⟨h1, h2⟩
        · exact .inr ⟨h1, h2⟩
end Go.Proofs.Ytbkpapdbidbhaaa
