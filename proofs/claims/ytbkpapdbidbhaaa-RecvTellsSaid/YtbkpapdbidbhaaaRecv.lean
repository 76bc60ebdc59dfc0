/-
  recv.Stream: its state, New, rise, Over, Top, Rest, Ended, may.
-/
import Derived.Test.YtbkpapdbidbhaaaZeros
import Derived.Test.YtbkpapdbidbhaaaSpanB
import Derived.Test.YtbkpapdbidbhaaaCredit
import Derived.Test.YtbkpapdbidbhaaaRow4
namespace Go.Proofs.Ytbkpapdbidbhaaa
open Go.RowKit

structure RS where
  L : List Pr
  rd : Nat
  told : Nat
  taken : Nat
  top : Nat
  d : List UInt8
  ended : Bool
  broken : Bool
  en : Nat
  code : Nat
  sure : Nat
/-- What lies in a stream's block. -/
def stC (v bv : Value) (id : Int) (s : RS) : Array Value := #[v, .int .i64 400, .int .i64 (s.rd : Int), .int .i64 (s.told : Int), .int .i64 id, .int .i64 (s.taken : Int), .int .i64 (s.top : Int), bv, .bool s.ended, .bool s.broken, .int .i64 (s.en : Int), .int .i64 (s.code : Int), .int .i64 (s.sure : Int)]
/-- The numbers that may be. -/
structure RS.Ok (s : RS) : Prop where
  norm : NormL 225000000000000 s.L
  dl : s.d.length ≤ 225000000000000
  rd : s.rd = s.taken
  told : s.told ≤ 225000000000000
  taken : s.taken ≤ s.d.length
  top : s.top ≤ 225000000000000
  en : s.en ≤ 225000000000000
  code : s.code ≤ 4611686018427387903
  sure : s.sure ≤ 225000000000000
  cov : ∀ n, InL s.L n → n < (s.d.length : Int)
  lf : s.L.length ≤ 1000000000
structure StAt (w : World) (g : Nat) (id : Int) (v bv : Value) (s : RS) : Prop where
  cell : Whole w g 45 (stC v bv id s)
  src : Src w 2 v s.L.length (encs encP s.L)
  row : w.ownsRow 0 5 1 bv s.d.length (encB s.d)
  far1 : s.L ≠ [] → ∀ k, v.ownBlock = some k → k < w.heap.size ∧ k ≠ g ∧ bv.ownBlock ≠ some k
  far2 : ∀ k, bv.ownBlock = some k → k < w.heap.size ∧ k ≠ g
  ok : s.Ok
section
variable {w w' : World} {g : Nat} {id : Int} {v bv : Value} {s : RS}
theorem StAt.c (h : StAt w g id v bv s) (j : Nat) (u : Value) (hj : (stC v bv id s)[j]? = some u) : w.cell? ⟨g, j, none⟩ = some u := (h.cell.cell j).trans hj
theorem StAt.all (h : StAt w g id v bv s) : w.cell? ⟨g, 0, none⟩ = some v ∧ w.cell? ⟨g, 1, none⟩ = some (.int .i64 400) ∧ w.cell? ⟨g, 2, none⟩ = some (.int .i64 (s.rd : Int)) ∧ w.cell? ⟨g, 3, none⟩ = some (.int .i64 (s.told : Int)) ∧ w.cell? ⟨g, 4, none⟩ = some (.int .i64 id) ∧ w.cell? ⟨g, 5, none⟩ = some (.int .i64 (s.taken : Int)) ∧ w.cell? ⟨g, 6, none⟩ = some (.int .i64 (s.top : Int)) ∧ w.cell? ⟨g, 7, none⟩ = some bv ∧ w.cell? ⟨g, 8, none⟩ = some (.bool s.ended) ∧ w.cell? ⟨g, 9, none⟩ = some (.bool s.broken) ∧ w.cell? ⟨g, 10, none⟩ = some (.int .i64 (s.en : Int)) ∧ w.cell? ⟨g, 11, none⟩ = some (.int .i64 (s.code : Int)) ∧ w.cell? ⟨g, 12, none⟩ = some (.int .i64 (s.sure : Int)) :=
  ⟨h.c 0 _ rfl, h.c 1 _ rfl, h.c 2 _ rfl, h.c 3 _ rfl, h.c 4 _ rfl, h.c 5 _ rfl, h.c 6 _ rfl, h.c 7 _ rfl, h.c 8 _ rfl, h.c 9 _ rfl, h.c 10 _ rfl, h.c 11 _ rfl, h.c 12 _ rfl⟩
theorem ownsRow_kp {S : Nat → Prop} {b : Nat} {e : TypeId} {size n : Nat} {u : Value} {xs : List Value} (h : w.ownsRow b e size u n xs) (hk : Kp S w w') (hS : ∀ k, u.ownBlock = some k → ¬ S k) : w'.ownsRow b e size u n xs := by
  refine ⟨h.1, ?_⟩
  rcases h.2 with hn | ⟨q, cap, cur, rfl, hb, hq, rest⟩
  · exact .inl hn
  · exact .inr ⟨q, cap, cur, rfl, hb, hk.whole hq (hS q rfl), rest⟩
theorem src_keep {S : Nat → Prop} {L : List Pr} {u : Value} (h : Src w 2 u L.length (encs encP L)) (hk : Kp S w w') (hS : L ≠ [] → ∀ k, u.ownBlock = some k → ¬ S k) : Src w' 2 u L.length (encs encP L) := by
  cases L with
  | nil =>
    obtain ⟨h1, h2, h3⟩ := h
    refine ⟨h1, h2, ?_⟩
    rcases h3 with h3 | ⟨a, c, h3, _⟩
    · exact .inl h3
    · exact .inr ⟨a, c, h3, fun j u hj => by simp [encs] at hj⟩
  | cons r L => exact hk.src h (hS (by simp))
theorem StAt.kp {S : Nat → Prop} (h : StAt w g id v bv s) (hk : Kp S w w') (h1 : ¬ S g) (h2 : ∀ k, v.ownBlock = some k → k < w.heap.size → ¬ S k) (h3 : ∀ k, bv.ownBlock = some k → ¬ S k) : StAt w' g id v bv s :=
  ⟨hk.whole h.cell h1, src_keep h.src hk (fun hL k hk' => h2 k hk' (h.far1 hL k hk').1), ownsRow_kp h.row hk h3, fun hL k hk' => ⟨Nat.lt_of_lt_of_le (h.far1 hL k hk').1 hk.size, (h.far1 hL k hk').2⟩, fun k hk' => ⟨Nat.lt_of_lt_of_le (h.far2 k hk').1 hk.size, (h.far2 k hk').2⟩, h.ok⟩
theorem StAt.no (h : StAt w g id v bv s) (hk : Kp (fun _ => False) w w') : StAt w' g id v bv s := h.kp hk (fun h => h) (fun _ _ _ h => h) (fun _ _ h => h)
theorem StAt.set (h : StAt w g id v bv s) : SetIn w g 0 45 (stC v bv id s) v s.L := ⟨h.cell, rfl, h.src⟩
theorem StAt.few (h : StAt w g id v bv s) : s.L.length ≤ 1073741824 := by have := h.ok.lf; omega
end

def overN (s : RS) : Nat := if s.broken = true ∧ s.sure ≤ s.taken then 2 else if s.broken = false ∧ s.ended = true ∧ s.taken = s.en then 1 else 0

section
variable {w : World} {g : Nat} {id : Int} {v bv : Value} {s : RS}
theorem top_any (h : StAt w g id v bv s) : Calls Try.prog 18 #[.pointer (some ⟨g, 0, none⟩)] w fun e w' => e = .returned (.int .i64 (s.top : Int)) ∧ w = w' := by
  obtain ⟨_, _, _, _, _, _, c6, _⟩ := h.all
  go_enter Try.func18, Try.ntmps18
  go_wp2
  go_ret
  exact ⟨rfl, rfl⟩
theorem ended_any (h : StAt w g id v bv s) : Calls Try.prog 22 #[.pointer (some ⟨g, 0, none⟩)] w fun e w' => e = .returned (.bool s.ended) ∧ w = w' := by
  obtain ⟨_, _, _, _, _, _, _, _, c8, _⟩ := h.all
  go_enter Try.func22, Try.ntmps22
  go_wp2
  go_ret
  exact ⟨rfl, rfl⟩
theorem rest_any (h : StAt w g id v bv s) : Calls Try.prog 15 #[.pointer (some ⟨g, 0, none⟩)] w fun e w' => e = .returned (.int .i64 ((s.top : Int) - (s.taken : Int))) ∧ Kp (fun _ => False) w w' := by
  obtain ⟨_, _, _, _, _, c5, c6, _⟩ := h.all
  have hl := h.cell.lt
  have a1 := h.ok.top
  have a2 := h.ok.taken
  have a3 := h.ok.dl
  have hwr : IntKind.i64.wrap ((s.top : Int) - (s.taken : Int)) = (s.top : Int) - (s.taken : Int) := IntWalk.i64_in _ (by omega)
  go_enter Try.func15, Try.ntmps15
  go_wp2_with fail
  go_quiet (fail)
  go_wp2_with fail
  go_ret
  exact ⟨rfl, (Kp.refl _ w).drewN _⟩
theorem over_any (h : StAt w g id v bv s) : Calls Try.prog 21 #[.pointer (some ⟨g, 0, none⟩)] w fun e w' => e = .returned (.int .i64 (overN s : Int)) ∧ Kp (fun _ => False) w w' := by
  obtain ⟨_, _, _, _, _, c5, _, _, c8, c9, c10, _, c12⟩ := h.all
  have hl := h.cell.lt
  obtain ⟨r, hr⟩ : ∃ r, r = overN s := ⟨_, rfl⟩
  rw [← hr]
  unfold overN at hr
  cases hb : s.broken with
  | true =>
    rw [hb] at c9
    by_cases hs : s.sure ≤ s.taken
    · rw [if_pos ⟨hb, hs⟩] at hr
      have t0 : decide ((s.taken : Int) ≥ (s.sure : Int)) = true := by simp; omega
      have t1 : (s.sure : Int) ≤ (s.taken : Int) := by omega
      go_enter Try.func21, Try.ntmps21
      go_wp2_with fail
      go_quiet (fail)
      go_wp2_with fail
      go_ret
      exact ⟨by rw [hr]; rfl, (Kp.refl _ w).drewN _⟩
    · rw [if_neg (fun h => hs h.2), if_neg (fun h => by rw [hb] at h; exact absurd h.1 (by simp))] at hr
      have t0 : decide ((s.taken : Int) ≥ (s.sure : Int)) = false := by simp; omega
      have t1 : ¬ (s.sure : Int) ≤ (s.taken : Int) := by omega
      go_enter Try.func21, Try.ntmps21
      go_wp2_with fail
      go_quiet (fail)
      go_wp2_with fail
      go_quiet (fail)
      go_wp2_with fail
      go_ret
      exact ⟨by rw [hr]; rfl, by first | exact ((Kp.refl _ w).drewN _).drewN _ | exact (Kp.refl _ w).drewN _⟩
  | false =>
    rw [hb] at c9
    rw [if_neg (fun h => by rw [hb] at h; exact absurd h.1 (by simp))] at hr
    cases he : s.ended with
    | false =>
      rw [he] at c8
      rw [if_neg (fun h => by rw [he] at h; exact absurd h.2.1 (by simp))] at hr
      go_enter Try.func21, Try.ntmps21
      go_wp2_with fail
      go_quiet (fail)
      go_wp2_with fail
      go_quiet (fail)
      go_wp2_with fail
      go_ret
      exact ⟨by rw [hr]; rfl, by first | exact ((Kp.refl _ w).drewN _).drewN _ | exact (Kp.refl _ w).drewN _⟩
    | true =>
      rw [he] at c8
      by_cases hs : s.taken = s.en
      · rw [if_pos ⟨hb, he, hs⟩] at hr
        have t1 : ((s.taken : Int) == (s.en : Int)) = true := by simp; omega
        go_enter Try.func21, Try.ntmps21
        go_wp2_with fail
        go_quiet (fail)
        go_wp2_with fail
        go_quiet (fail)
        go_wp2_with fail
        go_ret
        exact ⟨by rw [hr]; rfl, by first | exact ((Kp.refl _ w).drewN _).drewN _ | exact (Kp.refl _ w).drewN _⟩
      · rw [if_neg (fun h => hs h.2.2)] at hr
        have t1 : ((s.taken : Int) == (s.en : Int)) = false := by simp; omega
        go_enter Try.func21, Try.ntmps21
        go_wp2_with fail
        go_quiet (fail)
        go_wp2_with fail
        go_quiet (fail)
        go_wp2_with fail
        go_ret
        exact ⟨by rw [hr]; rfl, by first | exact ((Kp.refl _ w).drewN _).drewN _ | exact (Kp.refl _ w).drewN _⟩
def riseS (s : RS) (tt : Nat) : RS := { s with top := max s.top tt }
set_option maxRecDepth 100000 in
theorem rise_any (h : StAt w g id v bv s) (tt : Nat) (ht : tt ≤ 225000000000000) : Calls Try.prog 36 #[.pointer (some ⟨g, 0, none⟩), .int .i64 (tt : Int)] w fun e w' => e = .returned (.int .i64 ((max s.top tt : Nat) - (s.top : Int))) ∧ StAt w' g id v bv (riseS s tt) ∧ Kp (fun k => k = g) w w' := by
  obtain ⟨_, _, _, _, _, c5, c6, _⟩ := h.all
  have hl := h.cell.lt
  have a1 := h.ok.top
  have a2 := h.ok.taken
  have f6 := h.cell.frozen 6
  obtain ⟨nt, hnt⟩ : ∃ nt : Nat, nt = max s.top tt := ⟨_, rfl⟩
  have hk : ∀ u, Kp (fun k => k = g) w (w.setCell ⟨g, 6, none⟩ u) := fun u => Kp.set (S := fun k => k = g) (Kp.refl _ w) (p := ⟨g, 6, none⟩) (.inl rfl) _
  have hst : StAt (w.setCell ⟨g, 6, none⟩ (.int .i64 (nt : Int))) g id v bv (riseS s tt) := by
    refine ⟨?_, src_keep h.src (hk _) (fun hL k hk' => (h.far1 hL k hk').2.1), ownsRow_kp h.row (hk _) (fun k hk' => (h.far2 k hk').2), fun hL k hk' => ?_, fun k hk' => ?_, ?_⟩
    · have := h.cell.set 6 (.int .i64 (nt : Int))
      unfold riseS
      rw [← hnt]
      exact this
    · have := h.far1 hL k hk'; simp; exact this
    · have := h.far2 k hk'; simp; exact this
    · exact ⟨h.ok.norm, h.ok.dl, h.ok.rd, h.ok.told, h.ok.taken, by unfold riseS; simp only; omega, h.ok.en, h.ok.code, h.ok.sure, h.ok.cov, h.ok.lf⟩
  rw [← hnt]
  by_cases hlt : s.top < tt
  · obtain rfl : nt = tt := by omega
    clear hnt
    have t0 : (0 : Int) < (nt : Int) - (s.top : Int) := by omega
    have t1 : (s.top : Int) + ((nt : Int) - (s.top : Int)) = (nt : Int) := by omega
    go_enter Try.func36, Try.ntmps36
    go_wp2_with fail
    go_ret
    first | exact ⟨rfl, hst, hk _⟩ | (rw [t1]; exact ⟨rfl, hst, hk _⟩)
  · have hnt' : nt = s.top := by omega
    subst hnt'
    clear hnt
    have t0 : ¬ (0 : Int) < (tt : Int) - (s.top : Int) := by omega
    go_enter Try.func36, Try.ntmps36
    go_wp2_with fail
    go_ret
    refine ⟨by simp, ?_⟩
    first | exact ⟨hst, hk _⟩ | (rw [Int.add_zero]; exact ⟨hst, hk _⟩) | (simp only [Int.add_zero]; exact ⟨hst, hk _⟩)
end
end Go.Proofs.Ytbkpapdbidbhaaa
