/-
  'LedgerOnce', its plain part: what is out, what was told; the map of what was told.
-/
import Derived.Test.YtelhnhnbfjamhaaLedgerKn
import Derived.Maps.Own
import Derived.Maps.OwnOps
import Derived.Maps.OwnSet
import Derived.Maps.Views
namespace Go.Proofs.Ytelhnhnbfjamhaa
open Go.RowKit

/-- What is out, zs, and what was told, T: each number that was given is in one of them, once. -/
structure Once (zs : List St) (T : List Int) (next top : Int) : Prop where
  asc : zs.Pairwise (fun a b => a.1 < b.1)
  el : ∀ z ∈ zs, z.2.2 = true
  rng : ∀ z ∈ zs, 0 ≤ z.1 ∧ z.1 < next
  tr : ∀ n ∈ T, 0 ≤ n ∧ n < next
  dis : ∀ z ∈ zs, z.1 ∉ T
  cov : ∀ n : Int, 0 ≤ n → n < next → n ∈ T ∨ ∃ z ∈ zs, z.1 = n
  cnt : (T.length : Int) + zs.length = next
  top0 : 0 ≤ top
  top1 : top ≤ next

/-- The numbers of those that are told, the last one first, ahead of what was told. -/
def tellS : List St → List Int → List Int
  | [], T => T
  | z :: xs, T => tellS xs (z.1 :: T)
theorem tellS_mem : ∀ (xs : List St) (T : List Int) (n : Int), n ∈ tellS xs T ↔ n ∈ T ∨ ∃ z ∈ xs, z.1 = n := by
  intro xs
  induction xs with
  | nil => intro T n; simp [tellS]
  | cons x xs ih =>
    intro T n
    rw [tellS, ih]
    simp only [List.mem_cons, exists_eq_or_imp]
    constructor
    · rintro ((rfl | h) | h)
      · exact .inr (.inl rfl)
      · exact .inl h
      · exact .inr (.inr h)
    · rintro (h | rfl | h)
      · exact .inl (.inr h)
      · exact .inl (.inl rfl)
      · exact .inr h
theorem tellS_len : ∀ (xs : List St) (T : List Int), (tellS xs T).length = T.length + xs.length := by
  intro xs
  induction xs with
  | nil => intro T; rfl
  | cons x xs ih => intro T; rw [tellS, ih]; simp; omega
theorem tellS_snoc : ∀ (xs : List St) (T : List Int) (z : St), tellS (xs ++ [z]) T = z.1 :: tellS xs T := by
  intro xs
  induction xs with
  | nil => intro T z; rfl
  | cons x xs ih => intro T z; rw [List.cons_append, tellS, ih, tellS]

theorem asc_inj : ∀ (l : List St), l.Pairwise (fun a b => a.1 < b.1) → ∀ x ∈ l, ∀ y ∈ l, x.1 = y.1 → x = y := by
  intro l
  induction l with
  | nil => intro _ x hx; cases hx
  | cons z l ih =>
    intro hp x hx y hy he
    obtain ⟨h1, h2⟩ := List.pairwise_cons.1 hp
    rcases List.mem_cons.1 hx with ex | hx'
    · rcases List.mem_cons.1 hy with ey | hy'
      · rw [ex, ey]
      · have := h1 y hy'; rw [← ex] at this; omega
    · rcases List.mem_cons.1 hy with ey | hy'
      · have := h1 x hx'; rw [← ey] at this; omega
      · exact ih h2 x hx' y hy' he
theorem Once.part {zs : List St} {T : List Int} {next top top2 : Int} (h : Once zs T next top) (p : St → Bool) (h0 : 0 ≤ top2) (h1 : top2 ≤ next) :
    Once (zs.filter fun z => !p z) (tellS (zs.filter p) T) next top2 := by
  have hm : ∀ z ∈ zs.filter (fun z => !p z), z ∈ zs := fun z hz => (List.mem_filter.1 hz).1
  refine ⟨h.asc.sublist (List.filter_sublist), fun z hz => h.el z (hm z hz), fun z hz => h.rng z (hm z hz), fun n hn => ?_, fun z hz hn => ?_, fun n hn0 hn1 => ?_, ?_, h0, h1⟩
  · rcases (tellS_mem _ _ _).1 hn with hn | ⟨z, hz, rfl⟩
    · exact h.tr n hn
    · exact h.rng z (List.mem_filter.1 hz).1
  · rcases (tellS_mem _ _ _).1 hn with hn | ⟨y, hy, he⟩
    · exact h.dis z (hm z hz) hn
    · obtain ⟨hy1, hy2⟩ := List.mem_filter.1 hy
      obtain ⟨hz1, hz2⟩ := List.mem_filter.1 hz
      have hyz : y = z := asc_inj zs h.asc y hy1 z hz1 he
      subst hyz
      rw [hy2] at hz2
      cases hz2
  · rcases h.cov n hn0 hn1 with hn | ⟨z, hz, rfl⟩
    · exact .inl ((tellS_mem _ _ _).2 (.inl hn))
    · cases hp : p z with
      | true => exact .inl ((tellS_mem _ _ _).2 (.inr ⟨z, List.mem_filter.2 ⟨hz, hp⟩, rfl⟩))
      | false => exact .inr ⟨z, List.mem_filter.2 ⟨hz, by rw [hp]; rfl⟩, rfl⟩
  · have hl : (zs.filter p).length + (zs.filter fun z => !p z).length = zs.length := by
      have : ∀ l : List St, (l.filter p).length + (l.filter fun z => !p z).length = l.length := fun l => by
        induction l with
        | nil => rfl
        | cons x l ih =>
          simp only [List.filter_cons]
          cases p x <;> simp <;> omega
      exact this zs
    have := h.cnt
    rw [tellS_len]
    omega

theorem Once.more {zs : List St} {T : List Int} {next top : Int} (h : Once zs T next top) (c : Nat) (a : Int) (h0 : 0 ≤ next) : Once (zs ++ sentS next c a) T (next + c) top := by
  have hm : ∀ z ∈ sentS next c a, ∃ k : Nat, k < c ∧ z = (next + (k : Int), a, true) := fun z hz => by
    obtain ⟨k, hk, rfl⟩ := List.mem_map.1 hz
    exact ⟨k, List.mem_range.1 hk, rfl⟩
  refine ⟨List.pairwise_append.2 ⟨h.asc, ?_, fun x hx y hy => ?_⟩, fun z hz => ?_, fun z hz => ?_, fun n hn => ?_, fun z hz hn => ?_, fun n hn0 hn1 => ?_, ?_, h.top0, ?_⟩
  · rw [sentS, List.pairwise_map]
    exact List.pairwise_lt_range.imp (fun hlt => by dsimp only; omega)
  · obtain ⟨k, _, rfl⟩ := hm y hy
    have := (h.rng x hx).2
    dsimp only
    omega
  · rcases List.mem_append.1 hz with hz | hz
    · exact h.el z hz
    · obtain ⟨k, _, rfl⟩ := hm z hz; rfl
  · rcases List.mem_append.1 hz with hz | hz
    · have := h.rng z hz; omega
    · obtain ⟨k, _, rfl⟩ := hm z hz; dsimp only; omega
  · have := h.tr n hn; omega
  · rcases List.mem_append.1 hz with hz | hz
    · exact h.dis z hz hn
    · obtain ⟨k, _, rfl⟩ := hm z hz
      have := h.tr _ hn
      dsimp only at this
      omega
  · by_cases hlt : n < next
    · rcases h.cov n hn0 hlt with hn | ⟨z, hz, e⟩
      · exact .inl hn
      · exact .inr ⟨z, List.mem_append_left _ hz, e⟩
    · exact .inr ⟨(next + ((n - next).toNat : Int), a, true), List.mem_append_right _ (List.mem_map.2 ⟨(n - next).toNat, List.mem_range.2 (by omega), rfl⟩), by dsimp only; omega⟩
  · have := h.cnt
    rw [List.length_append, sentS_len]
    omega
  · have := h.top1; omega

/-! The map. -/
abbrev oneD : DataW Unit := .lit (.int .i64 1)
abbrev zeroD : DataW Unit := .lit (.int .i64 0)
/-- What the map holds where T was told. -/
def toldD : List Int → DataW Unit
  | [] => .map []
  | n :: T => (toldD T).put (.int .i64 n) oneD
theorem key_lit (n : Int) : WideAt.IsKeyLit (.int .i64 n) := by simp [WideAt.IsKeyLit]
theorem told_tidy : ∀ T : List Int, Maps.Tidy (toldD T) := by
  intro T
  induction T with
  | nil => exact Maps.tidy_empty
  | cons n T ih => exact ih.put (key_lit n) oneD
theorem told_has : ∀ (T : List Int) (m : Int), Maps.has (toldD T) (.int .i64 m) = decide (m ∈ T) := by
  intro T m
  induction T with
  | nil => rfl
  | cons n T ih =>
    by_cases h : m = n
    · subst h
      rw [toldD, Maps.has_put_same (told_tidy T).isMap (key_lit m)]
      simp
    · rw [toldD, Maps.has_put_other (by intro e; cases e; exact h rfl), ih]
      simp [h]
theorem told_at : ∀ (T : List Int) (m : Int), (toldD T).atKey (.int .i64 m) zeroD = if m ∈ T then oneD else zeroD := by
  intro T m
  induction T with
  | nil => rfl
  | cons n T ih =>
    by_cases h : m = n
    · subst h
      rw [toldD, Maps.atKey_put_same (told_tidy T).isMap (key_lit m), if_pos (by simp)]
    · rw [toldD, Maps.atKey_put_other (by intro e; cases e; exact h rfl), ih]
      by_cases hm : m ∈ T
      · rw [if_pos hm, if_pos (by simp [hm])]
      · rw [if_neg hm, if_neg (by simp [h, hm])]
theorem told_size : ∀ (T : List Int), T.Nodup → Maps.size (toldD T) = T.length := by
  intro T
  induction T with
  | nil => intro _; rfl
  | cons n T ih =>
    intro h
    obtain ⟨h1, h2⟩ := List.nodup_cons.1 h
    rw [toldD, Maps.size_put (told_tidy T), told_has, decide_eq_false h1]
    simp [ih h2]

theorem wf64 (n : Int) (h0 : -9223372036854775808 ≤ n) (h1 : n ≤ 9223372036854775807) : (Lit.int .i64 n).wf = true := by
  have e1 : IntKind.i64.min = -9223372036854775808 := by decide
  have e2 : IntKind.i64.max = 9223372036854775807 := by decide
  simp [Lit.wf, e1, e2]
  omega
theorem keyN : Maps.Keyed Try.prog 3 := Maps.int_keyed Try.underlying3
theorem zeroN (w : World) : (zeroValue 3).run Try.prog w = .ok (.int .i64 0) w := by kernel_rfl

/-- The block mb is the map of what was told. -/
def ToldAt (w : World) (mb : Nat) (T : List Int) : Prop := w.ownsMap Try.prog 3 (plainElem (H := Unit) Try.prog 3) mb T.length (toldD T)
theorem ToldAt.kp {S : Nat → Prop} {w w' : World} {mb : Nat} {T : List Int} (h : ToldAt w mb T) (hk : Kp S w w') (hn : ¬ S mb) : ToldAt w' mb T := by
  have hlt := World.ownsMap.lt h
  obtain ⟨es, clock, hb, rest⟩ := h
  exact ⟨es, clock, (hk.block mb hlt hn).trans hb, rest⟩
theorem ToldAt.len {w : World} {mb : Nat} {T : List Int} (h : ToldAt w mb T) (hT : T.Nodup) : (Builtin.len_ #[90] 3 #[.map (some mb)]).run Try.prog w = .ok (.int .i64 (T.length : Nat)) w := by
  have := World.ownsMap.len h Try.underlying90 3
  rw [told_size T hT] at this
  exact this
theorem ToldAt.look {w : World} {mb : Nat} {T : List Int} (h : ToldAt w mb T) (n : Int) (h0 : -9223372036854775808 ≤ n) (h1 : n ≤ 9223372036854775807) :
    (Instr.lookup 90 (.map (some mb)) (.int .i64 n) false).run Try.prog w = .ok (.int .i64 (if n ∈ T then 1 else 0)) w := by
  obtain ⟨c, hrun, hat, _⟩ := World.ownsMap.lookup_int h keyN Try.underlying90 Try.underlying3 (zeroN w) (Maps.keyOf_int_mk Try.underlying3 (a := n) (wf64 n h0 h1))
  rw [told_at] at hat
  rw [hrun]
  by_cases hn : n ∈ T
  · rw [if_pos hn] at hat ⊢
    cases hat
    rfl
  · rw [if_neg hn] at hat ⊢
    cases hat
    rfl
theorem ToldAt.tell {w : World} {mb : Nat} {T : List Int} (h : ToldAt w mb T) (n : Int) (h0 : -9223372036854775808 ≤ n) (h1 : n ≤ 9223372036854775807) (hT : T.length ≤ 1099511627776) :
    ∃ w', (Instr.mapUpdate 90 (.map (some mb)) (.int .i64 n) (.int .i64 1)).run Try.prog w = .ok () w' ∧ ToldAt w' mb (n :: T) ∧ w.grownBy w' (some mb) :=
  World.ownsMap.update h keyN Try.underlying90 (by unfold maxLen; omega) (Maps.keyOf_int_mk Try.underlying3 (a := n) (wf64 n h0 h1)) (plainElem_int Try.underlying3 (by decide))
end Go.Proofs.Ytelhnhnbfjamhaa
