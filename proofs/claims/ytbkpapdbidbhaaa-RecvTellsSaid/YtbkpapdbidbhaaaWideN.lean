/-
  append in a plain list, under the wide bound on bytes: the row is where it was, or in a new block ('Near').
-/
import Derived.Test.YtbkpapdbidbhaaaWide
namespace Go.Proofs.Ytbkpapdbidbhaaa
open Go.RowKit

theorem app_run_wideN {P : Program} (w : World) (base : Nat) (t ty e : TypeId) (i : TypeInfo) (z : Value) (size bytes : Nat) (ht : P.underlying t = some (.slice e)) (hi : P.info? e = some i) (hz : i.zero = some z)
    (hsize : i.size = size) (hby : i.bytes = bytes) (hzs : z.cells.size = size) (hsz : 0 < size)
    (v : Value) (n : Nat) (xs : List Value) (hown : w.ownsRow base e size v n xs) (x : Value) (m : Nat) (news : List Value) (hx : Src w size x m news)
    (h63 : n + m ≤ maxLen) (hbytes : ((n + m) + (n + m) / 4 + 192) * bytes ≤ 281474976710656) (hbase : base ≤ w.heap.size) :
    ∃ v' w', (Builtin.append_ #[t, t] ty #[v, x]).run P w = .ok v' w' ∧ w'.ownsRow base e size v' (n + m) (xs ++ news) ∧ w.grownBy w' v.ownBlock ∧ Near w v v' := by
  subst hsize
  subst hby
  have h63' := h63
  unfold maxLen at h63'
  obtain ⟨hl, h1, ⟨rfl, rfl⟩ | ⟨a, c, rfl, hc⟩⟩ := hx
  · obtain rfl : news = [] := List.eq_nil_of_length_eq_zero (by simpa using hl)
    refine ⟨v, w, run_append_owned_none (P := P) (w := w) base t ty e i _ ht hi v n xs hown, by simpa using hown, kept_refl _ _, .inl rfl⟩
  · rcases id hown.2 with ⟨rfl, rfl⟩ | ⟨g, cap, cur, rfl, hbg, hg, hn, hcm, hcs, htk⟩
    · obtain rfl : xs = [] := List.eq_nil_of_length_eq_zero (by simpa using hown.1)
      obtain ⟨v', w', hrun, r1, r2, _⟩ := run_append_own_wide (P := P) w w.heap.size t ty e i z _ _ ht hi hz rfl rfl hzs hsz (.slice none 0 0) 0 [] (World.ownsRow_nil w _ e _) a m c news hl hc h1 h63 hbytes (Nat.le_refl _)
      exact ⟨v', w', hrun, ownsRow_base r1 hbase, r2, .inr fun k hk => (r1.lt k hk).1⟩
    · obtain ⟨v', w', hrun, r1, r2, _⟩ := run_append_own_wide (P := P) w base t ty e i z _ _ ht hi hz rfl rfl hzs hsz _ n xs hown a m c news hl hc h1 h63 hbytes hbase
      by_cases hr : n + m ≤ cap
      · have hrun2 := run_append_room (P := P) w t ty e i ht hi g n cap cur hg a m c news hl hc h1 hr (by rw [hl, hcs, ← Nat.add_mul]; exact Nat.mul_le_mul_right _ hr)
        rw [hrun2] at hrun
        refine ⟨v', w', by rw [hrun2]; exact hrun, r1, r2, .inl ?_⟩
        cases hrun
        rfl
      · have hrun2 := run_append_grow (P := P) w t ty e i z ht hi hz ⟨g, 0, none⟩ n cap xs hown.1 (hown.cells rfl) a m c news hl hc (by omega) (by omega) (growslice_fits_wide (by omega) hbytes)
        rw [hrun2] at hrun
        refine ⟨v', w', by rw [hrun2]; exact hrun, r1, r2, .inr ?_⟩
        cases hrun
        intro k hk
        cases hk
        exact Nat.le_refl _

theorem wpList_app_wideN {P : Program} {w : World} {ops : Array Oper} {rest : List Oper} {o : Oper} {a : Act} {Q : Exit → Act → World → Prop}
    (hg : o.guard = none) (s x : Operand) (t : TypeId) (hop : o.op = Op.call { callee := Callee.builtin Builtin.append, args := #[s, x], argTypes := #[t, t] })
    (base : Nat) (e : TypeId) (i : TypeInfo) (z : Value) (size bytes : Nat) (ht : P.underlying t = some (.slice e)) (hi : P.info? e = some i) (hz : i.zero = some z)
    (hsize : i.size = size) (hby : i.bytes = bytes) (hzs : z.cells.size = size) (hsz : 0 < size)
    (v : Value) (n : Nat) (xs : List Value) (hs : a.eval s = v) (hown : w.ownsRow base e size v n xs) (xv : Value) (m : Nat) (news : List Value) (hxe : a.eval x = xv) (hx : Src w size xv m news)
    (h63 : n + m ≤ maxLen) (hbytes : ((n + m) + (n + m) / 4 + 192) * bytes ≤ 281474976710656) (hbase : base ≤ w.heap.size)
    (h : ∀ v' w', w'.ownsRow base e size v' (n + m) (xs ++ news) → w.grownBy w' v.ownBlock → Near w v v' → wpList P ops Q rest (a.put o.dst v') w') :
    wpList P ops Q (o :: rest) a w := by
  refine wpList_plain hg fun K hK' => ?_
  obtain ⟨v', w', hrun, r1, r2, r3⟩ := app_run_wideN (P := P) w base t o.type e i z size bytes ht hi hz hsize hby hzs hsz v n xs hown xv m news hx h63 hbytes hbase
  unfold Oper.wp
  simp [execOp, hop, resolve, invoke, builtin, hs, hxe, hrun, Result.andThen]
  exact hK' _ _ (h v' w' r1 r2 r3)
end Go.Proofs.Ytbkpapdbidbhaaa
