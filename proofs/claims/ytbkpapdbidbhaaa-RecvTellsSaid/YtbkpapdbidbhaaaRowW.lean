/-
  append where the slice lies anywhere, under the wide bound on bytes.
-/
import Derived.Test.YtbkpapdbidbhaaaWideN
namespace Go.Proofs.Ytbkpapdbidbhaaa
open Go.RowKit

section
variable {P : Program} (w : World)
theorem app_grow_wide (t ty e : TypeId) (i : TypeInfo) (z : Value) (ht : P.underlying t = some (.slice e)) (hi : P.info? e = some i) (hz : i.zero = some z) (hzs : z.cells.size = i.size)
    (b : Addr) (n cap : Nat) (xs : List Value) (hx : xs.length = n * i.size) (hxs : ∀ j u, xs[j]? = some u → w.cell? (b.add j) = some u)
    (a : Addr) (m c : Nat) (news : List Value) (hl : news.length = m * i.size) (hnews : ∀ j u, news[j]? = some u → w.cell? (a.add j) = some u)
    (hg : cap < n + m) (h63 : n + m ≤ maxLen) (hbytes : ((n + m) + (n + m) / 4 + 192) * i.bytes ≤ 281474976710656) :
    ∃ v' w', (Builtin.append_ #[t, t] ty #[.slice (some b) n cap, .slice (some a) m c]).run P w = .ok v' w' ∧ w'.ownsRow w.heap.size e i.size v' (n + m) (xs ++ news) ∧ w.grownBy w' none := by
  have h63' := h63
  unfold maxLen at h63'
  have hlen : (xs ++ news).length = (n + m) * i.size := by rw [List.length_append, hx, hl, Nat.add_mul]
  have hrun := run_append_grow (P := P) w t ty e i z ht hi hz b n cap xs hx hxs a m c news hl hnews hg (by omega) (growslice_fits_wide hg hbytes)
  have hge := grownCap_ge w (n + m) cap e
  refine ⟨_, _, hrun, ⟨hlen, .inr ⟨w.heap.size, _, _, rfl, Nat.le_refl _, heap_alloc_new w.drew _, hge, grownCap_le_maxLen w (n + m) cap e h63, ?_, ?_⟩⟩, rfl, rfl, rfl, by simp, fun k hk _ => heap_alloc_old w.drew _ hk⟩
  · simp only [Array.size_append, List.size_toArray, size_zeroCells, hzs, hx, hl, ← Nat.add_mul]
    congr 1
    omega
  · simp only [Array.toList_append, List.append_assoc]
    rw [← List.append_assoc, ← hlen]
    exact List.take_left
theorem app_row_wide (B : Nat) (t ty e : TypeId) (i : TypeInfo) (z : Value) (size bytes : Nat) (ht : P.underlying t = some (.slice e)) (hi : P.info? e = some i) (hz : i.zero = some z)
    (hsize : i.size = size) (hby : i.bytes = bytes) (hzs : z.cells.size = size) (hsz : 0 < size)
    (v : Value) (n : Nat) (xs : List Value) (hown : RowAt w B size v n xs) (x : Value) (m : Nat) (news : List Value) (hx : Src w size x m news)
    (h63 : n + m ≤ maxLen) (hbytes : ((n + m) + (n + m) / 4 + 192) * bytes ≤ 281474976710656) (hbase : B ≤ w.heap.size) :
    ∃ v' w', (Builtin.append_ #[t, t] ty #[v, x]).run P w = .ok v' w' ∧ RowAt w' B size v' (n + m) (xs ++ news) ∧ w.grownBy w' v.ownBlock ∧ Near w v v' := by
  rcases hown.2 with ⟨rfl, rfl⟩ | ⟨g, off, cap, rfl, hB, hg, hnc, hcm, hc1, hf1, hxs⟩
  · obtain rfl : xs = [] := List.eq_nil_of_length_eq_zero (by simpa using hown.1)
    obtain ⟨v', w', h1, h2, h3, h4⟩ := app_run_wideN (P := P) w B t ty e i z size bytes ht hi hz hsize hby hzs hsz (.slice none 0 0) 0 [] (World.ownsRow_nil _ _ _ _) x m news hx h63 hbytes hbase
    exact ⟨v', w', h1, RowAt.of_own h2, h3, h4⟩
  · obtain ⟨hl, h1, ⟨rfl, rfl⟩ | ⟨a, c, rfl, hc⟩⟩ := id hx
    · obtain rfl : news = [] := List.eq_nil_of_length_eq_zero (by simpa using hl)
      refine ⟨_, w, ?_, by simpa using hown, kept_refl _ _, .inl rfl⟩
      simp [Builtin.append_, run_underlying ht, sizeOf, typeInfo, hi, Builtin.lenOf, hnc, Builtin.firstCells, storeCells]
    · by_cases hr : n + m ≤ cap
      · subst hsize
        have hlen : news.length = m * i.size := hl
        have hin : ∀ j, j < news.length → n * i.size + j < cap * i.size := fun j hj => by
          have : (n + m) * i.size ≤ cap * i.size := Nat.mul_le_mul_right _ hr
          rw [Nat.add_mul] at this
          omega
        have hcs : ∀ j, j < news.length → (w.cell? ⟨g, off + n * i.size + j, none⟩).isSome = true := fun j hj => by
          rw [Nat.add_assoc]; exact hc1 _ (hin j hj)
        have hrun := run_append_room_cells (P := P) w t ty e i ht hi g off n cap a m c news hl hc h1 hr hcs (fun j hj => hf1 _)
        have hxl := hown.1
        refine ⟨_, _, hrun, ⟨by rw [List.length_append, hxl, hl, Nat.add_mul], .inr ⟨g, off, cap, rfl, hB, by rw [size_setCells]; exact hg, hr, hcm, fun j hj => ?_, fun j => by rw [frozen_setCells]; exact hf1 j, fun j u hj => ?_⟩⟩, grown_of_kp (kp_setCells news _ (Kp.refl _ w) (.inl rfl)), .inl rfl⟩
        · rw [cell_setCells news w g _ hcs]
          split
          · rename_i hh
            rw [List.getElem?_eq_getElem (by omega)]; rfl
          · exact hc1 j hj
        · rw [cell_setCells news w g _ hcs]
          by_cases hjx : j < xs.length
          · rw [List.getElem?_append_left hjx] at hj
            rw [if_neg (by omega)]
            exact hxs j u hj
          · rw [List.getElem?_append_right (by omega)] at hj
            have hjl := (List.getElem?_eq_some_iff.1 hj).1
            rw [if_pos (by omega), show off + j - (off + n * i.size) = j - xs.length by omega]
            exact hj
      · subst hsize
        subst hby
        obtain ⟨v', w', hrun, r1, r2⟩ := app_grow_wide (P := P) w t ty e i z ht hi hz hzs ⟨g, off, none⟩ n cap xs hown.1 (fun j u hj => by rw [Addr.add_lit]; exact hxs j u hj) a m c news hl hc (by omega) h63 hbytes
        exact ⟨v', w', hrun, (RowAt.of_own r1).base hbase, none_kept r2 _, .inr fun k hk => (r1.lt k hk).1⟩
end
theorem wpList_row_wide {P : Program} {w : World} {ops : Array Oper} {rest : List Oper} {o : Oper} {a : Act} {Q : Exit → Act → World → Prop}
    (hg : o.guard = none) (s x : Operand) (t : TypeId) (hop : o.op = Op.call { callee := Callee.builtin Builtin.append, args := #[s, x], argTypes := #[t, t] })
    (B : Nat) (e : TypeId) (i : TypeInfo) (z : Value) (size bytes : Nat) (ht : P.underlying t = some (.slice e)) (hi : P.info? e = some i) (hz : i.zero = some z)
    (hsize : i.size = size) (hby : i.bytes = bytes) (hzs : z.cells.size = size) (hsz : 0 < size)
    (v : Value) (n : Nat) (xs : List Value) (hs : a.eval s = v) (hown : RowAt w B size v n xs) (xv : Value) (m : Nat) (news : List Value) (hxe : a.eval x = xv) (hx : Src w size xv m news)
    (h63 : n + m ≤ maxLen) (hbytes : ((n + m) + (n + m) / 4 + 192) * bytes ≤ 281474976710656) (hbase : B ≤ w.heap.size)
    (h : ∀ v' w', RowAt w' B size v' (n + m) (xs ++ news) → w.grownBy w' v.ownBlock → Near w v v' → wpList P ops Q rest (a.put o.dst v') w') :
    wpList P ops Q (o :: rest) a w := by
  refine wpList_plain hg fun K hK' => ?_
  obtain ⟨v', w', hrun, r1, r2, r3⟩ := app_row_wide (P := P) w B t o.type e i z size bytes ht hi hz hsize hby hzs hsz v n xs hown xv m news hx h63 hbytes hbase
  unfold Oper.wp
  simp [execOp, hop, resolve, invoke, builtin, hs, hxe, hrun, Result.andThen]
  exact hK' _ _ (h v' w' r1 r2 r3)
theorem step_row_wide {P : Program} {ops : Array Oper} {o : Oper} {a : Act} {w : World} {K : Act → World → Prop} {Q : Exit → Act → World → Prop} {E : Prop}
    (hg : o.guard = none) (s x : Operand) (t : TypeId) (hop : o.op = Op.call { callee := Callee.builtin Builtin.append, args := #[s, x], argTypes := #[t, t] })
    (B : Nat) (e : TypeId) (i : TypeInfo) (z : Value) (size bytes : Nat) (ht : P.underlying t = some (.slice e)) (hi : P.info? e = some i) (hz : i.zero = some z)
    (hsize : i.size = size) (hby : i.bytes = bytes) (hzs : z.cells.size = size) (hsz : 0 < size)
    (v : Value) (n : Nat) (xs : List Value) (hs : a.eval s = v) (hown : RowAt w B size v n xs) (xv : Value) (m : Nat) (news : List Value) (hxe : a.eval x = xv) (hx : Src w size xv m news)
    (h63 : n + m ≤ maxLen) (hbytes : ((n + m) + (n + m) / 4 + 192) * bytes ≤ 281474976710656) (hbase : B ≤ w.heap.size)
    (h : ∀ v' w', RowAt w' B size v' (n + m) (xs ++ news) → w.grownBy w' v.ownBlock → Near w v v' → K (a.put o.dst v') w') :
    if Region.wanted o (yielded ops a.tmps) = true then Oper.wp P o a w K Q else E := by
  have hw : Region.wanted o (yielded ops a.tmps) = true := by simp [Region.wanted, hg]
  rw [if_pos hw]
  obtain ⟨v', w', hrun, r1, r2, r3⟩ := app_row_wide (P := P) w B t o.type e i z size bytes ht hi hz hsize hby hzs hsz v n xs hown xv m news hx h63 hbytes hbase
  unfold Oper.wp
  simp [execOp, hop, resolve, invoke, builtin, hs, hxe, hrun, Result.andThen]
  exact h v' w' r1 r2 r3
end Go.Proofs.Ytbkpapdbidbhaaa
