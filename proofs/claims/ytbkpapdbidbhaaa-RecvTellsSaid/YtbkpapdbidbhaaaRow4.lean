/-
  Rows of elements that lie anywhere in a block: append, reslice, store; elements' own memory.
-/
import Derived.Test.YtbkpapdbidbhaaaRow3
namespace Go.Proofs.Ytbkpapdbidbhaaa
open Go.RowKit

/-- v is a slice of n elements of sz cells, the cells xs, in a block from B on that nobody shares with a string; its spare places lie in the block, too. -/
def RowAt (w : World) (B sz : Nat) (v : Value) (n : Nat) (xs : List Value) : Prop :=
  xs.length = n * sz ∧ ((v = .slice none 0 0 ∧ n = 0) ∨ ∃ g off cap, v = .slice (some ⟨g, off, none⟩) n cap ∧ B ≤ g ∧ g < w.heap.size ∧ n ≤ cap ∧ cap ≤ maxLen ∧
    (∀ j, j < cap * sz → (w.cell? ⟨g, off + j, none⟩).isSome = true) ∧ (∀ j, w.frozen? ⟨g, j, none⟩ = false) ∧ ∀ j u, xs[j]? = some u → w.cell? ⟨g, off + j, none⟩ = some u)

section
variable {w w' : World} {B sz n : Nat} {v : Value} {xs : List Value}

theorem RowAt.nil (w : World) (B sz : Nat) : RowAt w B sz (.slice none 0 0) 0 [] := ⟨by simp, .inl ⟨rfl, rfl⟩⟩
theorem RowAt.of_own {e : TypeId} (h : w.ownsRow B e sz v n xs) : RowAt w B sz v n xs := by
  refine ⟨h.1, ?_⟩
  rcases id h.2 with hn | ⟨g, cap, cur, rfl, hb, hg, hn, hc, hcs, htk⟩
  · exact .inl hn
  · refine .inr ⟨g, 0, cap, rfl, hb, (Array.getElem?_eq_some_iff.1 hg).1, hn, hc, fun j hj => ?_, fun j => Whole.frozen hg j, fun j u hj => ?_⟩
    · rw [Nat.zero_add, Whole.cell hg j, Array.getElem?_eq_getElem (by omega)]; rfl
    · have := h.cells (g := g) rfl j u hj
      rw [Addr.add_lit] at this
      exact this
theorem RowAt.base {B' : Nat} (h : RowAt w B sz v n xs) (hb : B' ≤ B) : RowAt w B' sz v n xs := by
  refine ⟨h.1, ?_⟩
  rcases h.2 with hn | ⟨g, off, cap, rfl, hg, rest⟩
  · exact .inl hn
  · exact .inr ⟨g, off, cap, rfl, by omega, rest⟩
theorem RowAt.lt (h : RowAt w B sz v n xs) : ∀ k, v.ownBlock = some k → B ≤ k ∧ k < w.heap.size := by
  intro k hk
  rcases h.2 with ⟨rfl, _⟩ | ⟨g, off, cap, rfl, hb, hg, _⟩
  · cases hk
  · have : g = k := Option.some.inj hk
    subst this
    exact ⟨hb, hg⟩
theorem RowAt.kp {S : Nat → Prop} (h : RowAt w B sz v n xs) (hk : Kp S w w') (hS : ∀ k, v.ownBlock = some k → ¬ S k) : RowAt w' B sz v n xs := by
  refine ⟨h.1, ?_⟩
  rcases h.2 with hn | ⟨g, off, cap, rfl, hb, hg, hnc, hcm, h1, h2, h3⟩
  · exact .inl hn
  · have hg' := hS g rfl
    refine .inr ⟨g, off, cap, rfl, hb, Nat.lt_of_lt_of_le hg hk.size, hnc, hcm, fun j hj => ?_, fun j => ?_, fun j u hj => ?_⟩
    · rw [hk.cell (p := ⟨g, off + j, none⟩) hg hg']; exact h1 j hj
    · rw [World.frozen?_of_block (a := ⟨g, j, none⟩) (hk.block g hg hg')]; exact h2 j
    · rw [hk.cell (p := ⟨g, off + j, none⟩) hg hg']; exact h3 j u hj
theorem RowAt.src (h : RowAt w B sz v n xs) (h1 : ∀ u ∈ xs, u.oneCell' = true) : Src w sz v n xs := by
  refine ⟨h.1, h1, ?_⟩
  rcases h.2 with hn | ⟨g, off, cap, rfl, hb, hg, hnc, hcm, _, _, h3⟩
  · exact .inl hn
  · exact .inr ⟨_, _, rfl, fun j u hj => by rw [Addr.add_lit]; exact h3 j u hj⟩
theorem RowAt.form (h : RowAt w B sz v n xs) : ∃ A cap, v = .slice A n cap := by
  rcases h.2 with ⟨rfl, rfl⟩ | ⟨g, off, cap, rfl, _⟩
  · exact ⟨_, _, rfl⟩
  · exact ⟨_, _, rfl⟩
theorem RowAt.full (h : RowAt w B sz v n xs) (hn : 0 < n) : ∃ g off cap, v = .slice (some ⟨g, off, none⟩) n cap ∧ B ≤ g ∧ g < w.heap.size ∧ n ≤ cap ∧ cap ≤ maxLen ∧ (∀ j, w.frozen? ⟨g, j, none⟩ = false) ∧ ∀ j u, xs[j]? = some u → w.cell? ⟨g, off + j, none⟩ = some u := by
  rcases h.2 with ⟨_, h0⟩ | ⟨g, off, cap, rfl, hb, hg, hnc, hcm, _, h2, h3⟩
  · omega
  · exact ⟨g, off, cap, rfl, hb, hg, hnc, hcm, h2, h3⟩

/-- The elements from the i-th one on. -/
theorem RowAt.drop {g off cap : Nat} (h : RowAt w B sz (.slice (some ⟨g, off, none⟩) n cap) n xs) (i : Nat) (hi : i ≤ n) :
    RowAt w B sz (.slice (some ⟨g, if cap = i then off else off + i * sz, none⟩) (n - i) (cap - i)) (n - i) (xs.drop (i * sz)) := by
  obtain ⟨hl, ⟨hv, _⟩ | ⟨g', off', cap', hv, hB, hg, hnc, hcm, h1, h2, h3⟩⟩ := h
  · cases hv
  · cases hv
    refine ⟨by rw [List.length_drop, hl, Nat.sub_mul], .inr ⟨g, _, cap - i, rfl, hB, hg, by omega, by omega, fun j hj => ?_, h2, fun j u hj => ?_⟩⟩
    · split
      · rename_i e
        rw [e, Nat.sub_self, Nat.zero_mul] at hj
        omega
      · rw [Nat.add_assoc]
        refine h1 _ ?_
        have : (i + (cap - i)) * sz = cap * sz := by rw [show i + (cap - i) = cap by omega]
        rw [Nat.add_mul] at this
        omega
    · rw [List.getElem?_drop] at hj
      have hlt := (List.getElem?_eq_some_iff.1 hj).1
      split
      · rename_i e
        rw [hl] at hlt
        have : n * sz = i * sz := by rw [show n = i by omega]
        omega
      · rw [Nat.add_assoc]
        exact h3 _ u hj
/-- The first i elements. -/
theorem RowAt.take {A : Option Addr} {cap : Nat} (h : RowAt w B sz (.slice A n cap) n xs) (hA : A.isSome) (i : Nat) (hi : i ≤ n) : RowAt w B sz (.slice A i cap) i (xs.take (i * sz)) := by
  obtain ⟨hl, ⟨hv, _⟩ | ⟨g', off', cap', hv, hB, hg, hnc, hcm, h1, h2, h3⟩⟩ := h
  · cases hv; cases hA
  · cases hv
    have hm : i * sz ≤ n * sz := Nat.mul_le_mul_right _ hi
    refine ⟨by rw [List.length_take, hl]; omega, .inr ⟨g', off', cap, rfl, hB, hg, by omega, hcm, h1, h2, fun j u hj => ?_⟩⟩
    rw [List.getElem?_take] at hj
    split at hj
    · exact h3 j u hj
    · cases hj
/-- A store into an element. -/
theorem RowAt.set {g off cap : Nat} (h : RowAt w B sz (.slice (some ⟨g, off, none⟩) n cap) n xs) (j : Nat) (u : Value) (hj : j < n * sz) :
    RowAt (w.setCell ⟨g, off + j, none⟩ u) B sz (.slice (some ⟨g, off, none⟩) n cap) n (xs.set j u) := by
  obtain ⟨hl, ⟨hv, _⟩ | ⟨g', off', cap', hv, hB, hg, hnc, hcm, h1, h2, h3⟩⟩ := h
  · cases hv
  · cases hv
    have hnn : n * sz ≤ cap * sz := Nat.mul_le_mul_right _ hnc
    have hcell : ∀ i, (w.setCell ⟨g, off + j, none⟩ u).cell? ⟨g, off + i, none⟩ = if i = j then some u else w.cell? ⟨g, off + i, none⟩ := fun i => by
      by_cases e : i = j
      · subst e
        rw [if_pos rfl, World.cell?_setCell_same' _ _ _ (h1 _ (by omega))]
      · rw [if_neg e, World.cell?_setCell_other _ _ _ _ (by intro hh; have := congrArg Addr.off hh; simp at this; omega)]
    refine ⟨by rw [List.length_set]; exact hl, .inr ⟨g, off, cap, rfl, hB, by simpa using hg, hnc, hcm, fun i hi => ?_, fun i => by rw [World.frozen?_setCell]; exact h2 i, fun i x hx => ?_⟩⟩
    · rw [hcell]; split
      · rfl
      · exact h1 i hi
    · rw [hcell]
      rw [List.getElem?_set] at hx
      split
      · rename_i e
        subst e
        rw [if_pos rfl] at hx
        split at hx
        · exact hx
        · cases hx
      · rename_i e
        rw [if_neg (fun hh => e hh.symm)] at hx
        exact h3 i x hx

theorem cell_setCells (vs : List Value) : ∀ (w : World) (b o : Nat), (∀ j, j < vs.length → (w.cell? ⟨b, o + j, none⟩).isSome = true) → ∀ j,
    (w.setCells b o vs).cell? ⟨b, j, none⟩ = if o ≤ j ∧ j < o + vs.length then vs[j - o]? else w.cell? ⟨b, j, none⟩ := by
  induction vs with
  | nil => intro w b o _ j; rw [if_neg (by rintro ⟨h1, h2⟩; rw [List.length_nil] at h2; omega)]; rfl
  | cons v vs ih =>
    intro w b o hc j
    have h0 := hc 0 (by simp)
    have hstep : w.setCells b o (v :: vs) = (w.setCell ⟨b, o, none⟩ v).setCells b (o + 1) vs := rfl
    rw [hstep, ih _ _ _ (fun j hj => ?_)]
    · by_cases h1 : o + 1 ≤ j ∧ j < o + 1 + vs.length
      · rw [if_pos h1, if_pos (by simp; omega), show j - o = (j - (o + 1)) + 1 by omega]
        rfl
      · rw [if_neg h1]
        by_cases h2 : j = o
        · subst h2
          rw [if_pos (by simp), Nat.sub_self, World.cell?_setCell_same' _ _ _ (by simpa using h0)]
          rfl
        · rw [if_neg (by simp; omega), World.cell?_setCell_other]
          intro e
          have := congrArg Addr.off e
          simp at this
          omega
    · by_cases h2 : o + 1 + j = o
      · omega
      · rw [World.cell?_setCell_other _ _ _ _ (by intro e; have := congrArg Addr.off e; simp at this; omega)]
        have := hc (j + 1) (by simp; omega)
        rw [show o + (j + 1) = o + 1 + j by omega] at this
        exact this

theorem frozen_setCells (vs : List Value) : ∀ (w : World) (b o : Nat) (a : Addr), (w.setCells b o vs).frozen? a = w.frozen? a := by
  induction vs with
  | nil => intro w b o a; rfl
  | cons v vs ih =>
    intro w b o a
    have hstep : w.setCells b o (v :: vs) = (w.setCell ⟨b, o, none⟩ v).setCells b (o + 1) vs := rfl
    rw [hstep, ih, World.frozen?_setCell]
theorem kp_setCells {S : Nat → Prop} (vs : List Value) : ∀ {w w' : World} {b : Nat} (o : Nat), Kp S w w' → (S b ∨ w.heap.size ≤ b) → Kp S w (w'.setCells b o vs) := by
  induction vs with
  | nil => intro w w' b o h _; exact h
  | cons v vs ih =>
    intro w w' b o h hb
    have hstep : w'.setCells b o (v :: vs) = (w'.setCell ⟨b, o, none⟩ v).setCells b (o + 1) vs := rfl
    rw [hstep]
    exact ih _ (h.set (p := ⟨b, o, none⟩) hb _) hb
theorem size_setCells (vs : List Value) : ∀ (w : World) (b o : Nat), (w.setCells b o vs).heap.size = w.heap.size := by
  induction vs with
  | nil => intro w b o; rfl
  | cons v vs ih =>
    intro w b o
    have hstep : w.setCells b o (v :: vs) = (w.setCell ⟨b, o, none⟩ v).setCells b (o + 1) vs := rfl
    rw [hstep, ih]; simp

theorem grown_of_kp {r : Nat} (h : Kp (fun k => k = r) w w') : w.grownBy w' (some r) :=
  ⟨h.os, h.tape, h.output, h.size, fun k hk hne => h.block k hk (fun e => hne (by rw [e]))⟩
end

section
variable {P : Program} (w : World)
/-- append, where the slice lies anywhere. -/
theorem app_row (B : Nat) (t ty e : TypeId) (i : TypeInfo) (z : Value) (size bytes : Nat) (ht : P.underlying t = some (.slice e)) (hi : P.info? e = some i) (hz : i.zero = some z)
    (hsize : i.size = size) (hby : i.bytes = bytes) (hzs : z.cells.size = size) (hsz : 0 < size)
    (v : Value) (n : Nat) (xs : List Value) (hown : RowAt w B size v n xs) (x : Value) (m : Nat) (news : List Value) (hx : Src w size x m news)
    (h63 : n + m ≤ maxLen) (hbytes : (n + m) * bytes ≤ 140737488355328) (hbase : B ≤ w.heap.size) :
    ∃ v' w', (Builtin.append_ #[t, t] ty #[v, x]).run P w = .ok v' w' ∧ RowAt w' B size v' (n + m) (xs ++ news) ∧ w.grownBy w' v.ownBlock ∧ Near w v v' := by
  rcases hown.2 with ⟨rfl, rfl⟩ | ⟨g, off, cap, rfl, hB, hg, hnc, hcm, hc1, hf1, hxs⟩
  · obtain rfl : xs = [] := List.eq_nil_of_length_eq_zero (by simpa using hown.1)
    obtain ⟨v', w', h1, h2, h3, h4⟩ := app_run (P := P) w B t ty e i z size bytes ht hi hz hsize hby hzs hsz (.slice none 0 0) 0 [] (World.ownsRow_nil _ _ _ _) x m news hx h63 hbytes hbase
    exact ⟨v', w', h1, RowAt.of_own h2, h3, h4⟩
  · obtain ⟨hl, h1, ⟨rfl, rfl⟩ | ⟨a, c, rfl, hc⟩⟩ := hx
    · obtain rfl : news = [] := List.eq_nil_of_length_eq_zero (by simpa using hl)
      refine ⟨_, w, ?_, by simpa using hown, kept_refl _ _, .inl rfl⟩
      simp [Builtin.append_, run_underlying ht, sizeOf, typeInfo, hi, Builtin.lenOf, hnc, Builtin.firstCells, storeCells]
    · by_cases hr : n + m ≤ cap
      · subst hsize
        have hlen : news.length = m * i.size := hl
        have hin : ∀ j, j < news.length → n * i.size + j < cap * i.size := fun j hj => by
          have : (n + m) * i.size ≤ cap * i.size := Nat.mul_le_mul_right _ hr
          rw [Nat.add_mul] at this
          omega
        have hcs : ∀ j, j < news.length → (w.cell? ⟨g, off + n * i.size + j, none⟩).isSome = true := fun j hj => by
          rw [Nat.add_assoc]; exact hc1 _ (hin j hj)
        have hrun := run_append_room_cells (P := P) w t ty e i ht hi g off n cap a m c news hl hc h1 hr hcs (fun j hj => hf1 _)
        have hxl := hown.1
        refine ⟨_, _, hrun, ⟨by rw [List.length_append, hxl, hl, Nat.add_mul], .inr ⟨g, off, cap, rfl, hB, by rw [size_setCells]; exact hg, hr, hcm, fun j hj => ?_, fun j => by rw [frozen_setCells]; exact hf1 j, fun j u hj => ?_⟩⟩, grown_of_kp (kp_setCells news _ (Kp.refl _ w) (.inl rfl)), .inl rfl⟩
        · rw [cell_setCells news w g _ hcs]
          split
          · rename_i hh
            rw [List.getElem?_eq_getElem (by omega)]; rfl
          · exact hc1 j hj
        · rw [cell_setCells news w g _ hcs]
          by_cases hjx : j < xs.length
          · rw [List.getElem?_append_left hjx] at hj
            rw [if_neg (by omega)]
            exact hxs j u hj
          · rw [List.getElem?_append_right (by omega)] at hj
            have hjl := (List.getElem?_eq_some_iff.1 hj).1
            rw [if_pos (by omega), show off + j - (off + n * i.size) = j - xs.length by omega]
            exact hj
      · obtain ⟨v', w', hrun, r1, r2⟩ := run_append_arg_grows (P := P) w t ty e i z size bytes ht hi hz hsize hby hzs hsz ⟨g, off, none⟩ n cap xs hown.1 (fun j u hj => by rw [Addr.add_lit]; exact hxs j u hj) a m c news hl hc (by omega) h63 hbytes
        exact ⟨v', w', hrun, (RowAt.of_own r1).base hbase, none_kept r2 _, .inr fun k hk => (r1.lt k hk).1⟩
end

theorem wpList_row {P : Program} {w : World} {ops : Array Oper} {rest : List Oper} {o : Oper} {a : Act} {Q : Exit → Act → World → Prop}
    (hg : o.guard = none) (s x : Operand) (t : TypeId) (hop : o.op = Op.call { callee := Callee.builtin Builtin.append, args := #[s, x], argTypes := #[t, t] })
    (B : Nat) (e : TypeId) (i : TypeInfo) (z : Value) (size bytes : Nat) (ht : P.underlying t = some (.slice e)) (hi : P.info? e = some i) (hz : i.zero = some z)
    (hsize : i.size = size) (hby : i.bytes = bytes) (hzs : z.cells.size = size) (hsz : 0 < size)
    (v : Value) (n : Nat) (xs : List Value) (hs : a.eval s = v) (hown : RowAt w B size v n xs) (xv : Value) (m : Nat) (news : List Value) (hxe : a.eval x = xv) (hx : Src w size xv m news)
    (h63 : n + m ≤ maxLen) (hbytes : (n + m) * bytes ≤ 140737488355328) (hbase : B ≤ w.heap.size)
    (h : ∀ v' w', RowAt w' B size v' (n + m) (xs ++ news) → w.grownBy w' v.ownBlock → Near w v v' → wpList P ops Q rest (a.put o.dst v') w') :
    wpList P ops Q (o :: rest) a w := by
  refine wpList_plain hg fun K hK' => ?_
  obtain ⟨v', w', hrun, r1, r2, r3⟩ := app_row (P := P) w B t o.type e i z size bytes ht hi hz hsize hby hzs hsz v n xs hown xv m news hx h63 hbytes hbase
  unfold Oper.wp
  simp [execOp, hop, resolve, invoke, builtin, hs, hxe, hrun, Result.andThen]
  exact hK' _ _ (h v' w' r1 r2 r3)

theorem step_row {P : Program} {ops : Array Oper} {o : Oper} {a : Act} {w : World} {K : Act → World → Prop} {Q : Exit → Act → World → Prop} {E : Prop}
    (hg : o.guard = none) (s x : Operand) (t : TypeId) (hop : o.op = Op.call { callee := Callee.builtin Builtin.append, args := #[s, x], argTypes := #[t, t] })
    (B : Nat) (e : TypeId) (i : TypeInfo) (z : Value) (size bytes : Nat) (ht : P.underlying t = some (.slice e)) (hi : P.info? e = some i) (hz : i.zero = some z)
    (hsize : i.size = size) (hby : i.bytes = bytes) (hzs : z.cells.size = size) (hsz : 0 < size)
    (v : Value) (n : Nat) (xs : List Value) (hs : a.eval s = v) (hown : RowAt w B size v n xs) (xv : Value) (m : Nat) (news : List Value) (hxe : a.eval x = xv) (hx : Src w size xv m news)
    (h63 : n + m ≤ maxLen) (hbytes : (n + m) * bytes ≤ 140737488355328) (hbase : B ≤ w.heap.size)
    (h : ∀ v' w', RowAt w' B size v' (n + m) (xs ++ news) → w.grownBy w' v.ownBlock → Near w v v' → K (a.put o.dst v') w') :
    if Region.wanted o (yielded ops a.tmps) = true then Oper.wp P o a w K Q else E := by
  have hw : Region.wanted o (yielded ops a.tmps) = true := by simp [Region.wanted, hg]
  rw [if_pos hw]
  obtain ⟨v', w', hrun, r1, r2, r3⟩ := app_row (P := P) w B t o.type e i z size bytes ht hi hz hsize hby hzs hsz v n xs hown xv m news hx h63 hbytes hbase
  unfold Oper.wp
  simp [execOp, hop, resolve, invoke, builtin, hs, hxe, hrun, Result.andThen]
  exact h v' w' r1 r2 r3
end Go.Proofs.Ytbkpapdbidbhaaa
