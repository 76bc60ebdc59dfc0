/-
  Rows: append where there is room, clear, a store into an element.
-/
import Derived.Test.YtbkpapdbidbhaaaRow2
namespace Go.Proofs.Ytbkpapdbidbhaaa
open Go.RowKit

theorem Kp.new {w w' : World} (h : Kp (fun k => w.heap.size ≤ k) w w') (S : Nat → Prop) : Kp S w w' := h.mono fun k hk h => absurd h (by omega)
theorem Kp.no {S : Nat → Prop} {w w' : World} (h : Kp (fun _ => False) w w') : Kp S w w' := h.mono fun _ _ h => h.elim
theorem Kp.frozen {S : Nat → Prop} {w w' : World} {p : Addr} (h : Kp S w w') (hp : p.block < w.heap.size) (hn : ¬ S p.block) : w'.frozen? p = w.frozen? p := World.frozen?_of_block (h.block _ hp hn)
theorem Kp.below0 {B : Nat} {w w' : World} (h : Kp (fun _ => False) w w') (hB : B ≤ w.heap.size) : Below B w w' := h.below hB (fun _ h => h.elim)

theorem own_far {w : World} {g B n cap : Nat} {A : Option Addr} {e : TypeId} {sz : Nat} {xs : List Value} (h : w.ownsRow B e sz (.slice A n cap) n xs) (hg : g < B) : some g ≠ (Value.slice A n cap).ownBlock := by
  intro hk
  have := (h.lt g hk.symm).1
  omega

theorem own_map {A : Option Addr} {n cap : Nat} : (Value.slice A n cap).ownBlock = A.map (·.block) := by cases A <;> rfl

theorem own_form {w : World} {B n : Nat} {e : TypeId} {sz : Nat} {v : Value} {xs : List Value} (h : w.ownsRow B e sz v n xs) : ∃ A cap, v = .slice A n cap := by
  rcases h.2 with ⟨rfl, rfl⟩ | ⟨g, cap, _, rfl, _⟩
  · exact ⟨_, _, rfl⟩
  · exact ⟨_, _, rfl⟩

theorem own_le {w : World} {B n cap : Nat} {e : TypeId} {sz : Nat} {A : Option Addr} {xs : List Value} (h : w.ownsRow B e sz (.slice A n cap) n xs) : n ≤ cap := by
  rcases h.2 with ⟨hv, hn⟩ | ⟨g, c, _, hv, _, _, hn, _⟩
  · omega
  · cases hv; exact hn

theorem own_addr {w : World} {B n cap : Nat} {e : TypeId} {sz : Nat} {A : Option Addr} {xs : List Value} (h : w.ownsRow B e sz (.slice A n cap) n xs) : ∀ a, A = some a → a.add 0 = a := by
  intro a ha
  subst ha
  rcases h.2 with ⟨hv, _⟩ | ⟨g, c, _, hv, _⟩
  · cases hv
  · cases hv; rfl

theorem ownsRow_set {w : World} {b : Nat} {e : TypeId} {size g n cap : Nat} {xs : List Value} (h : w.ownsRow b e size (.slice (some ⟨g, 0, none⟩) n cap) n xs) (j : Nat) (u : Value) :
    (w.setCell ⟨g, j, none⟩ u).ownsRow b e size (.slice (some ⟨g, 0, none⟩) n cap) n (xs.set j u) := by
  obtain ⟨hl, ⟨hv, _⟩ | ⟨g', cap', cur, hv, hb, hg, hn, hc, hcs, htk⟩⟩ := h
  · cases hv
  · cases hv
    refine ⟨by rw [List.length_set]; exact hl, .inr ⟨g, cap, cur.setIfInBounds j u, rfl, hb, ?_, hn, hc, by rw [Array.size_setIfInBounds]; exact hcs, ?_⟩⟩
    · exact Whole.set (t := e) (cs := cur) hg j u
    · rw [Array.toList_setIfInBounds, List.take_set, htk]

section
variable {P : Program} (w : World)

theorem app_run_room (base : Nat) (t ty e : TypeId) (i : TypeInfo) (z : Value) (size bytes : Nat) (ht : P.underlying t = some (.slice e)) (hi : P.info? e = some i) (hz : i.zero = some z)
    (hsize : i.size = size) (hby : i.bytes = bytes) (hzs : z.cells.size = size) (hsz : 0 < size)
    (g n cap : Nat) (xs : List Value) (hown : w.ownsRow base e size (.slice (some ⟨g, 0, none⟩) n cap) n xs) (x : Value) (m : Nat) (news : List Value) (hx : Src w size x m news)
    (hroom : n + m ≤ cap) (hbytes : (n + m) * bytes ≤ 140737488355328) (hbase : base ≤ w.heap.size) :
    ∃ w', (Builtin.append_ #[t, t] ty #[.slice (some ⟨g, 0, none⟩) n cap, x]).run P w = .ok (.slice (some ⟨g, 0, none⟩) (n + m) cap) w' ∧ w'.ownsRow base e size (.slice (some ⟨g, 0, none⟩) (n + m) cap) (n + m) (xs ++ news) ∧ w.grownBy w' (some g) := by
  obtain ⟨hl, h1, ⟨rfl, rfl⟩ | ⟨a, c, rfl, hc⟩⟩ := hx
  · obtain rfl : news = [] := List.eq_nil_of_length_eq_zero (by simpa using hl)
    exact ⟨w, run_append_owned_none (P := P) (w := w) base t ty e i size ht hi _ n xs hown, by simpa using hown, kept_refl _ _⟩
  · rcases id hown.2 with ⟨hv, _⟩ | ⟨g', cap', cur, hv, hbg, hg, hn, hcm, hcs, htk⟩
    · cases hv
    · cases hv
      obtain ⟨v', w', hrun, r1, r2, _⟩ := run_append_own (P := P) w base t ty e i z size bytes ht hi hz hsize hby hzs hsz _ n xs hown a m c news hl hc h1 (by omega) hbytes hbase
      have hrun2 := run_append_room (P := P) w t ty e i ht hi g n cap cur hg a m c news (by rw [hsize]; exact hl) hc h1 hroom (by rw [hsize, hl, hcs, ← Nat.add_mul]; exact Nat.mul_le_mul_right _ hroom)
      have hrun3 := hrun
      rw [hrun2] at hrun3
      cases hrun3
      exact ⟨_, hrun2, r1, r2⟩

/-- 'clear' of what lies behind a row's elements. -/
theorem clear_run (base : Nat) (t ty e : TypeId) (i : TypeInfo) (z : Value) (size : Nat) (ht : P.underlying t = some (.slice e)) (hi : P.info? e = some i) (hz : i.zero = some z)
    (hzs : z.cells.size = size) (hz1 : ∀ u ∈ z.cells.toList, u.oneCell' = true)
    (g n cap m c : Nat) (xs : List Value) (hown : w.ownsRow base e size (.slice (some ⟨g, 0, none⟩) n cap) n xs) (hm : n + m ≤ cap) (A : Option Addr) (hA : m ≠ 0 → A = some ⟨g, n * size, none⟩) :
    ∃ w', (Builtin.clear_ #[t] ty #[.slice A m c]).run P w = .ok (.tuple #[]) w' ∧ w'.ownsRow base e size (.slice (some ⟨g, 0, none⟩) n cap) n xs ∧ w.grownBy w' (some g) := by
  cases m with
  | zero =>
    refine ⟨w, ?_, hown, kept_refl _ _⟩
    cases A <;> simp [Builtin.clear_, run_underlying ht]
  | succ m =>
    rw [hA (by omega)]
    obtain ⟨hl, ⟨hv, _⟩ | ⟨g', cap', cur, hv, hb, hg, hn, hc, hcs, htk⟩⟩ := hown
    · cases hv
    · cases hv
      have hzl : (Builtin.zeroCells z.cells (m + 1)).toList.length = (m + 1) * size := by rw [Array.length_toList, size_zeroCells, hzs]
      have hfit : n * size + (m + 1) * size ≤ cur.size := by rw [hcs, ← Nat.add_mul]; exact Nat.mul_le_mul_right _ hm
      have hst := run_storeCells_at P g (n * size) e (Builtin.zeroCells z.cells (m + 1)).toList 0 cur w hg (by rw [hzl]; simpa using hfit) (by
        intro u hu
        have hu' : ∃ a, a < (m + 1) * z.cells.size ∧ z.cells[a % z.cells.size]! = u := by simpa [Builtin.zeroCells] using hu
        obtain ⟨a, ha, rfl⟩ := hu'
        have hpos : 0 < z.cells.size := by
          rcases Nat.eq_zero_or_pos z.cells.size with h0 | h0
          · rw [h0] at ha; simp at ha
          · exact h0
        have hlt := Nat.mod_lt a hpos
        rw [getElem!_pos z.cells _ hlt]
        exact hz1 _ (by simp))
      simp only [Nat.add_zero] at hst
      refine ⟨_, by simp [Builtin.clear_, run_underlying ht, zeroValue, typeInfo, hi, hz, hst]; rfl, ⟨hl, .inr ⟨g, cap, _, rfl, hb, setRow_heap _ _ _ _ _ _ hg, hn, hc, ?_, ?_⟩⟩, ⟨rfl, rfl, rfl, by simp, fun k hk hne => setRow_other _ _ _ _ (fun e => hne (by rw [e]))⟩⟩
      · have h1 : (cur.toList.take (n * size)).length = n * size := by rw [List.length_take, Array.length_toList]; omega
        have h2 : (cur.toList.drop (n * size + (Builtin.zeroCells z.cells (m + 1)).size)).length = cur.size - (n * size + (m + 1) * size) := by rw [List.length_drop, Array.length_toList, ← Array.length_toList (xs := Builtin.zeroCells z.cells (m + 1)), hzl]
        rw [← hcs, List.size_toArray, List.length_append, List.length_append, h1, h2, hzl]
        omega
      · have h1 : (cur.toList.take (n * size)).length = n * size := by rw [List.length_take, Array.length_toList]; omega
        show List.take (n * size) (List.take (n * size) cur.toList ++ (_ ++ _)) = xs
        rw [List.take_left' h1]
        exact htk
end

theorem wpList_clear {P : Program} {w : World} {ops : Array Oper} {rest : List Oper} {o : Oper} {a : Act} {Q : Exit → Act → World → Prop}
    (hg : o.guard = none) (x : Operand) (t : TypeId) (hop : o.op = Op.call { callee := Callee.builtin Builtin.clear, args := #[x], argTypes := #[t] })
    (base : Nat) (e : TypeId) (i : TypeInfo) (z : Value) (size : Nat) (ht : P.underlying t = some (.slice e)) (hi : P.info? e = some i) (hz : i.zero = some z)
    (hzs : z.cells.size = size) (hz1 : ∀ u ∈ z.cells.toList, u.oneCell' = true)
    (g n cap m c : Nat) (xs : List Value) (hown : w.ownsRow base e size (.slice (some ⟨g, 0, none⟩) n cap) n xs) (hm : n + m ≤ cap) (A : Option Addr) (hA : m ≠ 0 → A = some ⟨g, n * size, none⟩) (hx : a.eval x = .slice A m c)
    (h : ∀ w', w'.ownsRow base e size (.slice (some ⟨g, 0, none⟩) n cap) n xs → w.grownBy w' (some g) → wpList P ops Q rest (a.put o.dst (.tuple #[])) w') :
    wpList P ops Q (o :: rest) a w := by
  refine wpList_plain hg fun K hK' => ?_
  obtain ⟨w', hrun, r1, r2⟩ := clear_run (P := P) w base t o.type e i z size ht hi hz hzs hz1 g n cap m c xs hown hm A hA
  unfold Oper.wp
  simp [execOp, hop, resolve, invoke, builtin, hx, hrun, Result.andThen]
  exact hK' _ _ (h w' r1 r2)

theorem step_app_room {P : Program} {ops : Array Oper} {o : Oper} {a : Act} {w : World} {K : Act → World → Prop} {Q : Exit → Act → World → Prop} {E : Prop}
    (hg : o.guard = none) (s x : Operand) (t : TypeId) (hop : o.op = Op.call { callee := Callee.builtin Builtin.append, args := #[s, x], argTypes := #[t, t] })
    (base : Nat) (e : TypeId) (i : TypeInfo) (z : Value) (size bytes : Nat) (ht : P.underlying t = some (.slice e)) (hi : P.info? e = some i) (hz : i.zero = some z)
    (hsize : i.size = size) (hby : i.bytes = bytes) (hzs : z.cells.size = size) (hsz : 0 < size)
    (g n cap : Nat) (xs : List Value) (hs : a.eval s = .slice (some ⟨g, 0, none⟩) n cap) (hown : w.ownsRow base e size (.slice (some ⟨g, 0, none⟩) n cap) n xs) (xv : Value) (m : Nat) (news : List Value) (hxe : a.eval x = xv) (hx : Src w size xv m news)
    (hroom : n + m ≤ cap) (hbytes : (n + m) * bytes ≤ 140737488355328) (hbase : base ≤ w.heap.size)
    (h : ∀ w', w'.ownsRow base e size (.slice (some ⟨g, 0, none⟩) (n + m) cap) (n + m) (xs ++ news) → w.grownBy w' (some g) → K (a.put o.dst (.slice (some ⟨g, 0, none⟩) (n + m) cap)) w') :
    if Region.wanted o (yielded ops a.tmps) = true then Oper.wp P o a w K Q else E := by
  have hw : Region.wanted o (yielded ops a.tmps) = true := by simp [Region.wanted, hg]
  rw [if_pos hw]
  obtain ⟨w', hrun, r1, r2⟩ := app_run_room (P := P) w base t o.type e i z size bytes ht hi hz hsize hby hzs hsz g n cap xs hown xv m news hx hroom hbytes hbase
  unfold Oper.wp
  simp [execOp, hop, resolve, invoke, builtin, hs, hxe, hrun, Result.andThen]
  exact h w' r1 r2
end Go.Proofs.Ytbkpapdbidbhaaa
