/-
  What a law's arguments hold in memory where they are of small bulk: numbers, bools, bytes, strings, and slices of these, of structs of these, of slices of these.
-/
import Derived.Test.YtbkpapdbidbhaaaArgs
namespace Go.Proofs.Ytbkpapdbidbhaaa
open Go.ChangeShapes Go.WideShapes Go.ChangeAt Go.RowKit Go.Deep

theorem bulk_one {H : Type} (d : DataW H) : 1 ≤ Rows.uptoBulk d := by
  cases d with
  | lit l => cases l <;> simp [Rows.uptoBulk]
  | nil => simp [Rows.uptoBulk]
  | ptr d => simp [Rows.uptoBulk]
  | slice elems spare => simp [Rows.uptoBulk]
  | agg parts => simp [Rows.uptoBulk]
  | iface t d => simp [Rows.uptoBulk]
  | map entries => simp [Rows.uptoBulk]
  | held h => simp [Rows.uptoBulk]
theorem bulk_part {H : Type} {d : DataW H} {l : List (DataW H)} (h : d ∈ l) : Rows.uptoBulk d ≤ Rows.uptoBulkAll l := by
  induction l with
  | nil => cases h
  | cons x r ih =>
    simp only [Rows.uptoBulkAll]
    cases List.mem_cons.1 h with
    | inl e => subst e; omega
    | inr e => have := ih e; omega
theorem bulk_length {H : Type} (l : List (DataW H)) : l.length ≤ Rows.uptoBulkAll l := by
  induction l with
  | nil => simp [Rows.uptoBulkAll]
  | cons x r ih => have := bulk_one x; simp only [Rows.uptoBulkAll, List.length_cons]; omega

/-- A value that is read as data of type T in the world W, of small bulk. -/
def SlArgB (T : TypeId) (W : World) (v : Value) : Prop :=
  ∃ (H : Type) (enc : TypeId × Value → H) (base : Nat) (d : DataW H) (p : List MemPlace), Value.okWide Try.prog W .any base T v ∧ DataW.Trod enc Try.prog W 0 (fun _ => true) true T v d p ∧ Rows.uptoBulk d ≤ 1048576

def RdSB (v : Value) : Prop := ∃ s : ByteArray, v = .string s ∧ s.size ≤ 1048576

/-- A slice whose elements have the fields fs: nothing is known of its cells where it is empty. -/
def RdSlB (w : World) (fs : List (Value → Prop)) (v : Value) : Prop :=
  ∃ A len cap, v = .slice A len cap ∧ len ≤ cap ∧ cap ≤ maxLen ∧ len ≤ 1048576 ∧ (len = 0 ∨ ∃ b off, A = some ⟨b, off, none⟩ ∧ b < w.heap.size ∧
    ∀ i, i < len → ∀ j p, fs[j]? = some p → ∃ u, w.cell? ⟨b, off + i * fs.length + j, none⟩ = some u ∧ p u)

section
variable {H : Type} {enc : TypeId × Value → H} {P : Program} {w : World} {base : Nat} {spare : Nat → Bool} {held : Bool}

/-- Each field's own reading. -/
def FieldBd (enc : TypeId × Value → H) (P : Program) (w : World) (base : Nat) (spare : Nat → Bool) (held : Bool) (t : TypeId) (p : Value → Prop) : Prop :=
  ∀ (n : Nat) (u : Value) (y : DataW H × List MemPlace), DataW.trod enc P w base spare held n t [u] = some y → Rows.uptoBulk y.1 ≤ 1048576 → p u

theorem fieldB_I {t : TypeId} (ht : P.underlying t = some (.int .i64)) : FieldBd enc P w base spare held t RdI := by
  intro n u y h _
  obtain ⟨x, hx, _, hw⟩ := DataW.trod_int ht h
  simp only [List.cons.injEq, and_true] at hx
  exact ⟨x, hx, bounds_i64 hw⟩
theorem fieldB_U8 {t : TypeId} (ht : P.underlying t = some (.int .u8)) : FieldBd enc P w base spare held t RdU8 := by
  intro n u y h _
  obtain ⟨x, hx, _, hw⟩ := DataW.trod_int ht h
  simp only [List.cons.injEq, and_true] at hx
  exact ⟨x, hx, bounds_u8 hw⟩
theorem fieldB_B {t : TypeId} (ht : P.underlying t = some .bool) : FieldBd enc P w base spare held t RdB := by
  intro n u y h _
  obtain ⟨x, hx, _⟩ := DataW.trod_bool ht h
  simp only [List.cons.injEq, and_true] at hx
  exact ⟨x, hx⟩
theorem fieldB_S {t : TypeId} (ht : P.underlying t = some .string) : FieldBd enc P w base spare held t RdSB := by
  intro n u y h hwt
  obtain ⟨x, hx, hy, hw⟩ := DataW.trod_string ht h
  simp only [List.cons.injEq, and_true] at hx
  refine ⟨x, hx, ?_⟩
  rw [hy] at hwt
  simp only [Rows.uptoBulk, Array.length_toList] at hwt
  have e : x.data.size = x.size := rfl
  omega

/-- What the bulk says of a slice's datum. -/
theorem bulk_slice {el sp : List (DataW H)} (h : Rows.uptoBulk (.slice el sp) ≤ 1048576) : el.length ≤ 1048576 ∧ ∀ d ∈ el, Rows.uptoBulk d ≤ 1048576 := by
  simp only [Rows.uptoBulk] at h
  have h1 := bulk_length el
  refine ⟨by omega, fun d hd => ?_⟩
  have := bulk_part hd
  omega

/-- A slice of one-cell elements. -/
theorem fieldB_Sl1 {t e : TypeId} {p : Value → Prop} (ht : P.underlying t = some (.slice e)) (hc : P.cellsOf e = 1) (hp : FieldBd enc P w base spare held e p) : FieldBd enc P w base spare held t (RdSlB w [p]) := by
  intro n u y h hwt
  rcases open_slice1 ht hc h with ⟨hu, _⟩ | ⟨a, len, cap, m, n', V, D, Pl, hu, hb, hl, hcap, hm, hx, hi⟩
  · simp only [List.cons.injEq, and_true] at hu
    exact ⟨none, 0, 0, hu, Nat.le_refl _, by simp [maxLen], by omega, .inl rfl⟩
  · simp only [List.cons.injEq, and_true] at hu
    have hlm : len ≤ m := by rw [hm]; split <;> omega
    rw [hx] at hwt
    obtain ⟨hw1, hw2⟩ := bulk_slice hwt
    simp only [List.length_map, List.length_range] at hw1
    refine ⟨some a, len, cap, hu, hl, hcap, hw1, ?_⟩
    rcases Nat.eq_zero_or_pos len with h0 | h0
    · exact .inl h0
    · right
      have h00 := (hi 0 (by omega)).1
      have hs0 : a.add 0 = a := by simp [Addr.add]
      rw [hs0] at h00
      obtain ⟨hblk, hs⟩ := addr_of_cell h00
      refine ⟨a.block, a.off, by cases a; simp only at hs; subst hs; rfl, hblk, fun i hil j q hq => ?_⟩
      obtain ⟨hcell, htr⟩ := hi i (by omega)
      match j, hq with
      | 0, hq =>
        simp only [List.getElem?_cons_zero, Option.some.injEq] at hq
        subst hq
        rw [addr_eq hs] at hcell
        exact ⟨V i, by simpa using hcell, hp _ _ _ htr (hw2 (D i) (List.mem_map.2 ⟨i, by simpa using hil, rfl⟩))⟩
      | j + 1, hq => simp at hq

/-- A slice of structs of one-cell fields. -/
theorem fieldB_SlS {t e : TypeId} {fs : Array Field} {ps : List (Value → Prop)} (ht : P.underlying t = some (.slice e)) (he : P.underlying e = some (.struct fs)) (hone : oneCellFields P fs = true) (hC : P.cellsOf e = fs.size)
    (hz : 0 < fs.size) (hlen : ps.length = fs.size) (hp : ∀ (j : Nat) (f : Field) (q : Value → Prop), fs[j]? = some f → ps[j]? = some q → FieldBd enc P w base spare held f.type q) : FieldBd enc P w base spare held t (RdSlB w ps) := by
  intro n u y h hwt
  rcases open_slice ht h with ⟨hu, _⟩ | ⟨a, len, cap, m, n', D, Pl, hu, hb, hl, hcap, hm, hx, hi⟩
  · simp only [List.cons.injEq, and_true] at hu
    exact ⟨none, 0, 0, hu, Nat.le_refl _, by simp [maxLen], by omega, .inl rfl⟩
  · simp only [List.cons.injEq, and_true] at hu
    have hlm : len ≤ m := by rw [hm]; split <;> omega
    rw [hx] at hwt
    obtain ⟨hw1, hw2⟩ := bulk_slice hwt
    simp only [List.length_map, List.length_range] at hw1
    refine ⟨some a, len, cap, hu, hl, hcap, hw1, ?_⟩
    have hel : ∀ i, i < len → ∀ j f q, fs[j]? = some f → ps[j]? = some q → ∃ u, w.cell? (a.add (i * fs.size + j)) = some u ∧ q u := by
      intro i hil j f q hf hq
      obtain ⟨cs', hcs, htr⟩ := hi i (by omega)
      rw [hC] at hcs
      obtain ⟨xs, n2, _, hag, hl2, hxl, hfl⟩ := DataW.trod_struct he htr
      obtain ⟨_, hcl, hat⟩ := World.cells?_some hcs
      obtain ⟨ho, hk⟩ := hone_of hone j f hf
      have hjl : j < fs.size := (Array.getElem?_eq_some_iff.1 hf).1
      have h1 := hfl j f hf
      rw [ho, hk] at h1
      have hone' : (cs'.drop j).take 1 = [cs'[j]'(by omega)] := by
        rw [List.drop_eq_getElem_cons (by omega)]; rfl
      rw [hone'] at h1
      have hcell := hat j hjl
      rw [List.getElem?_eq_getElem (by omega)] at hcell h1
      refine ⟨_, by rw [← Go.Deep.add_add]; exact hcell, hp j f q hf hq _ _ _ h1 ?_⟩
      have hD : D i = .agg (xs.map (·.1)) := (Prod.mk.inj hag).1
      have hDi := hw2 (D i) (List.mem_map.2 ⟨i, by simpa using hil, rfl⟩)
      rw [hD] at hDi
      simp only [Rows.uptoBulk] at hDi
      have hmem : (xs[j]'(by omega)).1 ∈ xs.map (·.1) := List.mem_map.2 ⟨_, List.getElem_mem _, rfl⟩
      have := bulk_part hmem
      omega
    rcases Nat.eq_zero_or_pos len with h0 | h0
    · exact .inl h0
    · right
      have hf0 : fs[0]? = some (fs[0]'hz) := Array.getElem?_eq_getElem hz
      have hq0 : ps[0]? = some (ps[0]'(by omega)) := List.getElem?_eq_getElem (by omega)
      obtain ⟨u0, hu0, _⟩ := hel 0 h0 0 _ _ hf0 hq0
      rw [Nat.zero_mul, Nat.zero_add] at hu0
      have hs0 : a.add 0 = a := by simp [Addr.add]
      rw [hs0] at hu0
      obtain ⟨hblk, hs⟩ := addr_of_cell hu0
      refine ⟨a.block, a.off, by cases a; simp only at hs; subst hs; rfl, hblk, fun i hil j q hq => ?_⟩
      have hjl : j < ps.length := (List.getElem?_eq_some_iff.1 hq).1
      have hfj : fs[j]? = some (fs[j]'(by omega)) := Array.getElem?_eq_getElem (by omega)
      obtain ⟨u, hu, hq'⟩ := hel i hil j _ q hfj hq
      rw [addr_eq hs] at hu
      exact ⟨u, by rw [hlen, Nat.add_assoc]; exact hu, hq'⟩

set_option maxRecDepth 100000 in
theorem SlArgB.rd {T E : TypeId} {W : World} {v : Value} {ps : List (Value → Prop)} (ht : Try.prog.underlying T = some (.slice E)) (h : SlArgB T W v)
    (hp : ∀ (H : Type) (enc : TypeId × Value → H), FieldBd enc Try.prog W 0 (fun _ => true) true T (RdSlB W ps)) : RdSlB W ps v := by
  obtain ⟨H, enc, base, d, q, hok, ⟨fuel, hf⟩, hwt⟩ := h
  obtain ⟨A, len, cap, rfl⟩ := okWide_slice ht hok
  exact hp H enc fuel _ (d, q) (by simpa [Value.cells] using hf) hwt
end
end Go.Proofs.Ytbkpapdbidbhaaa
