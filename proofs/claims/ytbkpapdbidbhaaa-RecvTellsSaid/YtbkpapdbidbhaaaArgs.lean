/-
  What a law's arguments hold in memory, as far as a walk reads them: numbers, bools, bytes, strings, and slices of these, of structs of these, of slices of these.
-/
import Derived.Test.YtbkpapdbidbhaaaBase
import Derived.ProofKit
import Derived.OpenShut
import Derived.Deep.Slices
import Derived.Deep.Fields
import Derived.SizedLaws
namespace Go.Proofs.Ytbkpapdbidbhaaa
open Go.ChangeShapes Go.WideShapes Go.ChangeAt Go.RowKit Go.Deep

/-- A value that is read as data of type T in the world W, within the form's reach. -/
def SlArg (T : TypeId) (W : World) (v : Value) : Prop :=
  ∃ (H : Type) (enc : TypeId × Value → H) (base : Nat) (d : DataW H) (p : List MemPlace), Value.okWide Try.prog W .any base T v ∧ DataW.Trod enc Try.prog W 0 (fun _ => true) true T v d p ∧ ∀ n ∈ d.weights Try.prog T, n ≤ reachBytes

def RdI (v : Value) : Prop := ∃ x : Int, v = .int .i64 x ∧ -9223372036854775808 ≤ x ∧ x ≤ 9223372036854775807
def RdU8 (v : Value) : Prop := ∃ x : Int, v = .int .u8 x ∧ 0 ≤ x ∧ x ≤ 255
def RdB (v : Value) : Prop := ∃ b : Bool, v = .bool b
def RdSr (v : Value) : Prop := ∃ s : ByteArray, v = .string s ∧ s.size ≤ reachBytes
def RdS (v : Value) : Prop := ∃ s : ByteArray, v = .string s ∧ s.size ≤ maxLen

/-- A slice whose elements have the fields fs: nothing is known of its cells where it is empty. -/
def RdSl (w : World) (B : Nat) (fs : List (Value → Prop)) (v : Value) : Prop :=
  ∃ A len cap, v = .slice A len cap ∧ len ≤ cap ∧ cap ≤ maxLen ∧ len * B ≤ reachBytes ∧ (len = 0 ∨ ∃ b off, A = some ⟨b, off, none⟩ ∧ b < w.heap.size ∧
    ∀ i, i < len → ∀ j p, fs[j]? = some p → ∃ u, w.cell? ⟨b, off + i * fs.length + j, none⟩ = some u ∧ p u)

theorem addr_of_cell {w : World} {a : Addr} {v : Value} (h : w.cell? a = some v) : a.block < w.heap.size ∧ a.spot = none := by
  unfold World.cell? at h
  split at h
  · rename_i c e f ho
    refine ⟨(Array.getElem?_eq_some_iff.1 ho).1, ?_⟩
    split at h
    · cases h
    · rename_i hs; simpa using hs
  · cases h

theorem addr_eq {a : Addr} {n : Nat} (h : a.spot = none) : a.add n = ⟨a.block, a.off + n, none⟩ := by
  cases a; simp only at h; subst h; unfold Addr.add; split <;> simp_all

section
variable {H : Type} {enc : TypeId × Value → H} {P : Program} {w : World} {base : Nat} {spare : Nat → Bool} {held : Bool}

/-- Each field's own reading. -/
def FieldOk (enc : TypeId × Value → H) (P : Program) (w : World) (base : Nat) (spare : Nat → Bool) (held : Bool) (t : TypeId) (p : Value → Prop) : Prop :=
  ∀ (n : Nat) (u : Value) (y : DataW H × List MemPlace), DataW.trod enc P w base spare held n t [u] = some y → (∀ m ∈ y.1.weights P t, m ≤ reachBytes) → p u

theorem fieldI {t : TypeId} (ht : P.underlying t = some (.int .i64)) : FieldOk enc P w base spare held t RdI := by
  intro n u y h _
  obtain ⟨x, hx, _, hw⟩ := DataW.trod_int ht h
  simp only [List.cons.injEq, and_true] at hx
  exact ⟨x, hx, bounds_i64 hw⟩
theorem fieldU8 {t : TypeId} (ht : P.underlying t = some (.int .u8)) : FieldOk enc P w base spare held t RdU8 := by
  intro n u y h _
  obtain ⟨x, hx, _, hw⟩ := DataW.trod_int ht h
  simp only [List.cons.injEq, and_true] at hx
  exact ⟨x, hx, bounds_u8 hw⟩
theorem fieldB {t : TypeId} (ht : P.underlying t = some .bool) : FieldOk enc P w base spare held t RdB := by
  intro n u y h _
  obtain ⟨x, hx, _⟩ := DataW.trod_bool ht h
  simp only [List.cons.injEq, and_true] at hx
  exact ⟨x, hx⟩
theorem fieldS {t : TypeId} (ht : P.underlying t = some .string) : FieldOk enc P w base spare held t RdS := by
  intro n u y h _
  obtain ⟨x, hx, _, hw⟩ := DataW.trod_string ht h
  simp only [List.cons.injEq, and_true] at hx
  exact ⟨x, hx, hw⟩

theorem fieldSr {t : TypeId} (ht : P.underlying t = some .string) : FieldOk enc P w base spare held t RdSr := by
  intro n u y h hwt
  obtain ⟨x, hx, hy, hw⟩ := DataW.trod_string ht h
  simp only [List.cons.injEq, and_true] at hx
  refine ⟨x, hx, ?_⟩
  rw [hy] at hwt
  have := hwt _ (by simp only [DataW.weights]; exact List.mem_cons_self ..)
  simpa using this

theorem weights_all {e : TypeId} : ∀ {ds : List (DataW H)} {d : DataW H}, d ∈ ds → ∀ n ∈ d.weights P e, n ∈ DataW.weightsAll P e ds
  | d0 :: ds, d, hd, n, hn => by
    simp only [DataW.weightsAll, List.mem_append]
    rcases List.mem_cons.1 hd with rfl | hd
    · exact .inl hn
    · exact .inr (weights_all hd n hn)

/-- What the reach says of a slice's datum. -/
theorem weights_slice {t e : TypeId} {el sp : List (DataW H)} (ht : P.underlying t = some (.slice e)) (h : ∀ n ∈ (DataW.slice el sp).weights P t, n ≤ reachBytes) :
    el.length * P.bytesOf e ≤ reachBytes ∧ ∀ d ∈ el, ∀ n ∈ d.weights P e, n ≤ reachBytes := by
  simp only [DataW.weights, ht] at h
  refine ⟨?_, fun d hd n hn => h n ?_⟩
  · have := h _ (List.mem_cons_self ..)
    rw [Nat.add_mul] at this
    omega
  · simp only [List.mem_cons, List.mem_append]
    exact .inr (.inl (weights_all hd n hn))

/-- A slice of one-cell elements. -/
theorem fieldSl1 {t e : TypeId} {p : Value → Prop} (ht : P.underlying t = some (.slice e)) (hc : P.cellsOf e = 1) (hp : FieldOk enc P w base spare held e p) : FieldOk enc P w base spare held t (RdSl w (P.bytesOf e) [p]) := by
  intro n u y h hwt
  rcases open_slice1 ht hc h with ⟨hu, _⟩ | ⟨a, len, cap, m, n', V, D, Pl, hu, hb, hl, hcap, hm, hx, hi⟩
  · simp only [List.cons.injEq, and_true] at hu
    exact ⟨none, 0, 0, hu, Nat.le_refl _, by simp [maxLen], by simp, .inl rfl⟩
  · simp only [List.cons.injEq, and_true] at hu
    have hlm : len ≤ m := by rw [hm]; split <;> omega
    rw [hx] at hwt
    obtain ⟨hw1, hw2⟩ := weights_slice ht hwt
    simp only [List.length_map, List.length_range] at hw1
    refine ⟨some a, len, cap, hu, hl, hcap, hw1, ?_⟩
    rcases Nat.eq_zero_or_pos len with h0 | h0
    · exact .inl h0
    · right
      have h00 := (hi 0 (by omega)).1
      have hs0 : a.add 0 = a := by simp [Addr.add]
      rw [hs0] at h00
      obtain ⟨hblk, hs⟩ := addr_of_cell h00
      refine ⟨a.block, a.off, by cases a; simp only at hs; subst hs; rfl, hblk, fun i hil j q hq => ?_⟩
      obtain ⟨hcell, htr⟩ := hi i (by omega)
      match j, hq with
      | 0, hq =>
        simp only [List.getElem?_cons_zero, Option.some.injEq] at hq
        subst hq
        rw [addr_eq hs] at hcell
        exact ⟨V i, by simpa using hcell, hp _ _ _ htr (hw2 (D i) (List.mem_map.2 ⟨i, by simpa using hil, rfl⟩))⟩
      | j + 1, hq => simp at hq

/-- A slice of structs of one-cell fields. -/
theorem fieldSlS {t e : TypeId} {fs : Array Field} {ps : List (Value → Prop)} (ht : P.underlying t = some (.slice e)) (he : P.underlying e = some (.struct fs)) (hone : oneCellFields P fs = true) (hC : P.cellsOf e = fs.size)
    (hz : 0 < fs.size) (hlen : ps.length = fs.size) (hp : ∀ (j : Nat) (f : Field) (q : Value → Prop), fs[j]? = some f → ps[j]? = some q → FieldOk enc P w base spare held f.type q) : FieldOk enc P w base spare held t (RdSl w (P.bytesOf e) ps) := by
  intro n u y h hwt
  rcases open_slice ht h with ⟨hu, _⟩ | ⟨a, len, cap, m, n', D, Pl, hu, hb, hl, hcap, hm, hx, hi⟩
  · simp only [List.cons.injEq, and_true] at hu
    exact ⟨none, 0, 0, hu, Nat.le_refl _, by simp [maxLen], by simp, .inl rfl⟩
  · simp only [List.cons.injEq, and_true] at hu
    have hlm : len ≤ m := by rw [hm]; split <;> omega
    rw [hx] at hwt
    obtain ⟨hw1, hw2⟩ := weights_slice ht hwt
    simp only [List.length_map, List.length_range] at hw1
    refine ⟨some a, len, cap, hu, hl, hcap, hw1, ?_⟩
    have hel : ∀ i, i < len → ∀ j f q, fs[j]? = some f → ps[j]? = some q → ∃ u, w.cell? (a.add (i * fs.size + j)) = some u ∧ q u := by
      intro i hil j f q hf hq
      obtain ⟨cs', hcs, htr⟩ := hi i (by omega)
      rw [hC] at hcs
      obtain ⟨xs, n2, _, hag, hl2, hxl, hfl⟩ := DataW.trod_struct he htr
      obtain ⟨_, hcl, hat⟩ := World.cells?_some hcs
      obtain ⟨ho, hk⟩ := hone_of hone j f hf
      have hjl : j < fs.size := (Array.getElem?_eq_some_iff.1 hf).1
      have h1 := hfl j f hf
      rw [ho, hk] at h1
      have hone' : (cs'.drop j).take 1 = [cs'[j]'(by omega)] := by
        rw [List.drop_eq_getElem_cons (by omega)]; rfl
      rw [hone'] at h1
      have hcell := hat j hjl
      rw [List.getElem?_eq_getElem (by omega)] at hcell h1
      refine ⟨_, by rw [← Go.Deep.add_add]; exact hcell, hp j f q hf hq _ _ _ h1 (fun m' hm' => ?_)⟩
      have hD : D i = .agg (xs.map (·.1)) := (Prod.mk.inj hag).1
      have hDi := hw2 (D i) (List.mem_map.2 ⟨i, by simpa using hil, rfl⟩)
      rw [hD] at hDi
      simp only [DataW.weights, he] at hDi
      refine hDi m' (DataW.weights_mem_each (j := j) (t := f.type) (d := (xs[j]'(by omega)).1) ?_ ?_ m' hm')
      · simp [hf]
      · simp only [List.getElem?_map, List.getElem?_eq_getElem (show j < xs.length by omega), Option.map_some]
    rcases Nat.eq_zero_or_pos len with h0 | h0
    · exact .inl h0
    · right
      have hf0 : fs[0]? = some (fs[0]'hz) := Array.getElem?_eq_getElem hz
      have hq0 : ps[0]? = some (ps[0]'(by omega)) := List.getElem?_eq_getElem (by omega)
      obtain ⟨u0, hu0, _⟩ := hel 0 h0 0 _ _ hf0 hq0
      rw [Nat.zero_mul, Nat.zero_add] at hu0
      have hs0 : a.add 0 = a := by simp [Addr.add]
      rw [hs0] at hu0
      obtain ⟨hblk, hs⟩ := addr_of_cell hu0
      refine ⟨a.block, a.off, by cases a; simp only at hs; subst hs; rfl, hblk, fun i hil j q hq => ?_⟩
      have hjl : j < ps.length := (List.getElem?_eq_some_iff.1 hq).1
      have hfj : fs[j]? = some (fs[j]'(by omega)) := Array.getElem?_eq_getElem (by omega)
      obtain ⟨u, hu, hq'⟩ := hel i hil j _ q hfj hq
      rw [addr_eq hs] at hu
      exact ⟨u, by rw [hlen, Nat.add_assoc]; exact hu, hq'⟩

set_option maxRecDepth 100000 in
theorem SlArg.rd {T E : TypeId} {W : World} {v : Value} {B : Nat} {ps : List (Value → Prop)} (ht : Try.prog.underlying T = some (.slice E)) (h : SlArg T W v)
    (hp : ∀ (H : Type) (enc : TypeId × Value → H), FieldOk enc Try.prog W 0 (fun _ => true) true T (RdSl W B ps)) : RdSl W B ps v := by
  obtain ⟨H, enc, base, d, q, hok, ⟨fuel, hf⟩, hwt⟩ := h
  obtain ⟨A, len, cap, rfl⟩ := okWide_slice ht hok
  exact hp H enc fuel _ (d, q) (by simpa [Value.cells] using hf) hwt
end
end Go.Proofs.Ytbkpapdbidbhaaa
