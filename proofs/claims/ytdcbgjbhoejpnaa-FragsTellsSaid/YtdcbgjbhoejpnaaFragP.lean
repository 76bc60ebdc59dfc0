/-
  argosylaw19: what a whole holds of a message (plain part); its arguments.
-/
import Derived.Test.YtdcbgjbhoejpnaaFragKn
import Derived.Test.YtdcbgjbhoejpnaaArgs
namespace Go.Proofs.Ytdcbgjbhoejpnaa
open Go.RowKit

theorem putD_get {d p : List UInt8} {off : Nat} (h : off + p.length ≤ d.length) (j : Nat) : (putD d off p)[j]? = if off ≤ j ∧ j < off + p.length then p[j - off]? else d[j]? := by
  have hl : (d.take off).length = off := by rw [List.length_take]; omega
  unfold putD
  by_cases h1 : j < off
  · rw [if_neg (by omega), List.getElem?_append_left (by omega), List.getElem?_take, if_pos h1]
  · rw [List.getElem?_append_right (by omega), hl]
    by_cases h2 : j < off + p.length
    · rw [if_pos (by omega), List.getElem?_append_left (by omega)]
    · rw [if_neg (by omega), List.getElem?_append_right (by omega), List.getElem?_drop]
      congr 1
      omega
/-- The bytes d are those of B in the pieces L. -/
def Good (B d : List UInt8) (n : Nat) (L : List Pr) : Prop := ∀ k : Nat, InL L (k : Int) → ∀ j, k * 80 ≤ j → j < k * 80 + 80 → j < n → d[j]? = B[j]?
theorem good_nil (B d : List UInt8) (n : Nat) : Good B d n [] := fun _ h => absurd h (inl_nil _)
theorem pieceD_at {B : List UInt8} {k m j : Nat} (h1 : k * 80 ≤ j) (h2 : j < k * 80 + m) : (pieceD B k m)[j - k * 80]? = B[j]? := by
  unfold pieceD
  rw [List.getElem?_take, if_pos (by omega), List.getElem?_drop]
  congr 1
  omega
theorem good_put {B d : List UInt8} {n k m : Nat} {L L' : List Pr} (h : Good B d n L) (hd : d.length = n) (hB : B.length = n) (hkn : k * 80 < n) (hm : m = min 80 (n - k * 80)) (hI : ∀ j, InL L' j ↔ InL L j ∨ j = k) :
    Good B (if L.any (hasP (k : Int)) = true then d else putD d (k * 80) (pieceD B k m)) n L' := by
  intro q hq j h1 h2 h3
  by_cases ha : L.any (hasP (k : Int)) = true
  · rw [if_pos ha]
    rcases (hI q).1 hq with h4 | h4
    · exact h q h4 j h1 h2 h3
    · obtain rfl : q = k := by omega
      exact h q ((has_iff L _).1 ha) j h1 h2 h3
  · rw [if_neg ha]
    have hpl : (pieceD B k m).length = m := pieceD_len (by omega)
    rw [putD_get (by rw [hpl]; omega), hpl]
    by_cases hj : k * 80 ≤ j ∧ j < k * 80 + m
    · rw [if_pos hj, pieceD_at hj.1 hj.2]
    · rw [if_neg hj]
      rcases (hI q).1 hq with h4 | h4
      · exact h q h4 j h1 h2 h3
      · obtain rfl : q = k := by omega
        exact absurd ⟨h1, by omega⟩ hj
theorem good_all {B d : List UInt8} {n : Nat} {L : List Pr} (h : Good B d n L) (hd : d.length = n) (hB : B.length = n) (hall : ∀ k : Nat, k * 80 < n → InL L k) : d = B := by
  apply List.ext_getElem?
  intro j
  by_cases hj : j < n
  · exact h (j / 80) (hall _ (by omega)) j (by omega) (by omega) hj
  · rw [List.getElem?_eq_none (by omega), List.getElem?_eq_none (by omega)]

/-- A slice of bytes among the arguments. -/
def RdBy (w : World) (v : Value) : Prop := ∃ A d cap, v = .slice A d.length cap ∧ Bs w v d ∧ d.length ≤ cap ∧ cap ≤ maxLen ∧ (A = none → cap = 0) ∧ (0 < d.length → ∃ b off, A = some ⟨b, off, none⟩ ∧ b < w.heap.size) ∧ d.length ≤ reachBytes
theorem by_of_rd {w : World} {A : Option Addr} {len cap : Nat} (h : RdSl w 1 [RdU8] (.slice A len cap)) (hA : A = none → cap = 0) : RdBy w (.slice A len cap) := by
  obtain ⟨A', len', cap', hv, hlc, hcm, hr, hc⟩ := h
  cases hv
  rcases hc with rfl | ⟨b, off, rfl, hb, hcell⟩
  · refine ⟨A, [], cap, rfl, ?_, hlc, hcm, hA, fun h => by simp at h, by simp⟩
    cases A with
    | none => rw [hA rfl]; exact Bs.nil _
    | some a => exact ⟨rfl, encB_one _, .inr ⟨a, cap, rfl, fun j u hj => by simp [encB] at hj⟩⟩
  · have hex : ∀ i, ∃ c : UInt8, i < len → w.cell? ⟨b, off + i, none⟩ = some (.int .u8 (c.toNat : Int)) := fun i => by
      by_cases hi : i < len
      · obtain ⟨u, hu, x, rfl, x0, x1⟩ := hcell i hi 0 RdU8 rfl
        refine ⟨UInt8.ofNat x.toNat, fun _ => ?_⟩
        rw [UInt8.toNat_ofNat', Nat.mod_eq_of_lt (by omega), Int.toNat_of_nonneg x0]
        simpa using hu
      · exact ⟨0, fun h => absurd h hi⟩
    have hdl : ((List.range len).map (fun i => (hex i).choose)).length = len := by simp
    refine ⟨some ⟨b, off, none⟩, (List.range len).map (fun i => (hex i).choose), cap, by rw [hdl], ⟨by rw [encB_len, Nat.mul_one], encB_one _, .inr ⟨⟨b, off, none⟩, cap, by rw [hdl], fun j u hj => ?_⟩⟩, by rw [hdl]; exact hlc, hcm, (fun h => by cases h), (fun _ => ⟨b, off, rfl, hb⟩), by rw [hdl]; omega⟩
    have hjl : j < len := by
      have := (List.getElem?_eq_some_iff.1 hj).1
      rw [encB_len, hdl] at this
      exact this
    rw [Addr.add_lit, (hex j).choose_spec hjl, ← hj]
    simp [encB, hjl]

section
open Go.ChangeShapes Go.WideShapes Go.ChangeAt Go.Deep
theorem fieldBy {H : Type} {enc : TypeId × Value → H} {P : Program} {w : World} {base : Nat} {spare : Nat → Bool} {held : Bool} {t e : TypeId} (ht : P.underlying t = some (.slice e)) (hc : P.cellsOf e = 1) (hb : P.bytesOf e = 1) (he : P.underlying e = some (.int .u8)) :
    FieldOk enc P w base spare held t (RdBy w) := by
  intro n u y h hwt
  have hrd := fieldSl1 ht hc (fieldU8 he) n u y h hwt
  rw [hb] at hrd
  rcases open_slice1 ht hc h with ⟨hu, _⟩ | ⟨a, len, cap, m, n', V, D, Pl, hu, _⟩
  · simp only [List.cons.injEq, and_true] at hu
    subst hu
    exact by_of_rd hrd (fun _ => rfl)
  · simp only [List.cons.injEq, and_true] at hu
    subst hu
    exact by_of_rd hrd (fun h => by cases h)
end

section
open Go.ChangeShapes Go.WideShapes Go.ChangeAt Go.Deep
theorem SlArg.gen {T E : TypeId} {W : World} {v : Value} {p : Value → Prop} (ht : Try.prog.underlying T = some (.slice E)) (h : SlArg T W v)
    (hp : ∀ (H : Type) (enc : TypeId × Value → H), FieldOk enc Try.prog W 0 (fun _ => true) true T p) : p v := by
  obtain ⟨H, enc, base, d, q, hok, ⟨fuel, hf⟩, hwt⟩ := h
  obtain ⟨A, len, cap, rfl⟩ := okWide_slice ht hok
  exact hp H enc fuel _ (d, q) (by simpa [Value.cells] using hf) hwt
end
theorem bytes_rd {W : World} {v : Value} (h : SlArg 54 W v) : RdBy W v := h.gen Try.underlying54 fun H enc => fieldBy Try.underlying54 (by kernel_rfl) (by kernel_rfl) Try.underlying5
theorem rawInts_rd {W : World} {v : Value} (h : SlArg 22 W v) : RdSl W 8 [RdI] v := by
  have hB : Try.prog.bytesOf 3 = 8 := by kernel_rfl
  rw [← hB]
  exact h.rd Try.underlying22 fun H enc => fieldSl1 Try.underlying22 (by kernel_rfl) (fieldI Try.underlying3)
theorem bs_kp {W w : World} {A : Option Addr} {d : List UInt8} {cap : Nat} (h : Bs W (.slice A d.length cap) d) (hk : Kp (fun _ => False) W w) : Bs w (.slice A d.length cap) d := h.kp hk (fun _ _ h => h)

theorem cB_insert {p q : Nat → Bool} {k : Nat} (hq : ∀ j, q j = (p j || decide (j = k))) (hp : p k = false) : ∀ N, cB q N = cB p N + (if k < N then 1 else 0)
  | 0 => rfl
  | N + 1 => by
    rw [cB, cB, cB_insert hq hp N, hq N]
    by_cases h1 : N = k
    · subst h1
      rw [hp]
      simp
    · rw [decide_eq_false h1, Bool.or_false]
      by_cases h2 : k < N
      · have h3 : k < N + 1 := by omega
        simp only [h2, h3, if_true]
        omega
      · have h3 : ¬ k < N + 1 := by omega
        simp only [h2, h3, if_false]
        omega
theorem cB_full {p : Nat → Bool} : ∀ N, cB p N = N ↔ ∀ k, k < N → p k = true
  | 0 => ⟨fun _ k h => by omega, fun _ => rfl⟩
  | N + 1 => by
    have h1 := cB_le p N
    rw [cB]
    constructor
    · intro h k hk
      by_cases hp : p N = true
      · rw [if_pos hp] at h
        by_cases hkN : k = N
        · rw [hkN]; exact hp
        · exact (cB_full N).1 (by omega) k (by omega)
      · rw [if_neg hp] at h
        omega
    · intro h
      rw [if_pos (h N (by omega)), (cB_full N).2 (fun k hk => h k (by omega))]
theorem cB_ext {p : Nat → Bool} {N : Nat} (h : ∀ k, N ≤ k → p k = false) : ∀ M, N ≤ M → cB p M = cB p N
  | 0, hM => by rw [show N = 0 by omega]
  | M + 1, hM => by
    by_cases hN : N = M + 1
    · rw [hN]
    · rw [cB, cB_ext h M (by omega), h M (by omega)]
      simp
def boolA (bs : List Bool) : Array Value := (bs.map Value.bool).toArray
theorem boolA_get (bs : List Bool) (i : Nat) : (boolA bs)[i]? = (bs[i]?).map Value.bool := by simp [boolA]
theorem boolA_set (bs : List Bool) (i : Nat) (x : Bool) : (boolA bs).setIfInBounds i (.bool x) = boolA (bs.set i x) := by
  unfold boolA
  rw [List.map_set]
  simp
theorem infoBo : (Try.prog.info? 4).map (fun i => (i.zero, i.size, i.bytes)) = some (some (.bool false), 1, 1) := by kernel_rfl
theorem made_bo (n : Nat) : madeCells (Value.bool false).cells n = boolA (List.replicate n false) := by
  apply Array.ext_getElem?
  intro i
  simp only [madeCells, boolA, List.getElem?_toArray, List.getElem?_map, Array.getElem?_map]
  by_cases hi : i < n
  · simp [hi, Value.cells, Nat.mod_one]
  · simp [hi]
theorem make_bo (n : Nat) (hn : n ≤ 1000) (w : World) : (Instr.makeSlice 69 (.int .i64 (n : Int)) (.int .i64 (n : Int))).run Try.prog w = .ok (.slice (some ⟨w.heap.size, 0, none⟩) n n) (w.alloc (.cells (boolA (List.replicate n false)) 4)) := by
  obtain ⟨i0, hi, hz0, hz1, hz2⟩ := info_parts infoBo
  have hr := run_make (P := Try.prog) w 69 4 i0 _ Try.underlying69 hi hz0 .i64 .i64 n n (by omega) (by omega) (by rw [hz2]; omega) (by omega)
  rw [hz1] at hr
  simp only [Int.toNat_natCast, Nat.mul_one, made_bo] at hr
  exact hr
/-- The count is the head's, where all came. -/
theorem count_full {L : List Pr} {bs : List Bool} {ct : Nat} (hN : NormL 8 L) (hc8 : ct ≤ 8) (hbl : bs.length = ct) (hI : ∀ k : Nat, InL L (k : Int) ↔ bs[k]? = some true) :
    (((cB (fun k => L.any (hasP (k : Int))) 8 : Nat) : Int) == (ct : Int)) = fullB L (ct : Int) := by
  rw [cB_ext (N := ct) (fun k hk => by
    rw [Bool.eq_false_iff]
    intro h
    have := (hI k).1 ((has_iff L _).1 h)
    rw [List.getElem?_eq_none (by omega)] at this
    cases this) 8 hc8, Bool.eq_iff_iff, full_iff hN (by omega) (by omega)]
  simp only [beq_iff_eq]
  constructor
  · intro h k hk
    exact (has_iff L _).1 ((cB_full (p := fun k => L.any (hasP (k : Int))) ct).1 (by omega) k (by omega))
  · intro h
    have := (cB_full (p := fun k => L.any (hasP (k : Int))) ct).2 (fun k hk => (has_iff L _).2 (h k (by omega)))
    omega
end Go.Proofs.Ytdcbgjbhoejpnaa
