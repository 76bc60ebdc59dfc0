/-
  'LedgerLate', its plain part: which packets are lost.
-/
import Derived.Test.YtelhnhnbfjamhaaLedgerKn
import Derived.Laws.MakeOwn
namespace Go.Proofs.Ytelhnhnbfjamhaa
open Go.RowKit

/-- Packets 0 and so on, each of its own time. -/
def seqS (n : Nat) : List St := (List.range n).map fun (k : Nat) => ((k : Int), (k : Int), true)
theorem seqS_len (n : Nat) : (seqS n).length = n := by simp [seqS]
theorem seqS_snoc (n : Nat) : seqS (n + 1) = seqS n ++ [((n : Int), (n : Int), true)] := by simp [seqS, List.range_succ]
theorem seqS_mem {n : Nat} {z : St} (h : z ∈ seqS n) : ∃ k : Nat, k < n ∧ z = ((k : Int), (k : Int), true) := by
  obtain ⟨k, hk, rfl⟩ := List.mem_map.1 h
  exact ⟨k, List.mem_range.1 hk, rfl⟩
theorem seqS_in {n k : Nat} (h : k < n) : ((k : Int), (k : Int), true) ∈ seqS n := List.mem_map.2 ⟨k, List.mem_range.2 h, rfl⟩

theorem hit_one (a : Nat) (z : St) : hitS [((a : Int), (a : Int))] z = decide (z.1 = (a : Int)) := by
  simp only [hitS, hitP, List.any_cons, List.any_nil, Bool.or_false]
  by_cases h : z.1 = (a : Int)
  · rw [h]
    simp
  · rw [decide_eq_false h]
    by_cases h1 : (a : Int) ≤ z.1
    · rw [decide_eq_false (p := z.1 ≤ (a : Int)) (by omega)]
      simp
    · rw [decide_eq_false h1]
      simp
theorem hit_count (a : Nat) : ∀ n : Nat, ((seqS n).filter (hitS [((a : Int), (a : Int))])).length = if a < n then 1 else 0 := by
  intro n
  induction n with
  | zero => simp [seqS]
  | succ n ih =>
    rw [seqS_snoc, List.filter_append, List.length_append, ih]
    simp only [List.filter_cons, List.filter_nil, hit_one]
    by_cases h : (n : Int) = (a : Int)
    · have : n = a := by omega
      subst this
      simp
    · simp only [h, decide_false]
      have e : (if a < n + 1 then 1 else 0 : Nat) = if a < n then 1 else 0 := by
        by_cases h2 : a < n
        · rw [if_pos h2, if_pos (show a < n + 1 by omega)]
        · rw [if_neg h2, if_neg (show ¬ a < n + 1 by omega)]
      rw [e]
      simp
theorem parts_len {α : Type} (p : α → Bool) (l : List α) : (l.filter p).length + (l.filter fun z => !p z).length = l.length := by
  induction l with
  | nil => rfl
  | cons x l ih =>
    simp only [List.filter_cons]
    cases p x <;> simp <;> omega

/-- Those that are not acknowledged. -/
def leftS (n a : Nat) : List St := (seqS n).filter fun z => !hitS [((a : Int), (a : Int))] z
theorem leftS_len {n a : Nat} (h : a < n) : (leftS n a).length = n - 1 := by
  have h1 := parts_len (hitS [((a : Int), (a : Int))]) (seqS n)
  rw [hit_count, if_pos h, seqS_len] at h1
  rw [leftS]
  omega
theorem lost_any {n a k : Nat} (hk : k < n) (nw L : Int) :
    ((leftS n a).filter (lostS ((a : Int) + 1) nw L)).any (fun y => y.1 == (k : Int)) = lostS ((a : Int) + 1) nw L ((k : Int), (k : Int), true) := by
  rw [Bool.eq_iff_iff]
  constructor
  · intro h
    obtain ⟨y, hy, he⟩ := List.any_eq_true.1 h
    obtain ⟨hy1, hy2⟩ := List.mem_filter.1 hy
    obtain ⟨j, _, rfl⟩ := seqS_mem (List.mem_filter.1 hy1).1
    have : j = k := by have h0 : (j : Int) = (k : Int) := by simpa using he
                       omega
    subst this
    exact hy2
  · intro h
    refine List.any_eq_true.2 ⟨((k : Int), (k : Int), true), List.mem_filter.2 ⟨List.mem_filter.2 ⟨seqS_in hk, ?_⟩, h⟩, by simp⟩
    have h1 : (k : Int) < (a : Int) := by
      simp only [lostS, Bool.and_eq_true, decide_eq_true_eq] at h
      omega
    rw [hit_one, decide_eq_false (by dsimp only; omega)]
    rfl
theorem lost_mem {n a : Nat} {nw L : Int} {y : St} (h : y ∈ (leftS n a).filter (lostS ((a : Int) + 1) nw L)) : ∃ k : Nat, k < n ∧ y = ((k : Int), (k : Int), true) :=
  seqS_mem (List.mem_filter.1 (List.mem_filter.1 h).1).1
theorem again_nil (p : St → Bool) (l : List St) : (l.filter fun z => !p z).filter p = [] := by
  rw [List.filter_filter]
  exact List.filter_eq_nil_iff.2 (fun z _ => by cases p z <;> simp)
theorem again_id (p : St → Bool) (l : List St) : ((l.filter fun z => !p z).filter fun z => !p z) = l.filter fun z => !p z := by
  rw [List.filter_filter]
  congr 1
  funext z
  cases p z <;> rfl
theorem left_all {n a : Nat} (p : St → Bool) : (((leftS n a).filter p).filter fun z => z.2.2) = (leftS n a).filter p := by
  refine List.filter_eq_self.2 (fun z hz => ?_)
  obtain ⟨k, _, rfl⟩ := seqS_mem (List.mem_filter.1 (List.mem_filter.1 hz).1).1
  rfl

/-- Which were told, cell by cell. -/
def hadL (n : Nat) (l : List St) : List Value := (List.range n).map fun (k : Nat) => .bool (l.any fun y => y.1 == (k : Int))
theorem hadL_at {n k : Nat} (h : k < n) (l : List St) : (hadL n l).toArray[k]? = some (.bool (l.any fun y => y.1 == (k : Int))) := by
  simp [hadL, h]
theorem hadL_set {n k : Nat} (l : List St) (y : St) (hy : y.1 = (k : Int)) : (hadL n l).toArray.setIfInBounds k (.bool true) = (hadL n (l ++ [y])).toArray := by
  apply Array.ext_getElem?
  intro i
  rw [Array.getElem?_setIfInBounds]
  simp only [List.getElem?_toArray, hadL, List.getElem?_map, List.any_append, List.any_cons, List.any_nil, Bool.or_false, hy]
  by_cases hi : i < n
  · rw [List.getElem?_range hi]
    by_cases hk : k = i
    · subst hk
      simp [hi]
    · rw [if_neg hk]
      have : ((k : Int) == (i : Int)) = false := by simp; omega
      simp only [Option.map_some, this, Bool.or_false]
  · have h1 : (List.range n)[i]? = none := by simp; omega
    rw [h1]
    split
    · simp; omega
    · rfl
theorem infoBo : (Try.prog.info? 4).map (fun i => (i.zero, i.size, i.bytes)) = some (some (.bool false), 1, 1) := by kernel_rfl
theorem made_had (n : Nat) : madeCells (Value.bool false).cells n = (hadL n []).toArray := by
  apply Array.ext_getElem?
  intro i
  simp only [madeCells, hadL, List.getElem?_toArray, List.getElem?_map, List.any_nil, Array.getElem?_map]
  by_cases hi : i < n
  · simp [hi, Value.cells, Nat.mod_one]
  · simp [hi]
theorem make_had (n : Nat) (hn : n ≤ 1000) (w : World) : (Instr.makeSlice 87 (.int .i64 (n : Int)) (.int .i64 (n : Int))).run Try.prog w = .ok (.slice (some ⟨w.heap.size, 0, none⟩) n n) (w.alloc (.cells (hadL n []).toArray 4)) := by
  obtain ⟨i0, hi, hz0, hz1, hz2⟩ := info_parts infoBo
  have hr := run_make (P := Try.prog) w 87 4 i0 _ Try.underlying87 hi hz0 .i64 .i64 n n (by omega) (by omega) (by rw [hz2]; omega) (by omega)
  rw [hz1] at hr
  simp only [Int.toNat_natCast, Nat.mul_one, made_had] at hr
  exact hr
end Go.Proofs.Ytelhnhnbfjamhaa
