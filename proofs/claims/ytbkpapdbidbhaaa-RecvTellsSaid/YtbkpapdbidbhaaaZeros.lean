/-
  append of so many zeros ('append(b, make([]byte, n)...)'), and copy inside a drawn region, beside other blocks.
-/
import Derived.Test.YtbkpapdbidbhaaaRow2
import Derived.Test.YtbkpapdbidbhaaaBytes
import Derived.Laws.CopyOwn
import Derived.Deep.DeepAppendWide
namespace Go.Proofs.Ytbkpapdbidbhaaa
open Go.RowKit

section
variable {P : Program} (w : World)
theorem app_zeros (base : Nat) (t ti ty e : TypeId) (i : TypeInfo) (ht : P.underlying t = some (.slice e)) (hti : P.underlying ti = some (.int .i64)) (hi : P.info? e = some i) (hz : i.zero = some (.int .u8 0))
    (hsize : i.size = 1) (hby : i.bytes = 1) (v : Value) (n : Nat) (xs : List Value) (hown : w.ownsRow base e 1 v n xs) (k : Nat) (hk1 : 1 ≤ k) (hnk : n + k ≤ 225000000000000) (hbase : base ≤ w.heap.size) :
    ∃ v' w', (Builtin.append_ #[t, ti] ty #[v, .int .i64 (k : Int)]).run P w = .ok v' w' ∧ w'.ownsRow base e 1 v' (n + k) (xs ++ List.replicate k (.int .u8 0)) ∧ w.grownBy w' v.ownBlock ∧ Near w v v' := by
  have hwr : IntKind.i64.wrap (k : Int) = (k : Int) := IntWalk.i64_in _ (by omega)
  have hn0 : ¬ ((k : Int) < 0) := by omega
  have h48k : ¬ ((281474976710656 : Int) < (k : Int)) := by omega
  have hk0 : ¬ k = 0 := by omega
  have hzc : Builtin.zeroCells (Value.int .u8 0).cells k = (List.replicate k (Value.int .u8 0)).toArray := by
    apply Array.ext_getElem?
    intro j
    simp only [Builtin.zeroCells, List.getElem?_toArray, Array.getElem?_map]
    by_cases hj : j < k
    · simp [hj, Value.cells, Nat.mod_one]
    · simp [hj, Value.cells]
  have hlen : (xs ++ List.replicate k (Value.int .u8 0)).length = (n + k) * 1 := by rw [List.length_append, hown.1, List.length_replicate]; omega
  have hsmall : n + k ≤ maxLen := by unfold maxLen; omega
  have grown : ∀ (old : Nat), old < n + k → ∀ (row : Option Nat),
      (w.drew.alloc (.cells (xs.toArray ++ (List.replicate k (Value.int .u8 0)).toArray ++ Builtin.zeroCells (Value.int .u8 0).cells (grownCap w (n + k) old e - (n + k))) e)).ownsRow base e 1
        (.slice (some ⟨w.heap.size, 0, none⟩) (n + k) (grownCap w (n + k) old e)) (n + k) (xs ++ List.replicate k (Value.int .u8 0)) ∧
      w.grownBy (w.drew.alloc (.cells (xs.toArray ++ (List.replicate k (Value.int .u8 0)).toArray ++ Builtin.zeroCells (Value.int .u8 0).cells (grownCap w (n + k) old e - (n + k))) e)) row := by
    intro old ho row
    have hge := grownCap_ge w (n + k) old e
    have hcm : grownCap w (n + k) old e ≤ maxLen := grownCap_le_maxLen w (n + k) old e hsmall
    refine ⟨⟨hlen, .inr ⟨w.heap.size, _, _, rfl, hbase, heap_alloc_new w.drew _, hge, hcm, ?_, ?_⟩⟩, ⟨rfl, rfl, rfl, by simp, fun k hk _ => heap_alloc_old w.drew _ hk⟩⟩
    · have h1 : (Value.int IntKind.u8 0).cells.size = 1 := rfl
      have h2 := hown.1
      simp only [Array.size_append, List.size_toArray, size_zeroCells, h1, List.length_replicate]
      omega
    · simp only [Array.toList_append, List.append_assoc]
      rw [← List.append_assoc, ← hlen]
      exact List.take_left
  have hcap : ∀ old, old < n + k → ¬ (281474976710656 < Builtin.nextslicecap (n + k) old) := fun old ho => by
    have := growslice_fits_wide (bytes := 1) ho (by omega)
    omega
  have h63 : ¬ (9223372036854775807 < ((n : Int) + (k : Int))) := by omega
  rcases hown.2 with ⟨rfl, rfl⟩ | ⟨g, cap, cur, rfl, hbg, hg, hnc, hcm, hcs, htake⟩
  · obtain rfl : xs = [] := List.eq_nil_of_length_eq_zero (by simpa using hown.1)
    have hgr := grown 0 (by omega) (Value.ownBlock (.slice none 0 0))
    have hc0 := hcap 0 (by omega)
    simp only [Nat.zero_add, List.nil_append, Array.empty_append, Int.cast_ofNat_Int] at hgr hc0 h63 ⊢
    refine ⟨_, _, ?_, hgr.1, hgr.2, .inr fun j hj => by have : w.heap.size = j := Option.some.inj hj; omega⟩
    have h63' : ¬ (9223372036854775807 < (k : Int)) := by omega
    simp [Builtin.append_, run_underlying ht, run_underlying hti, sizeOf, typeInfo, zeroValue, hi, hz, hsize, hby, Builtin.firstCells, asInt, asIntOf, hwr, hn0, hk0, h48k, h63', hc0, Question.forced, newRow, grownCap, hzc]
  · have hcells : ∀ j u, xs[j]? = some u → w.cell? ((⟨g, 0, none⟩ : Addr).add j) = some u := hown.cells (g := g) rfl
    by_cases hroom : n + k ≤ cap
    · have hfit : n * 1 + (List.replicate k (Value.int .u8 0)).length ≤ cur.size := by rw [hcs, List.length_replicate]; omega
      have hst := run_storeCells_at P g (n * 1) e (List.replicate k (Value.int .u8 0)) 0 cur w hg (by simpa using hfit) (fun u hu => by rw [List.eq_of_mem_replicate hu]; rfl)
      simp only [Nat.add_zero] at hst
      have hrun : (Builtin.append_ #[t, ti] ty #[.slice (some ⟨g, 0, none⟩) n cap, .int .i64 (k : Int)]).run P w = .ok (.slice (some ⟨g, 0, none⟩) (n + k) cap) (w.setRow g (cur.toList.take (n * 1) ++ List.replicate k (Value.int .u8 0) ++ cur.toList.drop (n * 1 + (List.replicate k (Value.int .u8 0)).length)).toArray) := by
        have hst' := hst
        simp only [Nat.mul_one] at hst' ⊢
        simp [Builtin.append_, run_underlying ht, run_underlying hti, sizeOf, typeInfo, zeroValue, hi, hz, hsize, hby, asInt, asIntOf, hwr, hn0, hk0, h48k, hroom, hzc, Addr.add_lit, hst']
      refine ⟨_, _, hrun, ⟨hlen, .inr ⟨g, cap, _, rfl, hbg, setRow_heap w g cur _ e _ hg, hroom, hcm, ?_, ?_⟩⟩, ⟨rfl, rfl, rfl, by simp, fun k _ hk => setRow_other w g k _ (fun e => hk (by simp [Value.ownBlock, e]))⟩, .inl rfl⟩
      · simp only [List.size_toArray, List.length_append, List.length_take, List.length_drop, Array.length_toList]
        simp only [List.length_replicate] at hfit ⊢
        omega
      · rw [htake, ← hlen]
        exact List.take_left
    · have hfo := run_firstCells_some (P := P) w.drew i.size n ⟨g, 0, none⟩ n cap xs (by rw [hsize]; exact hown.1) (by simpa using hcells)
      rw [hsize] at hfo
      have hgr := grown cap (by omega) (Value.ownBlock (.slice (some ⟨g, 0, none⟩) n cap))
      have hcc := hcap cap (by omega)
      refine ⟨_, _, ?_, hgr.1, hgr.2, .inr fun j hj => by have : w.heap.size = j := Option.some.inj hj; omega⟩
      have hn : ¬ (n + k ≤ cap) := hroom
      simp [Builtin.append_, run_underlying ht, run_underlying hti, sizeOf, typeInfo, zeroValue, hi, hz, hsize, hby, asInt, asIntOf, hwr, hn0, hk0, h48k, h63, hcc, hn, Question.forced, newRow, grownCap, hzc, hfo]
end

theorem wpList_zeros {P : Program} {w : World} {ops : Array Oper} {rest : List Oper} {o : Oper} {a : Act} {Q : Exit → Act → World → Prop}
    (hg : o.guard = none) (s x : Operand) (t ti : TypeId) (hop : o.op = Op.call { callee := Callee.builtin Builtin.append, args := #[s, x], argTypes := #[t, ti] })
    (base : Nat) (e : TypeId) (i : TypeInfo) (ht : P.underlying t = some (.slice e)) (hti : P.underlying ti = some (.int .i64)) (hi : P.info? e = some i) (hz : i.zero = some (.int .u8 0))
    (hsize : i.size = 1) (hby : i.bytes = 1) (v : Value) (n : Nat) (xs : List Value) (hs : a.eval s = v) (hown : w.ownsRow base e 1 v n xs) (k : Nat) (hxe : a.eval x = .int .i64 (k : Int)) (hk1 : 1 ≤ k) (hnk : n + k ≤ 225000000000000) (hbase : base ≤ w.heap.size)
    (h : ∀ v' w', w'.ownsRow base e 1 v' (n + k) (xs ++ List.replicate k (.int .u8 0)) → w.grownBy w' v.ownBlock → Near w v v' → wpList P ops Q rest (a.put o.dst v') w') :
    wpList P ops Q (o :: rest) a w := by
  refine wpList_plain hg fun K hK' => ?_
  obtain ⟨v', w', hrun, r1, r2, r3⟩ := app_zeros (P := P) w base t ti o.type e i ht hti hi hz hsize hby v n xs hown k hk1 hnk hbase
  unfold Oper.wp
  simp [execOp, hop, resolve, invoke, builtin, hs, hxe, hrun, Result.andThen]
  exact hK' _ _ (h v' w' r1 r2 r3)

/-- copy in a drawn region, into a block that is known whole: nothing else turns. -/
theorem step_copy_at {P : Program} {ops : Array Oper} {o : Oper} {a : Act} {w : World} {K : Act → World → Prop} {Q : Exit → Act → World → Prop} {E : Prop} (hgd : o.guard = none) (d s : Operand) (dT sT : TypeId)
    (ho : o.op = .call { callee := .builtin .copy, args := #[d, s], argTypes := #[dT, sT] }) (elem : TypeId) (hu : P.underlying dT = some (.slice elem)) (hsz : (P.info? elem).map (·.size) = some 1)
    (g off dLen dCap : Nat) (ad : Addr) (sLen sCap : Nat) (hd : a.eval d = .slice (some ⟨g, off, none⟩) dLen dCap) (hs : a.eval s = .slice (some ad) sLen sCap)
    (cur : List Value) (t : TypeId) (hg : Whole w g t cur.toArray) (cs : List Value) (hn : cs.length = Nat.min sLen dLen)
    (hsrc : ∀ j v, cs[j]? = some v → w.cell? (ad.add j) = some v) (hfit : off + cs.length ≤ cur.length) (h1 : ∀ v ∈ cs, v.oneCell' = true)
    (h : ∀ w', Whole w' g t (splice cur off cs).toArray → Kp (fun k => k = g) w w' → K (a.put o.dst (goInt cs.length)) w') :
    if Region.wanted o (yielded ops a.tmps) = true then Oper.wp P o a w K Q else E := by
  have hw : Region.wanted o (yielded ops a.tmps) = true := by simp [Region.wanted, hgd]
  rw [if_pos hw]
  have hrun := run_copy_row (P := P) w dT sT o.type elem g off dLen dCap ad sLen sCap cur.toArray t cs hu hsz hg hn hsrc (by simpa using hfit) h1
  unfold Oper.wp
  simp [execOp, ho, resolve, invoke, builtin, hd, hs, hrun, Result.andThen]
  refine h _ ?_ ⟨rfl, rfl, rfl, by simp [World.setRow], fun k hk hne => setRow_other w g k _ hne⟩
  exact (show _ = _ by simpa [splice] using setRow_heap w g _ _ t _ hg)

def putD (d : List UInt8) (off : Nat) (p : List UInt8) : List UInt8 := d.take off ++ (p ++ d.drop (off + p.length))
theorem putD_len {d : List UInt8} {off : Nat} {p : List UInt8} (h : off + p.length ≤ d.length) : (putD d off p).length = d.length := by simp [putD]; omega
theorem putD_enc (d : List UInt8) (off : Nat) (p : List UInt8) : splice (encB d) off (encB p) = encB (putD d off p) := by
  simp [splice, putD, encB, List.map_append, List.map_take, List.map_drop]
theorem infoB1 : (Try.prog.info? 5).map (·.size) = some 1 := by kernel_rfl
theorem putD_get {d p : List UInt8} {off : Nat} (h : off + p.length ≤ d.length) (j : Nat) : (putD d off p)[j]? = if off ≤ j ∧ j < off + p.length then p[j - off]? else d[j]? := by
  have hl : (d.take off).length = off := by rw [List.length_take]; omega
  unfold putD
  by_cases h1 : j < off
  · rw [if_neg (by omega), List.getElem?_append_left (by omega), List.getElem?_take, if_pos h1]
  · rw [List.getElem?_append_right (by omega), hl]
    by_cases h2 : j < off + p.length
    · rw [if_pos (by omega), List.getElem?_append_left (by omega)]
    · rw [if_neg (by omega), List.getElem?_append_right (by omega), List.getElem?_drop]
      congr 1
      omega
def zeros (n : Nat) : List UInt8 := List.replicate n 0
theorem zeros_enc (n : Nat) : encB (zeros n) = List.replicate n (.int .u8 0) := by simp [zeros, encB]
end Go.Proofs.Ytbkpapdbidbhaaa
