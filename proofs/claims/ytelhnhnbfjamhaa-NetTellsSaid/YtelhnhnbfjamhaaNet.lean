/-
  The calls of package net: what each answers, and what it does to the bag in memory.
-/
import Derived.Test.YtelhnhnbfjamhaaRow3
namespace Go.Proofs.Ytelhnhnbfjamhaa
open Go.RowKit

abbrev Pk := Int × ByteArray
def encPk (p : Pk) : List Value := [.int .i64 p.1, .string p.2]
theorem encPk_len (p : Pk) : (encPk p).length = 2 := rfl
theorem encPk_one (p : Pk) : ∀ u ∈ encPk p, u.oneCell' = true := by
  intro u hu; simp [encPk] at hu; rcases hu with rfl | rfl <;> rfl

theorem infoPk : (Try.prog.info? 31).map (fun i => (i.zero, i.size, i.bytes)) = some (some (.agg #[.int .i64 0, .string ⟨#[]⟩]), 2, 24) := by kernel_rfl

/-- The net g holds the packets ps, in a row of its own from block B on. -/
structure NetAt (w : World) (g B : Nat) (A : Option Addr) (cap : Nat) (ps : List Pk) : Prop where
  cell : Whole w g 25 #[.slice A ps.length cap]
  own : w.ownsRow B 31 2 (.slice A ps.length cap) ps.length (encs encPk ps)
  far : g < B
  few : ps.length ≤ 64

/-- What a call on the net may turn. -/
def NetS (g : Nat) (A : Option Addr) (k : Nat) : Prop := k = g ∨ A.map (·.block) = some k

set_option maxHeartbeats 400000 in
theorem net_is {w : World} {g B : Nat} {A : Option Addr} {cap : Nat} {ps : List Pk} (h : NetAt w g B A cap ps) (k : Int) :
    Calls Try.prog 46 #[.pointer (some ⟨g, 0, none⟩), .int .i64 k] w fun e w' => e = .returned (.bool (decide (0 ≤ k ∧ k < ps.length))) ∧ w' = w := by
  have c0 := h.cell.cell 0
  have hf := h.few
  rw [show (#[Value.slice A ps.length cap] : Array Value)[0]? = some (.slice A ps.length cap) from rfl] at c0
  generalize ps.length = n at *
  by_cases h0 : 0 ≤ k
  · by_cases h1 : k < n
    · rw [show decide (0 ≤ k ∧ k < (n : Int)) = true by simp; omega]
      go_enter Try.func46, Try.ntmps46
      go_wp2_with fail
      go_ret
      exact ⟨rfl, rfl⟩
    · rw [show decide (0 ≤ k ∧ k < (n : Int)) = false by simp; omega]
      go_enter Try.func46, Try.ntmps46
      go_wp2_with fail
      go_ret
      exact ⟨rfl, rfl⟩
  · rw [show decide (0 ≤ k ∧ k < (n : Int)) = false by simp; omega]
    go_enter Try.func46, Try.ntmps46
    go_wp2_with fail
    go_ret
    exact ⟨rfl, rfl⟩

/-- What a Put leaves. -/
def PutLeft (w : World) (g B : Nat) (A : Option Addr) (cap : Nat) (ps qs : List Pk) (e : Ending) (w' : World) : Prop :=
  e = .returned (.int .i64 (qs.take (64 - ps.length)).length) ∧ Kp (NetS g A) w w' ∧ ∃ A' cap', NetAt w' g B A' cap' (ps ++ qs.take (64 - ps.length)) ∧ Near w (.slice A ps.length cap) (.slice A' (ps ++ qs.take (64 - ps.length)).length cap')

set_option maxHeartbeats 1000000 in
/-- The walk, the number that has room given. -/
theorem net_put0 {w : World} {g B : Nat} {A : Option Addr} {cap n m r c : Nat} {xs ys : List Value} (hcell : Whole w g 25 #[.slice A n cap]) (hown : w.ownsRow B 31 2 (.slice A n cap) n xs) (hfar : g < B) (hB : B ≤ w.heap.size)
    (X : Option Addr) (hsrc : Src w.drew 2 (.slice X r c) r ys) (hX : ∀ a, X = some a → a.add 0 = a) (hX0 : X = none → c = 0) (hmc : m ≤ c) (hc : c ≤ maxLen) (hrn : n + r ≤ 64) (hr : (m ≤ 64 - n ∧ r = m) ∨ (64 - n < m ∧ r = 64 - n)) :
    Calls Try.prog 15 #[.pointer (some ⟨g, 0, none⟩), .slice X m c] w fun e w' => e = .returned (.int .i64 r) ∧ Kp (NetS g A) w w' ∧
      ∃ A' cap', Whole w' g 25 #[.slice A' (n + r) cap'] ∧ w'.ownsRow B 31 2 (.slice A' (n + r) cap') (n + r) (xs ++ ys) ∧ Near w (.slice A n cap) (.slice A' (n + r) cap') := by
  obtain ⟨i0, hi, hz0, hz1, hz2⟩ := info_parts infoPk
  have c0 := hcell.cell 0
  have f0 := hcell.frozen 0
  rw [show (#[Value.slice A n cap] : Array Value)[0]? = some (.slice A n cap) from rfl] at c0
  have hgl := hcell.lt
  have Hown := Lib.hid hown
  have Hsrc := Lib.hid hsrc
  have Hcell := Lib.hid hcell
  have Hi := Lib.hid hi
  have Hz0 := Lib.hid hz0
  have Hz1 := Lib.hid hz1
  have Hz2 := Lib.hid hz2
  clear hown hsrc hcell hi hz0 hz1 hz2
  have hn1 : n ≤ 64 := by omega
  have hfin : ∀ A' cap' w1, w1.ownsRow B 31 2 (.slice A' (n + r) cap') (n + r) (xs ++ ys) → w.drew.grownBy w1 (Value.slice A n cap).ownBlock → Near w.drew (.slice A n cap) (.slice A' (n + r) cap') →
      (Kp (NetS g A) w (w1.setCell ⟨g, 0, none⟩ (.slice A' (n + r) cap')) ∧
      ∃ A'' cap'', Whole (w1.setCell ⟨g, 0, none⟩ (.slice A' (n + r) cap')) g 25 #[.slice A'' (n + r) cap''] ∧ (w1.setCell ⟨g, 0, none⟩ (.slice A' (n + r) cap')).ownsRow B 31 2 (.slice A'' (n + r) cap'') (n + r) (xs ++ ys) ∧ Near w (.slice A n cap) (.slice A'' (n + r) cap'')) := by
    intro A' cap' w1 h1 h2 h3
    refine ⟨(Kp.of_grown (w := w) (S := NetS g A) ⟨h2.os, h2.tape, h2.output, h2.size, h2.block⟩ ?_).set (Or.inl (Or.inl rfl)) _, A', cap', ?_, ?_, h3⟩
    · intro i hi _
      exact Or.inr (own_map.symm.trans hi)
    · exact (Hcell.out.drew.grown h2 (own_far Hown.out hfar)).set 0 _
    · exact ownsRow_setCell_below h1 hfar _
  have Hfin := Lib.hid hfin
  clear hfin
  obtain ⟨k, hk⟩ : ∃ k : Nat, (64 : Int) - n = k := ⟨64 - n, by omega⟩
  have hkr : (m ≤ k ∧ r = m) ∨ (k < m ∧ r = k) := by omega
  have hk64 : k ≤ 64 := by omega
  have hrc : r ≤ c := by omega
  clear hr
  cases X with
  | none =>
    obtain rfl := hX0 rfl
    obtain rfl : m = 0 := by omega
    obtain rfl : r = 0 := by omega
    clear hX hX0 hkr hmc
    go_enter Try.func15, Try.ntmps15
    go_wp2_with fail
    go_region_law (refine step_app rfl (.tmp 19) (.tmp 22) 23 rfl B 31 i0 _ 2 24 Try.underlying23 Hi.out Hz0.out Hz1.out Hz2.out rfl (by decide) (.slice A n cap) n xs (by simp [Act.eval, Act.put]) Hown.out (.slice Option.none 0 0) 0 ys (by simp [Act.eval, Act.put]) Hsrc.out (by unfold maxLen; omega) (by omega) hB ?_; intro v' w1 hown1 hg1 hn1; obtain ⟨A', cap', rfl⟩ := own_form hown1; have hl1 := (Hcell.out.drew.grown hg1 (own_far Hown.out hfar)).cell 0; have fl1 := (Hcell.out.drew.grown hg1 (own_far Hown.out hfar)).frozen 0; have hs1 := hg1.size; have Hown1 := Lib.hid hown1; have Hg1 := Lib.hid hg1; have Hn1 := Lib.hid hn1; clear hown1 hg1 hn1)
    all_goals
      go_wp2_with fail
      go_ret
      exact ⟨rfl, Hfin.out _ _ _ (Hown1.out) (Hg1.out) (Hn1.out)⟩
  | some a =>
    have ha := hX a rfl
    clear hX hX0
    rcases hkr with ⟨hle, rfl⟩ | ⟨hlt, rfl⟩
    · go_enter Try.func15, Try.ntmps15
      go_wp2_with fail
      go_region_law (refine step_app rfl (.tmp 19) (.tmp 22) 23 rfl B 31 i0 _ 2 24 Try.underlying23 Hi.out Hz0.out Hz1.out Hz2.out rfl (by decide) (.slice A n cap) n xs (by simp [Act.eval, Act.put]) Hown.out (.slice (some a) r c) r ys (by simp [Act.eval, Act.put]) Hsrc.out (by unfold maxLen; omega) (by omega) hB ?_; intro v' w1 hown1 hg1 hn1; obtain ⟨A', cap', rfl⟩ := own_form hown1; have hl1 := (Hcell.out.drew.grown hg1 (own_far Hown.out hfar)).cell 0; have fl1 := (Hcell.out.drew.grown hg1 (own_far Hown.out hfar)).frozen 0; have hs1 := hg1.size; have Hown1 := Lib.hid hown1; have Hg1 := Lib.hid hg1; have Hn1 := Lib.hid hn1; clear hown1 hg1 hn1)
      all_goals
        go_wp2_with fail
        go_ret
        exact ⟨rfl, Hfin.out _ _ _ (Hown1.out) (Hg1.out) (Hn1.out)⟩
    · go_enter Try.func15, Try.ntmps15
      go_wp2_with fail
      go_region_law (refine step_app rfl (.tmp 19) (.tmp 22) 23 rfl B 31 i0 _ 2 24 Try.underlying23 Hi.out Hz0.out Hz1.out Hz2.out rfl (by decide) (.slice A n cap) n xs (by simp [Act.eval, Act.put]) Hown.out (.slice (some a) r c) r ys (by simp [Act.eval, Act.put]) Hsrc.out (by unfold maxLen; omega) (by omega) hB ?_; intro v' w1 hown1 hg1 hn1; obtain ⟨A', cap', rfl⟩ := own_form hown1; have hl1 := (Hcell.out.drew.grown hg1 (own_far Hown.out hfar)).cell 0; have fl1 := (Hcell.out.drew.grown hg1 (own_far Hown.out hfar)).frozen 0; have hs1 := hg1.size; have Hown1 := Lib.hid hown1; have Hg1 := Lib.hid hg1; have Hn1 := Lib.hid hn1; clear hown1 hg1 hn1)
      all_goals
        go_wp2_with fail
        go_ret
        exact ⟨rfl, Hfin.out _ _ _ (Hown1.out) (Hg1.out) (Hn1.out)⟩
end Go.Proofs.Ytelhnhnbfjamhaa
