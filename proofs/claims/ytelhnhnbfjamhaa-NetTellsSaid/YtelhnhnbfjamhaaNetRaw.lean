/-
  How the raw calls of chapter 24's laws read; nets across calls.
-/
import Derived.Test.YtelhnhnbfjamhaaNetTurn2
import Derived.Test.YtelhnhnbfjamhaaArgs
import Derived.Test.YtelhnhnbfjamhaaPick
namespace Go.Proofs.Ytelhnhnbfjamhaa
open Go.RowKit

theorem rawN_rd {W : World} {v : Value} (h : SlArg 22 W v) : RdSl W 56 [RdI, RdI, RdI, RdU8, RdSl W 16 [RdS]] v := by
  have hB : Try.prog.bytesOf 28 = 56 := by kernel_rfl
  have hS : Try.prog.bytesOf 9 = 16 := by kernel_rfl
  rw [← hB, ← hS]
  refine h.rd Try.underlying22 fun H enc => fieldSlS Try.underlying22 Try.underlying28 (by kernel_rfl) (by kernel_rfl) (by decide) rfl ?_
  intro j f q hf hq
  match j with
  | 0 => simp at hf hq; subst hf hq; exact fieldI Try.underlying3
  | 1 => simp at hf hq; subst hf hq; exact fieldI Try.underlying3
  | 2 => simp at hf hq; subst hf hq; exact fieldI Try.underlying3
  | 3 => simp at hf hq; subst hf hq; exact fieldU8 Try.underlying5
  | 4 => simp at hf hq; subst hf hq; exact fieldSl1 Try.underlying26 (by kernel_rfl) (fieldS Try.underlying9)
  | j + 5 => simp at hf

theorem NetAt.drewN {w : World} {g B : Nat} {A : Option Addr} {cap : Nat} {ps : List Pk} (h : NetAt w g B A cap ps) (n : Nat) : NetAt (w.drewN n) g B A cap ps := ⟨h.cell.drewN n, h.own, h.far, h.few⟩

theorem NetAt.lt {w : World} {g B : Nat} {A : Option Addr} {cap : Nat} {ps : List Pk} (h : NetAt w g B A cap ps) {k : Nat} (hk : NetS g A k) : k < w.heap.size := by
  rcases hk with rfl | hk
  · exact h.cell.lt
  · exact (h.own.lt k (own_map.trans hk)).2

theorem NetAt.kp {S : Nat → Prop} {w w' : World} {g B : Nat} {A : Option Addr} {cap : Nat} {ps : List Pk} (h : NetAt w g B A cap ps) (hk : Kp S w w') (hS : ∀ k, NetS g A k → ¬ S k) : NetAt w' g B A cap ps :=
  ⟨hk.whole h.cell (hS g (.inl rfl)), hk.own h.own (fun k hk' => hS k (.inr (own_map.symm.trans hk'))), h.far, h.few⟩


theorem NetAt.kp0 {w w' : World} {g B : Nat} {A : Option Addr} {cap : Nat} {ps : List Pk} (h : NetAt w g B A cap ps) (hk : Kp (fun _ => False) w w') : NetAt w' g B A cap ps := h.kp hk (fun _ _ h => h)

theorem own_nil {w : World} {B n cap : Nat} {e : TypeId} {sz : Nat} {A : Option Addr} {xs : List Value} (h : w.ownsRow B e sz (.slice A n cap) n xs) : A = none → cap = 0 := by
  intro ha
  rcases h.2 with ⟨hv, _⟩ | ⟨g, c, _, hv, _⟩
  · cases hv; rfl
  · cases hv; cases ha
theorem own_max {w : World} {B n cap : Nat} {e : TypeId} {sz : Nat} {A : Option Addr} {xs : List Value} (h : w.ownsRow B e sz (.slice A n cap) n xs) : cap ≤ maxLen := by
  rcases h.2 with ⟨hv, _⟩ | ⟨g, c, _, hv, _, _, _, hc, _⟩
  · cases hv; exact Nat.zero_le _
  · cases hv; exact hc

theorem own_free {w : World} {B b n cap : Nat} {e : TypeId} {sz : Nat} {xs : List Value} (h : w.ownsRow B e sz (.slice (some ⟨b, 0, none⟩) n cap) n xs) (i : Nat) : w.frozen? ⟨b, i, none⟩ = false := by
  rcases h.2 with ⟨hv, _⟩ | ⟨g, c, cur, hv, _, hg, _⟩
  · cases hv
  · cases hv; exact Whole.frozen hg i
theorem own_cell {w : World} {B b n cap : Nat} {e : TypeId} {sz : Nat} {xs : List Value} (h : w.ownsRow B e sz (.slice (some ⟨b, 0, none⟩) n cap) n xs) (j : Nat) (hj : j < n * sz) : ∃ u, w.cell? ⟨b, j, none⟩ = some u := by
  have hl : j < xs.length := by rw [h.1]; exact hj
  have := h.cells (g := b) rfl j xs[j] (List.getElem?_eq_getElem hl)
  rw [Addr.add_lit, Nat.zero_add] at this
  exact ⟨_, this⟩

theorem src_one (w : World) (p : Pk) : Src (w.alloc (.cells #[.int .i64 p.1, .string p.2] 31)) 2 (.slice (some ⟨w.heap.size, 0, none⟩) 1 1) 1 (encs encPk [p]) := by
  refine ⟨rfl, encs_one (fun x _ => encPk_one x), .inr ⟨_, _, rfl, fun j u hj => ?_⟩⟩
  rw [Addr.add_lit, Nat.zero_add, (Whole.new w _ _).cell]
  match j, hj with
  | 0, hj => simpa [encs, encPk] using hj
  | 1, hj => simpa [encs, encPk] using hj
  | j + 2, hj => simp [encs, encPk] at hj

theorem pick_nat (n m : Int) (w : World) (hm : 1 ≤ m) (hm2 : m ≤ 1152921504606846976) :
    Calls Try.prog 13 #[.int .i64 n, .int .i64 m] w fun e w' => ∃ i : Nat, Hid ((i : Int) = pickF n m) ∧ (i : Int) < m ∧ e = .returned (.int .i64 i) ∧ w = w' := by
  refine (pick_any n m w hm hm2).mono ?_
  rintro e w' ⟨rfl, rfl⟩
  have h0 := pickF_lo n m hm
  exact ⟨(pickF n m).toNat, Lib.hid (by omega), by have := pickF_hi n m hm; omega, by rw [Int.toNat_of_nonneg h0], rfl⟩

theorem NetAt.below {W w w' : World} {g B : Nat} {A : Option Addr} {cap : Nat} {ps : List Pk} (h : NetAt w g B A cap ps) (hb : Below W.heap.size W w) (hk : Kp (NetS g A) w w') (hg : W.heap.size ≤ g) : Below W.heap.size W w' :=
  hb.trans (hk.below hb.size (fun k hk => by have := netS_below h hk; omega))
end Go.Proofs.Ytelhnhnbfjamhaa
