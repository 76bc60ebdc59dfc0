/-
  A region that draws its order: a load may be taken first where all but the last operation leave its cell as it is.
-/
import Derived.Test.YtoiakdddghbdnaaRow4
import Derived.StillTail
import Derived.OrdersHeld
namespace Go.Proofs.Ytoiakdddghbdnaa
open Go.RowKit

section
variable {P : Program} {ops : Array Oper} {Q : Exit → Act → World → Prop} {md : Region.Mode} {S : World → Prop} {n : Nat}

/-- Any order from here on; S holds behind each operation but number n. -/
def AnyBut (P : Program) (md : Region.Mode) (ops : Array Oper) (Q : Exit → Act → World → Prop) (S : World → Prop) (n : Nat) : Nat → Array Bool → Act → World → Prop
  | 0, listed, a, w => Region.ready md ops listed = [] ∧ Q .normal a w
  | fuel + 1, listed, a, w =>
    (Region.ready md ops listed = [] → Q .normal a w) ∧
    ∀ i, i ∈ Region.ready md ops listed → wpOp P ops Q i (fun a' w' => (i ≠ n → S w') ∧ AnyBut P md ops Q S n fuel (listed.setIfInBounds i true) a' w') a w

theorem any_of_but (fuel : Nat) : ∀ (listed : Array Bool) (a : Act) (w : World), AnyBut P md ops Q S n fuel listed a w → wpAny P md ops Q fuel listed a w := by
  induction fuel with
  | zero => intro listed a w h; exact h
  | succ fuel ih => exact fun listed a w h => ⟨h.1, fun i hi => wpOp_mono (fun a' w' hk => ih _ a' w' hk.2) (h.2 i hi)⟩

theorem but_first {i : Nat} {oi : Oper} {v : Value} (hi : ops[i]? = some oi) (hs : Region.noSelect ops = true) (hw : Region.waitsFor md ops n i = true)
    (hQ : ∀ c a w, Q (.panic c) (a.put oi.dst v) w → Q (.panic c) a w) (fuel : Nat) :
    ∀ (listed : Array Bool) (a : Act) (w : World),
      (∀ j oj, ops[j]? = some oj → j ≠ i → listed.getD j true = false → (∀ e ∈ oj.after, Region.binds md e = true → e.on ≠ i) → oi.apart ops oj = true) →
      i ∈ Region.ready md ops listed → YieldsIf P ops S oi v a → S w →
      AnyBut P md ops Q S n fuel (listed.setIfInBounds i true) (a.put oi.dst v) w → AnyBut P md ops Q S n (fuel + 1) listed a w := by
  have hsel := Region.noSelect_spec hs
  induction fuel with
  | zero =>
    intro listed a w _ hr hy hS H
    refine ⟨fun h0 => absurd hr (by rw [h0]; exact List.not_mem_nil), fun j hj => ?_⟩
    rcases Decidable.em (j = i) with rfl | hji
    · exact hy.wpOp hi hS ⟨fun _ => hS, H⟩
    · exact absurd (ready_mono hj hji) (by rw [H.1]; exact List.not_mem_nil)
  | succ fuel ih =>
    intro listed a w hfree hr hy hS H
    refine ⟨fun h0 => absurd hr (by rw [h0]; exact List.not_mem_nil), fun j hj => ?_⟩
    rcases Decidable.em (j = i) with rfl | hji
    · exact hy.wpOp hi hS ⟨fun _ => hS, H⟩
    obtain ⟨hj0, oj, hoj, hafter⟩ := mem_ready.1 hj
    have hi0 : listed.getD i false = false := getD_both (mem_ready.1 hr).1
    have hfar : ∀ e ∈ oj.after, Region.binds md e = true → e.on ≠ i := fun e he hb hon => by
      have := hafter e he hb
      rw [hon, hi0] at this
      cases this
    have hjn : j ≠ n := fun e => by
      obtain ⟨o2, ho2, x, hx, hb, hon⟩ := Region.waitsFor_spec hw
      rw [← e, hoj] at ho2
      cases ho2
      exact hfar x hx hb hon
    have hstep := wpOp_putIf hoj (hfree j oj hoj hji hj0 hfar) (fun cs b => hsel i oi cs b hi) (fun cs b => hsel j oj cs b hoj) hQ hy (H.2 j (ready_mono hj hji))
    refine wpOp_mono (fun a' w' hk => ⟨hk.2.1, ih _ a' w' (fun k ok hok hki hk0 hno => ?_) (ready_mono hr (Ne.symm hji)) hk.1 (hk.2.1 hjn) ?_⟩) hstep
    · refine hfree k ok hok hki ?_ hno
      rcases Decidable.em (j = k) with rfl | hjk
      · exact hj0
      · rwa [getD_set_ne true hjk] at hk0
    · rw [Array.setIfInBounds_comm _ _ hji]
      exact hk.2.2

theorem but_take {i : Nat} {oi : Oper} {v : Value} {fuel : Nat} {listed : Array Bool} {a : Act} {w : World} (hi : ops[i]? = some oi) (hs : Region.noSelect ops = true) (hw : Region.waitsFor md ops n i = true)
    (hf : Region.free md ops listed i = true) (hr : (Region.ready md ops listed).contains i = true) (hQ : ∀ c a w, Q (.panic c) (a.put oi.dst v) w → Q (.panic c) a w) (hS : S w) (hy : YieldsIf P ops S oi v a)
    (h : AnyBut P md ops Q S n fuel (listed.setIfInBounds i true) (a.put oi.dst v) w) : AnyBut P md ops Q S n (fuel + 1) listed a w :=
  but_first hi hs hw hQ fuel listed a w (Region.free_spec hi hf) (by simpa using hr) hy hS h

/-- One operation alone may come up. -/
theorem but_one {i : Nat} {o : Oper} {fuel : Nat} {listed : Array Bool} {a : Act} {w : World} (hr : Region.ready md ops listed = [i]) (ho : ops[i]? = some o)
    (h : ∀ K' : Act → World → Prop, Hid (∀ a w, (i ≠ n → S w) → AnyBut P md ops Q S n fuel (listed.setIfInBounds i true) a w → K' a w) → if Region.wanted o (yielded ops a.tmps) = true then Oper.wp P o a w K' Q else K' (a.put o.dst undef) w) :
    AnyBut P md ops Q S n (fuel + 1) listed a w := by
  refine ⟨fun h0 => (by rw [h0] at hr; cases hr), fun j hj => ?_⟩
  rw [hr, List.mem_singleton] at hj
  subst hj
  exact wpOp_step ho (fun K' hK => h K' (Lib.hid (fun a w hS hW => hK a w ⟨hS, hW⟩)))
/-- One of two. -/
theorem but_two {i j : Nat} {o o2 : Oper} {fuel : Nat} {listed : Array Bool} {a : Act} {w : World} (hr : Region.ready md ops listed = [i, j]) (ho : ops[i]? = some o) (ho2 : ops[j]? = some o2)
    (h : ∀ K' : Act → World → Prop, Hid (∀ a w, (i ≠ n → S w) → AnyBut P md ops Q S n fuel (listed.setIfInBounds i true) a w → K' a w) → if Region.wanted o (yielded ops a.tmps) = true then Oper.wp P o a w K' Q else K' (a.put o.dst undef) w)
    (h2 : ∀ K' : Act → World → Prop, Hid (∀ a w, (j ≠ n → S w) → AnyBut P md ops Q S n fuel (listed.setIfInBounds j true) a w → K' a w) → if Region.wanted o2 (yielded ops a.tmps) = true then Oper.wp P o2 a w K' Q else K' (a.put o2.dst undef) w) :
    AnyBut P md ops Q S n (fuel + 1) listed a w := by
  refine ⟨fun h0 => (by rw [h0] at hr; cases hr), fun k hk => ?_⟩
  rw [hr] at hk
  rcases List.mem_cons.1 hk with rfl | hk
  · exact wpOp_step ho (fun K' hK => h K' (Lib.hid (fun a w hS hW => hK a w ⟨hS, hW⟩)))
  · rw [List.mem_singleton] at hk
    subst hk
    exact wpOp_step ho2 (fun K' hK => h2 K' (Lib.hid (fun a w hS hW => hK a w ⟨hS, hW⟩)))
theorem but_done {listed : Array Bool} {a : Act} {w : World} (hr : Region.ready md ops listed = []) (h : Q .normal a w) : ∀ fuel, AnyBut P md ops Q S n fuel listed a w
  | 0 => ⟨hr, h⟩
  | _ + 1 => ⟨fun _ => h, by rw [hr]; intro i hi; cases hi⟩
theorem but_start {id : Nat} {a : Act} {w : World} (hm : P.follows .mixedOrders = true) (h : AnyBut P .any ops Q S n ops.size (Array.replicate ops.size false) a w.drew) : (Code.region id ops true).wp P Q a w :=
  wp_region_any hm (any_of_but _ _ _ _ h)
end
end Go.Proofs.Ytoiakdddghbdnaa
