/-
  slices.Clone, Clip at the packets of a net; Bag, Take.
-/
import Derived.Test.YtelhnhnbfjamhaaNetRow
import Derived.Lib.SliceRun
namespace Go.Proofs.Ytelhnhnbfjamhaa
open Go.RowKit

set_option maxRecDepth 100000 in
set_option maxHeartbeats 1000000 in
theorem clone_pk {w : World} {A : Option Addr} {n cap : Nat} {xs : List Value} (hx : Src w 2 (.slice A n cap) n xs) (hn : n ≤ 4398046511104) :
    Calls Try.prog 49 #[.slice A n cap] w fun e w' => ∃ A' cap', e = .returned (.slice A' n cap') ∧
      w'.ownsRow w.heap.size 31 2 (.slice A' n cap') n xs ∧ Kp (fun _ => False) w w' := by
  obtain ⟨i0, hi, hz0, hz1, hz2⟩ := info_parts infoPk
  have q : ∀ (w : World) (a : Option Addr) (n c n' c' : Nat), (binOp .eql 23 (.slice a n c) (.slice none n' c')).run Try.prog w = .ok (.bool a.isNone) w := fun w a n c n' c' => Lib.run_eql_slice_nil w _ _ a n c n' c' Try.underlying23
  cases A with
  | none =>
    obtain ⟨hl, _, ⟨hv, hn0⟩ | ⟨a, c, hv, _⟩⟩ := hx
    · cases hv
      obtain rfl : xs = [] := List.eq_nil_of_length_eq_zero (by simpa using hl)
      go_enter Try.func49, Try.ntmps49
      go_wp2_with fail
      go_ret
      exact ⟨_, _, rfl, World.ownsRow_nil _ _ _ _, Kp.refl _ _⟩
    · cases hv
  | some a =>
    have Hx := Lib.hid hx
    have hO := World.ownsRow_made (base := w.heap.size) (e := 31) (size := 2) w #[] 0 (Nat.le_refl _) (Nat.zero_le _) rfl
    have HO := Lib.hid hO
    have Hi := Lib.hid hi
    have Hz0 := Lib.hid hz0
    have Hz1 := Lib.hid hz1
    have Hz2 := Lib.hid hz2
    have hX : Src (w.alloc (.cells #[] 31)) 2 (.slice (some a) n cap) n xs := ((Kp.refl (fun _ => False) w).alloc _).src hx (fun _ _ h => h)
    have HX := Lib.hid hX
    clear hx hO hi hz0 hz1 hz2 hX
    go_enter Try.func49, Try.ntmps49
    go_wp2_with (at_builtin; refine wpList_app rfl (.tmp 5) (.tmp 6) 23 rfl w.heap.size 31 i0 _ 2 24 Try.underlying23 Hi.out Hz0.out Hz1.out Hz2.out rfl (by decide) _ 0 [] rfl HO.out _ n xs rfl HX.out (by unfold maxLen; omega) (by omega) (by simp) ?_; intro v' w1 hown1 hg1 hn1; obtain ⟨A', cap', rfl⟩ := own_form hown1; have Hown1 := Lib.hid hown1; have Hg1 := Lib.hid hg1; clear hown1 hg1 hn1)
    go_ret
    refine ⟨A', cap', by simp, by simpa using Hown1.out, ((Kp.refl _ w).alloc _).grown Hg1.out ?_⟩
    intro i hi hlt
    have hi' : w.heap.size = i := Option.some.inj hi
    exact absurd hlt (by omega)

set_option maxHeartbeats 400000 in
theorem clip_pk {w : World} {A : Option Addr} {n cap : Nat} (h : n ≤ cap) (hA : ∀ a, A = some a → a.add 0 = a) :
    Calls Try.prog 48 #[.slice A n cap] w fun e w' => e = .returned (.slice A n n) ∧ w' = w := by
  cases A with
  | none =>
    go_enter Try.func48, Try.ntmps48
    go_wp2_with fail
    go_ret
    exact ⟨by simp, rfl⟩
  | some a =>
    have ha := hA a rfl
    clear hA
    go_enter Try.func48, Try.ntmps48
    go_wp2_with fail
    go_ret
    exact ⟨by simp, rfl⟩

/-- What a Bag hands back: a row of its own, cut to its length. -/
def BagLeft (w : World) (ps : List Pk) (e : Ending) (w' : World) : Prop :=
  ∃ A' cap', e = .returned (.slice A' ps.length ps.length) ∧ w'.ownsRow w.heap.size 31 2 (.slice A' ps.length cap') ps.length (encs encPk ps) ∧ Kp (fun _ => False) w w'

set_option maxRecDepth 100000 in
set_option maxHeartbeats 1000000 in
theorem net_bag {w : World} {g B : Nat} {A : Option Addr} {cap : Nat} {ps : List Pk} (h : NetAt w g B A cap ps) :
    Calls Try.prog 16 #[.pointer (some ⟨g, 0, none⟩)] w (BagLeft w ps) := by
  have c0 := h.cell.cell 0
  rw [show (#[Value.slice A ps.length cap] : Array Value)[0]? = some (.slice A ps.length cap) from rfl] at c0
  have hS := ownsRow_src h.own (encs_one (fun x _ => encPk_one x))
  have hf := h.few
  unfold BagLeft
  generalize ps.length = n at *
  have HS := Lib.hid hS
  clear hS
  have H := Lib.hid h
  clear h
  go_enter Try.func16, Try.ntmps16
  go_wp2_with first
    | (go_at_call 49; refine (clone_pk HS.out (by omega)).mono ?_; rintro e w1 ⟨A', cap', rfl, hown, hk⟩; have Hown := Lib.hid hown; have Hk := Lib.hid hk; clear hown hk)
    | (go_at_call 48; refine (clip_pk (own_le Hown.out) (own_addr Hown.out)).mono ?_; rintro e w2 ⟨rfl, rfl⟩)
  go_ret
  exact ⟨_, _, rfl, Hown.out, Hk.out⟩
end Go.Proofs.Ytelhnhnbfjamhaa
