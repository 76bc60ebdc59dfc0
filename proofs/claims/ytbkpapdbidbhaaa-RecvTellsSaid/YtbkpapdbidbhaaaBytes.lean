/-
  Slices of bytes: how they read; slices.Clone and Clip of them.
-/
import Derived.Test.YtbkpapdbidbhaaaRow4
import Derived.Lib.SliceRun
namespace Go.Proofs.Ytbkpapdbidbhaaa
open Go.RowKit

/-- Bytes as cells. -/
def encB (d : List UInt8) : List Value := d.map fun c => .int .u8 (c.toNat : Int)
theorem encB_len (d : List UInt8) : (encB d).length = d.length := List.length_map _
theorem encB_one (d : List UInt8) : ∀ u ∈ encB d, u.oneCell' = true := by
  intro u hu
  obtain ⟨c, _, rfl⟩ := List.mem_map.1 hu
  rfl
/-- v reads as the bytes d. -/
def Bs (w : World) (v : Value) (d : List UInt8) : Prop := Src w 1 v d.length (encB d)
theorem Bs.kp {S : Nat → Prop} {w w' : World} {v : Value} {d : List UInt8} (h : Bs w v d) (hk : Kp S w w') (hS : ∀ k, v.ownBlock = some k → ¬ S k) : Bs w' v d := hk.src h hS
theorem Bs.form {w : World} {v : Value} {d : List UInt8} (h : Bs w v d) : ∃ A cap, v = .slice A d.length cap := by
  obtain ⟨_, _, ⟨rfl, h0⟩ | ⟨a, c, rfl, _⟩⟩ := h
  · exact ⟨_, _, by rw [h0]⟩
  · exact ⟨_, _, rfl⟩
theorem Bs.nil (w : World) : Bs w (.slice none 0 0) [] := ⟨rfl, (fun u hu => by cases hu), .inl ⟨rfl, rfl⟩⟩
theorem Bs.cell {w : World} {v : Value} {d : List UInt8} (h : Bs w v d) (hd : 0 < d.length) : ∃ b off c, v = .slice (some ⟨b, off, none⟩) d.length c ∧ b < w.heap.size ∧ ∀ j (hj : j < d.length), w.cell? ⟨b, off + j, none⟩ = some (.int .u8 ((d[j]).toNat : Int)) := by
  obtain ⟨_, _, ⟨rfl, h0⟩ | ⟨a, c, rfl, hc⟩⟩ := h
  · omega
  · have h00 := hc 0 (.int .u8 ((d[0]).toNat : Int)) (by simp [encB, List.getElem?_eq_getElem hd])
    have hs : a.spot = none ∧ (a.add 0).block < w.heap.size := by
      have h1 := World.block_lt_of_cell? w _ h00
      refine ⟨?_, h1⟩
      unfold World.cell? at h00
      split at h00
      · split at h00
        · cases h00
        · rename_i hsp
          cases a with
          | mk b o sp =>
            cases sp with
            | none => rfl
            | some x => simp [Addr.add] at hsp
      · cases h00
    obtain ⟨b, off, sp⟩ := a
    obtain ⟨rfl, hlt⟩ := hs
    refine ⟨b, off, c, rfl, ?_, fun j hj => ?_⟩
    · rw [Addr.add_lit] at hlt; exact hlt
    · have := hc j (.int .u8 ((d[j]).toNat : Int)) (by simp [encB, List.getElem?_eq_getElem hj])
      rw [Addr.add_lit] at this
      exact this

theorem infoB : (Try.prog.info? 5).map (fun i => (i.zero, i.size, i.bytes)) = some (some (.int .u8 0), 1, 1) := by kernel_rfl

set_option maxRecDepth 100000 in
set_option maxHeartbeats 1000000 in
theorem clone_b {w : World} {A : Option Addr} {cap : Nat} {d : List UInt8} (hx : Bs w (.slice A d.length cap) d) (hn : d.length ≤ 140737488355328) :
    Calls Try.prog 39 #[.slice A d.length cap] w fun e w' => ∃ A' cap', e = .returned (.slice A' d.length cap') ∧
      w'.ownsRow w.heap.size 5 1 (.slice A' d.length cap') d.length (encB d) ∧ Kp (fun _ => False) w w' := by
  obtain ⟨i0, hi, hz0, hz1, hz2⟩ := info_parts infoB
  have q : ∀ (w : World) (a : Option Addr) (n c n' c' : Nat), (binOp .eql 22 (.slice a n c) (.slice none n' c')).run Try.prog w = .ok (.bool a.isNone) w := fun w a n c n' c' => Lib.run_eql_slice_nil w _ _ a n c n' c' Try.underlying22
  cases A with
  | none =>
    obtain ⟨hl, _, ⟨hv, hn0⟩ | ⟨a, c, hv, _⟩⟩ := hx
    · obtain rfl : d = [] := List.eq_nil_of_length_eq_zero hn0
      cases hv
      go_enter Try.func39, Try.ntmps39
      go_wp2_with fail
      go_ret
      exact ⟨_, _, rfl, World.ownsRow_nil _ _ _ _, Kp.refl _ _⟩
    · cases hv
  | some a =>
    have hO := World.ownsRow_made (base := w.heap.size) (e := 5) (size := 1) w #[] 0 (Nat.le_refl _) (Nat.zero_le _) rfl
    have HO := Lib.hid hO
    have Hi := Lib.hid hi
    have Hz0 := Lib.hid hz0
    have Hz1 := Lib.hid hz1
    have Hz2 := Lib.hid hz2
    have hX : Src (w.alloc (.cells #[] 5)) 1 (.slice (some a) d.length cap) d.length (encB d) := ((Kp.refl (fun _ => False) w).alloc _).src hx (fun _ _ h => h)
    have HX := Lib.hid hX
    clear hx hO hi hz0 hz1 hz2 hX
    generalize d.length = n at *
    go_enter Try.func39, Try.ntmps39
    go_wp2_with (at_builtin; refine wpList_app rfl (.tmp 5) (.tmp 6) 22 rfl w.heap.size 5 i0 _ 1 1 Try.underlying22 Hi.out Hz0.out Hz1.out Hz2.out rfl (by decide) _ 0 [] rfl HO.out _ n _ rfl HX.out (by unfold maxLen; omega) (by omega) (by simp) ?_; intro v' w1 hown1 hg1 hn1; obtain ⟨A', cap', rfl⟩ := own_form hown1; have Hown1 := Lib.hid hown1; have Hg1 := Lib.hid hg1; clear hown1 hg1 hn1)
    go_ret
    refine ⟨A', cap', by simp, by simpa using Hown1.out, ((Kp.refl _ w).alloc _).grown Hg1.out ?_⟩
    intro i hi hlt
    have hi' : w.heap.size = i := Option.some.inj hi
    exact absurd hlt (by omega)

set_option maxHeartbeats 400000 in
theorem clip_b {w : World} {A : Option Addr} {n cap : Nat} (h : n ≤ cap) (hA : ∀ a, A = some a → a.add 0 = a) :
    Calls Try.prog 38 #[.slice A n cap] w fun e w' => e = .returned (.slice A n n) ∧ w = w' := by
  cases A with
  | none =>
    go_enter Try.func38, Try.ntmps38
    go_wp2_with fail
    go_ret
    exact ⟨by simp, rfl⟩
  | some a =>
    have ha := hA a rfl
    clear hA
    go_enter Try.func38, Try.ntmps38
    go_wp2_with fail
    go_ret
    exact ⟨by simp, rfl⟩
end Go.Proofs.Ytbkpapdbidbhaaa
