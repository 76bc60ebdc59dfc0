/-
  argosyhand.Few; a slice of bytes among the arguments.
-/
import Derived.Test.YtbkpapdbidbhaaaBytes
import Derived.Test.YtbkpapdbidbhaaaArgs
namespace Go.Proofs.Ytbkpapdbidbhaaa
open Go.RowKit

/-- A slice of bytes among the arguments. -/
def RdBy (w : World) (v : Value) : Prop := ∃ A d cap, v = .slice A d.length cap ∧ Bs w v d ∧ d.length ≤ cap ∧ cap ≤ maxLen ∧ (A = none → cap = 0) ∧ (0 < d.length → ∃ b off, A = some ⟨b, off, none⟩ ∧ b < w.heap.size) ∧ d.length ≤ reachBytes

theorem by_of_rd {w : World} {A : Option Addr} {len cap : Nat} (h : RdSl w 1 [RdU8] (.slice A len cap)) (hA : A = none → cap = 0) : RdBy w (.slice A len cap) := by
  obtain ⟨A', len', cap', hv, hlc, hcm, hr, hc⟩ := h
  cases hv
  rcases hc with rfl | ⟨b, off, rfl, hb, hcell⟩
  · refine ⟨A, [], cap, rfl, ?_, hlc, hcm, hA, fun h => by simp at h, by simp⟩
    cases A with
    | none => rw [hA rfl]; exact Bs.nil _
    | some a => exact ⟨rfl, encB_one _, .inr ⟨a, cap, rfl, fun j u hj => by simp [encB] at hj⟩⟩
  · have hex : ∀ i, ∃ c : UInt8, i < len → w.cell? ⟨b, off + i, none⟩ = some (.int .u8 (c.toNat : Int)) := fun i => by
      by_cases hi : i < len
      · obtain ⟨u, hu, x, rfl, x0, x1⟩ := hcell i hi 0 RdU8 rfl
        refine ⟨UInt8.ofNat x.toNat, fun _ => ?_⟩
        rw [UInt8.toNat_ofNat', Nat.mod_eq_of_lt (by omega), Int.toNat_of_nonneg x0]
        simpa using hu
      · exact ⟨0, fun h => absurd h hi⟩
    have hdl : ((List.range len).map (fun i => (hex i).choose)).length = len := by simp
    refine ⟨some ⟨b, off, none⟩, (List.range len).map (fun i => (hex i).choose), cap, by rw [hdl], ⟨by rw [encB_len, Nat.mul_one], encB_one _, .inr ⟨⟨b, off, none⟩, cap, by rw [hdl], fun j u hj => ?_⟩⟩, by rw [hdl]; exact hlc, hcm, (fun h => by cases h), (fun _ => ⟨b, off, rfl, hb⟩), by rw [hdl]; omega⟩
    have hjl : j < len := by
      have := (List.getElem?_eq_some_iff.1 hj).1
      rw [encB_len, hdl] at this
      exact this
    rw [Addr.add_lit, (hex j).choose_spec hjl, ← hj]
    simp [encB, hjl]

theorem bs_later {W w : World} {A : Option Addr} {d : List UInt8} {cap : Nat} (h : Bs W (.slice A d.length cap) d) (hA : A = none → cap = 0) (hA1 : 0 < d.length → ∃ b off, A = some ⟨b, off, none⟩ ∧ b < W.heap.size) (hb : Below W.heap.size W w) : Bs w (.slice A d.length cap) d := by
  rcases Nat.eq_zero_or_pos d.length with h0 | h0
  · obtain rfl : d = [] := List.eq_nil_of_length_eq_zero h0
    cases A with
    | none => rw [hA rfl]; exact Bs.nil _
    | some a => exact ⟨rfl, encB_one _, .inr ⟨a, cap, rfl, fun j u hj => by simp [encB] at hj⟩⟩
  · obtain ⟨b, off, rfl, hlt⟩ := hA1 h0
    exact h.kp (S := fun k => ¬ k < W.heap.size) ⟨hb.os, hb.tape, hb.output, hb.size, fun k hk _ => hb.block k hk⟩ (fun k hk hn => hn (by have : b = k := Option.some.inj hk; omega))

section
open Go.ChangeShapes Go.WideShapes Go.ChangeAt Go.Deep
theorem fieldBy {H : Type} {enc : TypeId × Value → H} {P : Program} {w : World} {base : Nat} {spare : Nat → Bool} {held : Bool} {t e : TypeId} (ht : P.underlying t = some (.slice e)) (hc : P.cellsOf e = 1) (hb : P.bytesOf e = 1) (he : P.underlying e = some (.int .u8)) :
    FieldOk enc P w base spare held t (RdBy w) := by
  intro n u y h hwt
  have hrd := fieldSl1 ht hc (fieldU8 he) n u y h hwt
  rw [hb] at hrd
  rcases open_slice1 ht hc h with ⟨hu, _⟩ | ⟨a, len, cap, m, n', V, D, Pl, hu, _⟩
  · simp only [List.cons.injEq, and_true] at hu
    subst hu
    exact by_of_rd hrd (fun _ => rfl)
  · simp only [List.cons.injEq, and_true] at hu
    subst hu
    exact by_of_rd hrd (fun h => by cases h)
end

set_option maxRecDepth 100000 in
set_option maxHeartbeats 1000000 in
theorem few_any {w : World} {A : Option Addr} {cap : Nat} {d : List UInt8} (h : Bs w (.slice A d.length cap) d) (hc : d.length ≤ cap) (hm : cap ≤ maxLen) (hA : 0 < d.length → ∀ a, A = some a → a.add 0 = a) (hA0 : A = none → cap = 0) (n : Nat) (hn : n ≤ 1000) :
    Calls Try.prog 9 #[.slice A d.length cap, .int .i64 n] w fun e w' => ∃ v', e = .returned v' ∧ w'.ownsRow w.heap.size 5 1 v' (d.take n).length (encB (d.take n)) ∧ Kp (fun _ => False) w w' := by
  obtain ⟨i0, hi, hz0, hz1, hz2⟩ := info_parts infoB
  have hO := World.ownsRow_made (base := w.heap.size) (e := 5) (size := 1) w #[] 0 (Nat.le_refl _) (Nat.zero_le _) rfl
  have HO := Lib.hid hO
  have Hi := Lib.hid hi
  have Hz0 := Lib.hid hz0
  have Hz1 := Lib.hid hz1
  have Hz2 := Lib.hid hz2
  have hk : Kp (fun _ => False) w (w.alloc (.cells #[] 5)) := (Kp.refl _ w).alloc _
  unfold maxLen at hm
  clear hO hi hz0 hz1 hz2
  by_cases hlt : n < d.length
  · have htl : (d.take n).length = n := by rw [List.length_take]; omega
    have hX : Src (w.alloc (.cells #[] 5)) 1 (.slice A n cap) n (encB (d.take n)) := by
      obtain ⟨h1, h2, ⟨h3, h4⟩ | ⟨a, c, h3, h4⟩⟩ := h.kp hk (fun _ _ h => h)
      · omega
      · cases h3
        refine ⟨by rw [encB_len, htl, Nat.mul_one], encB_one _, .inr ⟨a, cap, rfl, fun j u hj => h4 j u ?_⟩⟩
        have hjl := (List.getElem?_eq_some_iff.1 hj).1
        rw [encB_len, htl] at hjl
        rw [encB, List.getElem?_map, List.getElem?_take, if_pos hjl, ← List.getElem?_map] at hj
        exact hj
    have HX := Lib.hid hX
    cases A with
    | none => have := hA0 rfl; omega
    | some a =>
      have ha := hA (by omega) a rfl
      have Htl := Lib.hid htl
      clear hX htl h hA hA0
      generalize d.length = m at *
      go_enter Try.func9, Try.ntmps9
      go_wp2_with (at_builtin; refine wpList_app rfl (.tmp 12) (.tmp 13) 22 rfl w.heap.size 5 i0 _ 1 1 Try.underlying22 Hi.out Hz0.out Hz1.out Hz2.out rfl (by decide) _ 0 [] rfl HO.out _ n _ rfl HX.out (by unfold maxLen; omega) (by omega) (by simp) ?_; intro v' w1 hown1 hg1 hn1; have Hown1 := Lib.hid hown1; have Hg1 := Lib.hid hg1; clear hown1 hg1 hn1)
      go_ret
      refine ⟨_, rfl, by rw [Htl.out]; simpa using Hown1.out, hk.grown Hg1.out ?_⟩
      intro i hi hlt
      have hi' : w.heap.size = i := Option.some.inj hi
      exact absurd hlt (by omega)
  · have htd : d.take n = d := List.take_of_length_le (by omega)
    rw [htd]
    have HX := Lib.hid (h.kp hk (fun _ _ h => h))
    clear h htd
    have hX2 : Src (w.alloc (.cells #[] 5)) 1 (.slice A d.length cap) d.length (encB d) := HX.out
    have HX2 := Lib.hid hX2
    clear hX2 HX
    generalize hdl : d.length = m at *
    clear hdl
    go_enter Try.func9, Try.ntmps9
    go_wp2_with (at_builtin; refine wpList_app rfl (.tmp 12) (.tmp 13) 22 rfl w.heap.size 5 i0 _ 1 1 Try.underlying22 Hi.out Hz0.out Hz1.out Hz2.out rfl (by decide) _ 0 [] rfl HO.out _ m _ rfl HX2.out (by unfold maxLen; omega) (by omega) (by simp) ?_; intro v' w1 hown1 hg1 hn1; have Hown1 := Lib.hid hown1; have Hg1 := Lib.hid hg1; clear hown1 hg1 hn1)
    go_ret
    refine ⟨_, rfl, by simpa using Hown1.out, hk.grown Hg1.out ?_⟩
    intro i hi hlt
    have hi' : w.heap.size = i := Option.some.inj hi
    exact absurd hlt (by omega)

/-- A slice of ints among the arguments. -/
theorem ints_of_rd {w : World} {R : Nat} {v : Value} (h : RdSl w R [RdI] v) : ∃ (A : Option Addr) (ds : List Int) (cap : Nat), v = .slice A ds.length cap ∧ ds.length ≤ cap ∧ cap ≤ maxLen ∧ ds.length * R ≤ reachBytes ∧ (∀ x ∈ ds, -9223372036854775808 ≤ x ∧ x ≤ 9223372036854775807) ∧
    (0 < ds.length → ∃ b off, A = some ⟨b, off, none⟩ ∧ b < w.heap.size ∧ ∀ i x, ds[i]? = some x → w.cell? ⟨b, off + i, none⟩ = some (.int .i64 x)) := by
  obtain ⟨A, len, cap, rfl, hlc, hcm, hr, hc⟩ := h
  rcases hc with rfl | ⟨b, off, rfl, hb, hcell⟩
  · exact ⟨A, [], cap, rfl, hlc, hcm, by simp, (fun x hx => by cases hx), fun h => by simp at h⟩
  · have hex : ∀ i, ∃ c : Int, i < len → w.cell? ⟨b, off + i, none⟩ = some (.int .i64 c) ∧ -9223372036854775808 ≤ c ∧ c ≤ 9223372036854775807 := fun i => by
      by_cases hi : i < len
      · obtain ⟨u, hu, x, rfl, x0, x1⟩ := hcell i hi 0 RdI rfl
        exact ⟨x, fun _ => ⟨by simpa using hu, x0, x1⟩⟩
      · exact ⟨0, fun h => absurd h hi⟩
    have hdl : ((List.range len).map (fun i => (hex i).choose)).length = len := by simp
    refine ⟨some ⟨b, off, none⟩, (List.range len).map (fun i => (hex i).choose), cap, by rw [hdl], by rw [hdl]; exact hlc, hcm, by rw [hdl]; exact hr, fun x hx => ?_, fun _ => ⟨b, off, rfl, hb, fun i x hi => ?_⟩⟩
    · obtain ⟨i, hi, rfl⟩ := List.mem_map.1 hx
      exact ((hex i).choose_spec (List.mem_range.1 hi)).2
    · have hil : i < len := by
        have := (List.getElem?_eq_some_iff.1 hi).1
        rw [hdl] at this
        exact this
      simp only [List.getElem?_map, List.getElem?_range hil, Option.map_some, Option.some.injEq] at hi
      rw [← hi]
      exact ((hex i).choose_spec hil).1
end Go.Proofs.Ytbkpapdbidbhaaa
