/-
  The walk of 'NetKnown'.
-/
import Derived.Test.YtelhnhnbfjamhaaNetIn
namespace Go.Proofs.Ytelhnhnbfjamhaa
open Go.RowKit

def zpk : Pk := (0, ⟨#[]⟩)
def z70 : Array Value := Builtin.zeroCells #[.int .i64 0, .string ⟨#[]⟩] 70
theorem z70_list : z70.toList = encs encPk (List.replicate 70 zpk) := by kernel_rfl
theorem z70_src (w : World) : Src (w.alloc (.cells z70 31)) 2 (.slice (some ⟨w.heap.size, 0, none⟩) 70 70) 70 (encs encPk (List.replicate 70 zpk)) := by
  refine ⟨by kernel_rfl, encs_one (fun x _ => encPk_one x), .inr ⟨_, _, rfl, fun j u hj => ?_⟩⟩
  rw [Addr.add_lit, Nat.zero_add, (Whole.new w _ _).cell, ← hj, ← Array.getElem?_toList, z70_list]
def L64 : List Pk := List.replicate 64 zpk
def L63 : List Pk := List.replicate 63 zpk
def Lxy : List Pk := L63 ++ [(1, ⟨#[120, 121]⟩)]
def Lxx : List Pk := L63 ++ [(1, ⟨#[120, 120]⟩)]
def Lsw : List Pk := swapL Lxx 63 0 (1, ⟨#[120, 120]⟩) zpk

theorem xy_src (w : World) : Src (w.alloc (.cells #[.int .i64 1, .string ⟨#[120, 121]⟩, .int .i64 0, .string ⟨#[]⟩] 31)) 2 (.slice (some ⟨w.heap.size, 0, none⟩) 2 2) 2 (encs encPk [(1, ⟨#[120, 121]⟩), zpk]) := by
  refine ⟨rfl, encs_one (fun x _ => encPk_one x), .inr ⟨_, _, rfl, fun j u hj => ?_⟩⟩
  rw [Addr.add_lit, Nat.zero_add, (Whole.new w _ _).cell, ← hj, ← Array.getElem?_toList]
  congr 1

theorem put70 {W w : World} {g : Nat} (h : NetIn W w g []) (b : Nat) (hb : b = w.heap.size) : Calls Try.prog 15 #[.pointer (some ⟨g, 0, none⟩), .slice (some ⟨b, 0, none⟩) 70 70] (w.alloc (.cells z70 31)) fun e w' => e = .returned (.int .i64 64) ∧ NetIn W w' g L64 := by
  subst hb
  refine (put_in (h.alloc _) _ 70 (List.replicate 70 zpk) (z70_src w) (fun a ha => by cases ha; rfl) (fun h => by cases h) (Nat.le_refl _) (by simp [maxLen])).mono ?_
  rintro e w' ⟨rfl, h1, _⟩
  exact ⟨rfl, h1⟩
theorem put0 {W w : World} {g : Nat} (h : NetIn W w g L64) : Calls Try.prog 15 #[.pointer (some ⟨g, 0, none⟩), .slice none 0 0] w fun e w' => e = .returned (.int .i64 0) ∧ NetIn W w' g L64 := by
  refine (put_in h none 0 [] ⟨rfl, by simp [encs], .inl ⟨rfl, rfl⟩⟩ (fun a ha => by cases ha) (fun _ => rfl) (Nat.le_refl _) (by simp [maxLen])).mono ?_
  rintro e w' ⟨rfl, h1, _⟩
  exact ⟨rfl, by simpa using h1⟩
theorem dbl0 {W w : World} {g : Nat} (h : NetIn W w g L64) : Calls Try.prog 18 #[.pointer (some ⟨g, 0, none⟩), .int .i64 0] w fun e w' => e = .returned (.bool false) ∧ NetIn W w' g L64 := by
  refine (double_in h 0 zpk rfl).mono ?_
  rintro e w' ⟨rfl, h1, _⟩
  exact ⟨rfl, h1⟩
theorem tk63 {W w : World} {g : Nat} (h : NetIn W w g L64) : Calls Try.prog 14 #[.pointer (some ⟨g, 0, none⟩), .int .i64 63] w fun e w' => e = .returned (.tuple #[.agg #[.int .i64 0, .string ⟨#[]⟩], .bool true]) ∧ NetIn W w' g L63 := by
  refine (take_in h 63 zpk rfl).mono ?_
  rintro e w' ⟨rfl, h1, _⟩
  exact ⟨rfl, h1⟩
theorem put2 {W w : World} {g : Nat} (h : NetIn W w g L63) (b : Nat) (hb : b = w.heap.size) : Calls Try.prog 15 #[.pointer (some ⟨g, 0, none⟩), .slice (some ⟨b, 0, none⟩) 2 2] (w.alloc (.cells #[.int .i64 1, .string ⟨#[120, 121]⟩, .int .i64 0, .string ⟨#[]⟩] 31)) fun e w' => e = .returned (.int .i64 1) ∧ NetIn W w' g Lxy := by
  subst hb
  refine (put_in (h.alloc _) _ 2 [(1, ⟨#[120, 121]⟩), zpk] (xy_src w) (fun a ha => by cases ha; rfl) (fun h => by cases h) (Nat.le_refl _) (by simp [maxLen])).mono ?_
  rintro e w' ⟨rfl, h1, _⟩
  exact ⟨rfl, h1⟩
theorem trn1 {W w : World} {g : Nat} (h : NetIn W w g Lxy) : Calls Try.prog 19 #[.pointer (some ⟨g, 0, none⟩), .int .i64 63, .int .i64 1, .int .u8 1] w fun e w' => e = .returned (.bool true) ∧ NetIn W w' g Lxx := by
  refine (turn_in h 63 (1, ⟨#[120, 121]⟩) rfl (by simp [maxLen, ByteArray.size]) 1 1 (by decide)).mono ?_
  rintro e w' ⟨rfl, h1, _⟩
  have e : Lxy.set 63 (1, turnS ⟨#[120, 121]⟩ 1 1) = Lxx := by kernel_rfl
  rw [e] at h1
  exact ⟨rfl, h1⟩
theorem swp1 {W w : World} {g : Nat} (h : NetIn W w g Lxx) : Calls Try.prog 20 #[.pointer (some ⟨g, 0, none⟩), .int .i64 63, .int .i64 0] w fun e w' => e = .returned (.bool true) ∧ NetIn W w' g Lsw := by
  refine (swap_in h 63 0 (1, ⟨#[120, 120]⟩) zpk rfl rfl).mono ?_
  rintro e w' ⟨rfl, h1, _⟩
  exact ⟨rfl, h1⟩
theorem bag1 {W w : World} {g : Nat} (h : NetIn W w g Lsw) : Calls Try.prog 16 #[.pointer (some ⟨g, 0, none⟩)] w fun e w' => ∃ b, e = .returned (.slice (some ⟨b, 0, none⟩) 64 64) ∧ b < w'.heap.size ∧ w'.cell? ⟨b, 0, none⟩ = some (.int .i64 1) ∧ w'.cell? ⟨b, 1, none⟩ = some (.string ⟨#[120, 120]⟩) ∧ w'.cell? ⟨b, 126, none⟩ = some (.int .i64 0) ∧ w'.cell? ⟨b, 127, none⟩ = some (.string ⟨#[]⟩) ∧ NetIn W w' g Lsw := by
  refine (bag_in h).mono ?_
  rintro e w' ⟨A', cap', rfl, ho, h1, _⟩
  obtain ⟨b, rfl, hc⟩ := own_some ho (by decide)
  exact ⟨b, rfl, (own_cap ho).2.2.2, hc 0 _ rfl, hc 1 _ rfl, hc 126 _ rfl, hc 127 _ rfl, h1⟩

set_option maxHeartbeats 2000000 in
set_option maxRecDepth 100000 in
theorem NetKnown_any (W : World) : Calls Try.prog 4 #[] W fun e w' => e = .returned (.bool true) ∧ Below W.heap.size W w' := by
  have hmk : ∀ w, (Instr.makeSlice 23 (.int .i64 70) (.int .i64 70)).run Try.prog w = .ok (.slice (some ⟨w.heap.size, 0, none⟩) 70 70) (w.alloc (.cells z70 31)) := fun _ => by kernel_rfl
  have H0 := Lib.hid (net_new_in W)
  obtain ⟨g, hg⟩ : ∃ g, g = W.heap.size := ⟨_, rfl⟩
  have Hg := Lib.hid hg
  go_enter Try.func4, Try.ntmps4
  go_wp2_with fail
  rw [← hg]
  rw [← hg] at H0
  clear hg
  refine (take_none_in H0.out 0 (by simp)).mono ?_
  rintro e w1 ⟨rfl, h1, _⟩
  have H1 := Lib.hid (h1.alloc (.cells #[.int .i64 0, .string ⟨#[]⟩] 31))
  clear h1
  go_wp2_with fail
  refine (double_none_in H1.out 0 (by simp)).mono ?_
  rintro e w2 ⟨rfl, rfl⟩
  go_wp2_with fail
  with_reducible refine (put70 H1.out _ (by simp)).mono ?_
  rintro e w2 ⟨rfl, h1⟩
  have H2 := Lib.hid h1
  clear h1 H1
  go_wp2_with fail
  with_reducible refine (dbl0 H2.out).mono ?_
  rintro e w3 ⟨rfl, h1⟩
  have H3 := Lib.hid h1
  clear h1 H2
  go_wp2_with fail
  with_reducible refine (put0 H3.out).mono ?_
  rintro e w4 ⟨rfl, h1⟩
  have H4 := Lib.hid h1
  clear h1 H3
  go_wp2_with fail
  with_reducible refine (tk63 H4.out).mono ?_
  rintro e w5 ⟨rfl, h1⟩
  have H5 := Lib.hid h1
  clear h1 H4
  go_wp2_with fail
  with_reducible refine (put2 H5.out _ (by simp)).mono ?_
  rintro e w6 ⟨rfl, h1⟩
  have H6 := Lib.hid h1
  clear h1 H5
  go_wp2_with fail
  with_reducible refine (trn1 H6.out).mono ?_
  rintro e w7 ⟨rfl, h1⟩
  have H7 := Lib.hid h1
  clear h1 H6
  go_wp2_with fail
  refine (turn_out_in H7.out 63 (1, ⟨#[120, 120]⟩) rfl (by simp [maxLen, ByteArray.size]) 2 1 (by decide)).mono ?_
  rintro e w8 ⟨rfl, rfl⟩
  go_wp2_with fail
  with_reducible refine (turn_none_in H7.out 64 0 1 (by decide)).mono ?_
  rintro e w8 ⟨rfl, rfl⟩
  go_wp2_with fail
  refine (turn_out_in H7.out 0 zpk rfl (by simp [maxLen, zpk, ByteArray.size]) 0 1 (by decide)).mono ?_
  rintro e w8 ⟨rfl, rfl⟩
  go_wp2_with fail
  with_reducible refine (swp1 H7.out).mono ?_
  rintro e w8 ⟨rfl, h1⟩
  have H8 := Lib.hid h1
  clear h1 H7
  go_wp2_with fail
  with_reducible refine (swap_none_in H8.out 0 64 (by decide)).mono ?_
  rintro e w9 ⟨rfl, rfl⟩
  go_wp2_with fail
  with_reducible refine (swap_none_in H8.out (-1) 0 (by decide)).mono ?_
  rintro e w9 ⟨rfl, rfl⟩
  go_wp2_with fail
  with_reducible refine (bag1 H8.out).mono ?_
  rintro e w9 ⟨b, rfl, hb, c0, c1, c2, c3, h1⟩
  have H9 := Lib.hid h1
  clear h1 H8
  go_wp2_with fail
  with_reducible refine (known_net _).mono ?_
  rintro e wk ⟨rfl, h1⟩
  rw [← h1.cell (p := ⟨b, _, none⟩) hb] at c0 c1 c2 c3
  have Hk := Lib.hid h1
  clear h1
  go_wp2_with fail
  go_ret
  exact ⟨rfl, H9.out.below.trans (Hk.out.mono H9.out.below.size)⟩
end Go.Proofs.Ytelhnhnbfjamhaa
