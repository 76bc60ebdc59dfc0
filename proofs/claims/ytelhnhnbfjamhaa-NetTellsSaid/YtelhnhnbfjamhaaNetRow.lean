/-
  slices.Delete, Clone, Clip at the packets of a net.
-/
import Derived.Test.YtelhnhnbfjamhaaRow3
import Derived.Test.YtelhnhnbfjamhaaNet
namespace Go.Proofs.Ytelhnhnbfjamhaa
open Go.RowKit

theorem own_cap {w : World} {B g n cap : Nat} {e : TypeId} {sz : Nat} {xs : List Value} (h : w.ownsRow B e sz (.slice (some ⟨g, 0, none⟩) n cap) n xs) : n ≤ cap ∧ cap ≤ maxLen ∧ B ≤ g ∧ g < w.heap.size := by
  rcases id h.2 with ⟨hv, _⟩ | ⟨g', cap', cur, hv, hb, hg, hn, hc, _⟩
  · cases hv
  · cases hv
    exact ⟨hn, hc, hb, (Array.getElem?_eq_some_iff.1 hg).1⟩

set_option maxRecDepth 100000 in
set_option maxHeartbeats 1000000 in
theorem delete_pk {w : World} {B g n cap i : Nat} {xs : List Value} (hown : w.ownsRow B 31 2 (.slice (some ⟨g, 0, none⟩) n cap) n xs) (hi : i < n) (h1 : ∀ u ∈ xs, u.oneCell' = true) (hn : n ≤ 4398046511104) (hB : B ≤ w.heap.size) :
    Calls Try.prog 47 #[.slice (some ⟨g, 0, none⟩) n cap, .int .i64 i, .int .i64 (i + 1)] w fun e w' => e = .returned (.slice (some ⟨g, 0, none⟩) (n - 1) cap) ∧
      w'.ownsRow B 31 2 (.slice (some ⟨g, 0, none⟩) (n - 1) cap) (n - 1) (xs.take (i * 2) ++ xs.drop ((i + 1) * 2)) ∧ w.grownBy w' (some g) := by
  obtain ⟨i0, hii, hz0, hz1, hz2⟩ := info_parts infoPk
  obtain ⟨hnc, hcm, hbg, hgl⟩ := own_cap hown
  have hcm' : cap ≤ 9223372036854775807 := hcm
  have hO := ownsRow_take hown i (by omega)
  have hS : Src w.drew 2 (.slice (if cap = i + 1 then some ⟨g, 0, none⟩ else some ⟨g, (i + 1) * 2, none⟩) (n - (i + 1)) (cap - (i + 1))) (n - (i + 1)) (xs.drop ((i + 1) * 2)) := by
    refine ⟨by rw [List.length_drop, hown.1, Nat.sub_mul], fun u hu => h1 u (List.mem_of_mem_drop hu), .inr ⟨if cap = i + 1 then ⟨g, 0, none⟩ else ⟨g, (i + 1) * 2, none⟩, _, by split <;> rfl, fun j u hj => ?_⟩⟩
    rw [List.getElem?_drop] at hj
    have hlt := (List.getElem?_eq_some_iff.1 hj).1
    rw [hown.1] at hlt
    rw [if_neg (by omega)]
    have := hown.cells (g := g) rfl _ u hj
    rw [Addr.add_lit] at this ⊢
    simpa using this
  obtain ⟨m, hm⟩ : ∃ m, m = n - (i + 1) := ⟨_, rfl⟩
  have hnm : n - (i + 1) = m := hm.symm
  rw [hnm] at hS
  have hn1' : n - 1 = i + m := by omega
  have hnim : n - (i + m) = 1 := by omega
  have hcim : ¬ cap = i + m := by omega
  have himc : i + m ≤ n := by omega
  have Hown := Lib.hid hown
  have HO := Lib.hid hO
  have HS := Lib.hid hS
  have Hi := Lib.hid hii
  have Hz0 := Lib.hid hz0
  have Hz1 := Lib.hid hz1
  have Hz2 := Lib.hid hz2
  have hic : i ≤ cap := by omega
  have h0i : 0 ≤ (i : Int) + 1 := by omega
  have hjn : i + 1 ≤ n := by omega
  have hjn' : (i : Int) + 1 ≤ n := by omega
  have hni : ¬ ((i : Int) = (i : Int) + 1) := by omega
  rw [hn1']
  clear hown hO hS hii hz0 hz1 hz2 h1 hcm hm hn1'
  by_cases hcap : cap = i + 1
  · rw [if_pos hcap] at HS
    subst hcap
    obtain rfl : n = i + 1 := by omega
    obtain rfl : m = 0 := by omega
    have hii1 : (i : Int) ≤ (i : Int) + 1 := by omega
    clear hnm hcim hnim
    have hz : xs.drop ((i + 1) * 2) = [] := List.drop_of_length_le (by rw [Hown.out.1]; exact Nat.le_refl _)
    rw [hz, List.append_nil]
    clear hz
    go_enter Try.func47, Try.ntmps47
    go_wp2_with fail
    go_region
    all_goals
      go_wp2_with (refine wpList_clear rfl (.tmp 31) 23 rfl B 31 i0 _ 2 Try.underlying23 Hi.out Hz0.out rfl (by decide) g i (i + 1) _ _ _ HO.out.drew (by omega) _ (fun _ => rfl) rfl ?_; intro w2 hown2 hg2; have Hown2 := Lib.hid hown2; have Hg2 := Lib.hid hg2; clear hown2 hg2)
      go_ret
      exact ⟨rfl, Hown2.out, ⟨Hg2.out.os, Hg2.out.tape, Hg2.out.output, Hg2.out.size, Hg2.out.block⟩⟩
  · rw [if_neg hcap] at HS
    go_enter Try.func47, Try.ntmps47
    go_wp2_with fail
    go_region_law (refine step_app_room rfl (.tmp 22) (.tmp 25) 23 rfl B 31 i0 _ 2 24 Try.underlying23 Hi.out Hz0.out Hz1.out Hz2.out rfl (by decide) g i cap _ (by simp [Act.eval, Act.put]) HO.out (.slice (some ⟨g, (i + 1) * 2, none⟩) m (cap - (i + 1))) m _ (by simp [Act.eval, Act.put]) HS.out (by omega) (by omega) hB ?_; intro w1 hown1 hg1; have Hown1 := Lib.hid hown1; have Hg1 := Lib.hid hg1; clear hown1 hg1)
    all_goals
      go_wp2_with (refine wpList_clear rfl (.tmp 31) 23 rfl B 31 i0 _ 2 Try.underlying23 Hi.out Hz0.out rfl (by decide) g (i + m) cap _ _ _ Hown1.out (by omega) _ (fun _ => rfl) rfl ?_; intro w2 hown2 hg2; have Hown2 := Lib.hid hown2; have Hg2 := Lib.hid hg2; clear hown2 hg2)
      go_ret
      exact ⟨rfl, Hown2.out, ⟨Hg2.out.os.trans Hg1.out.os, Hg2.out.tape.trans Hg1.out.tape, Hg2.out.output.trans Hg1.out.output, Nat.le_trans Hg1.out.size Hg2.out.size, (kept_trans Hg1.out Hg2.out).block⟩⟩
end Go.Proofs.Ytelhnhnbfjamhaa
