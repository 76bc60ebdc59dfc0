/-
  argosylaw24.known.
-/
import Derived.Test.YtelhnhnbfjamhaaNetTake
namespace Go.Proofs.Ytelhnhnbfjamhaa
open Go.RowKit

theorem net_new (w : World) (g B : Nat) (hw : Whole w g 25 #[.slice none 0 0]) (hB : g < B) : NetAt w g B none 0 [] :=
  ⟨hw, World.ownsRow_nil _ _ _ _, hB, by simp⟩

theorem NetAt.alloc {w : World} {g B : Nat} {A : Option Addr} {cap : Nat} {ps : List Pk} (h : NetAt w g B A cap ps) (o : Obj) : NetAt (w.alloc o) g B A cap ps := ⟨h.cell.alloc _, h.own.alloc _, h.far, h.few⟩

theorem netS_below {w : World} {g B : Nat} {A : Option Addr} {cap : Nat} {ps : List Pk} (h : NetAt w g B A cap ps) {k : Nat} (hk : NetS g A k) : g ≤ k := by
  rcases hk with rfl | hk
  · exact Nat.le_refl _
  · have := (h.own.lt k (own_map.trans hk)).1
    have := h.far
    omega

theorem own_some {w : World} {B n cap : Nat} {A : Option Addr} {e : TypeId} {xs : List Value} {sz : Nat} (h : w.ownsRow B e sz (.slice A n cap) n xs) (hn : 0 < n) : ∃ b, A = some ⟨b, 0, none⟩ ∧ ∀ j u, xs[j]? = some u → w.cell? ⟨b, j, none⟩ = some u := by
  rcases id h.2 with ⟨hv, h0⟩ | ⟨b, c, _, hv, _⟩
  · omega
  · cases hv
    refine ⟨b, rfl, fun j u hj => ?_⟩
    have := h.cells (g := b) rfl j u hj
    rw [Addr.add_lit, Nat.zero_add] at this
    exact this
theorem own_one {w : World} {B cap : Nat} {A : Option Addr} {p : Pk} {e : TypeId} (h : w.ownsRow B e 2 (.slice A [p].length cap) [p].length (encs encPk [p])) : ∃ b, A = some ⟨b, 0, none⟩ ∧ w.cell? ⟨b, 0, none⟩ = some (.int .i64 p.1) ∧ w.cell? ⟨b, 1, none⟩ = some (.string p.2) := by
  obtain ⟨b, rfl, hc⟩ := own_some h (by simp)
  exact ⟨b, rfl, hc 0 _ rfl, hc 1 _ rfl⟩

set_option maxRecDepth 100000 in
set_option maxHeartbeats 2000000 in
theorem known_net (W : World) : Calls Try.prog 17 #[] W fun e w' => e = .returned (.bool true) ∧ Below W.heap.size W w' := by
  have h0 : NetAt ((W.alloc (.cells #[.slice none 0 0] 25)).alloc (.cells #[.int .i64 1, .string ⟨#[97]⟩, .int .i64 0, .string ⟨#[98]⟩] 31)) W.heap.size (W.heap.size + 1) none 0 [] :=
    net_new _ _ _ ((Whole.new _ _ _).alloc _) (by omega)
  have hs : Src ((W.alloc (.cells #[.slice none 0 0] 25)).alloc (.cells #[.int .i64 1, .string ⟨#[97]⟩, .int .i64 0, .string ⟨#[98]⟩] 31)) 2 (.slice (some ⟨W.heap.size + 1, 0, none⟩) 2 2) 2 (encs encPk [(1, ⟨#[97]⟩), (0, ⟨#[98]⟩)]) := by
    refine ⟨rfl, encs_one (fun x _ => encPk_one x), .inr ⟨_, _, rfl, fun j u hj => ?_⟩⟩
    rw [Addr.add_lit, Nat.zero_add, (whole_at (g := W.heap.size + 1) 31 _ rfl (by simp)).cell]
    match j, hj with
    | 0, hj => simpa [encs, encPk] using hj
    | 1, hj => simpa [encs, encPk] using hj
    | 2, hj => simpa [encs, encPk] using hj
    | 3, hj => simpa [encs, encPk] using hj
    | j + 4, hj => simp [encs, encPk] at hj
  have H0 := Lib.hid h0
  have Hs := Lib.hid hs
  have hp : ∀ w, NetAt w W.heap.size (W.heap.size + 1) none 0 [] → Src w 2 (.slice (some ⟨W.heap.size + 1, 0, none⟩) 2 2) 2 (encs encPk [(1, ⟨#[97]⟩), (0, ⟨#[98]⟩)]) → W.heap.size + 1 ≤ w.heap.size →
      Calls Try.prog 15 #[.pointer (some ⟨W.heap.size, 0, none⟩), .slice (some ⟨W.heap.size + 1, 0, none⟩) 2 2] w fun e w' => e = .returned (.int .i64 2) ∧ Kp (fun k => k = W.heap.size) w w' ∧ ∃ A c, NetAt w' W.heap.size (W.heap.size + 1) A c [(1, ⟨#[97]⟩), (0, ⟨#[98]⟩)] := by
    intro w h1 h2 h3
    refine (net_put (qs := [(1, ⟨#[97]⟩), (0, ⟨#[98]⟩)]) h1 h3 (some ⟨W.heap.size + 1, 0, none⟩) 2 h2 (fun a ha => by cases ha; rfl) (fun h => by cases h) (Nat.le_refl _) (by simp [maxLen])).mono ?_
    rintro e w' ⟨rfl, hk, A, c, hn, _⟩
    exact ⟨rfl, hk.mono (fun k _ h => by rcases h with h | h; exact h; cases h), A, c, hn⟩
  have ht : ∀ w A c, NetAt w W.heap.size (W.heap.size + 1) A c [(1, ⟨#[97]⟩), (0, ⟨#[98]⟩)] → W.heap.size + 1 ≤ w.heap.size →
      Calls Try.prog 14 #[.pointer (some ⟨W.heap.size, 0, none⟩), .int .i64 0] w fun e w' => e = .returned (.tuple #[.agg #[.int .i64 1, .string ⟨#[97]⟩], .bool true]) ∧ Kp (NetS W.heap.size A) w w' ∧ NetAt w' W.heap.size (W.heap.size + 1) A c [(0, ⟨#[98]⟩)] := by
    intro w A c h1 h2
    exact net_take h1 h2 0 _ rfl
  have Hp := Lib.hid hp
  have Ht := Lib.hid ht
  clear h0 hs hp ht
  go_enter Try.func17, Try.ntmps17
  go_wp2_with first
    | (go_at_call 15; refine (Hp.out _ H0.out Hs.out (by simp only [World.size_alloc]; omega)).mono ?_; rintro e w1 ⟨rfl, hk1, A1, c1, hn1⟩; have Hk1 := Lib.hid hk1; have Hn1 := Lib.hid hn1; have hs1 := hk1.size; simp only [World.size_alloc] at hs1; clear hk1 hn1)
    | (go_at_call 14; refine (Ht.out _ _ _ Hn1.out (by omega)).mono ?_; rintro e w2 ⟨rfl, hk2, hn2⟩; have Hk2 := Lib.hid hk2; have Hn2 := Lib.hid hn2; have hs2 := hk2.size; clear hk2 hn2)
    | (go_at_call 16; refine (net_bag (NetAt.alloc Hn2.out _)).mono ?_; rintro e w3 ⟨A3, c3, rfl, ho3, hk3⟩; obtain ⟨b3, rfl, q0, q1⟩ := own_one ho3; have p0 := (hk3.whole (Whole.new w2 _ _) (fun h => h)).cell 0; have p1 := (hk3.whole (Whole.new w2 _ _) (fun h => h)).cell 1; have Ho3 := Lib.hid ho3; have Hk3 := Lib.hid hk3; have hs3 := hk3.size; simp only [World.size_alloc] at hs3; clear ho3 hk3)
  go_ret
  refine ⟨by simp, ?_⟩
  have b0 : Below W.heap.size W ((W.alloc (.cells #[.slice none 0 0] 25)).alloc (.cells #[.int .i64 1, .string ⟨#[97]⟩, .int .i64 0, .string ⟨#[98]⟩] 31)) := ((Below.refl _ W).alloc (Nat.le_refl _) _).alloc (by simp) _
  have b1 := b0.trans (Hk1.out.below (B := W.heap.size) (by simp only [World.size_alloc]; omega) (fun k hk => by omega))
  have b2 := b1.trans (Hk2.out.below (B := W.heap.size) (by omega) (fun k hk => netS_below Hn1.out hk))
  have b3 := b2.trans ((Below.refl W.heap.size w2).alloc (by omega) (.cells #[.int .i64 1, .string ⟨#[97]⟩] 31))
  exact b3.trans (Hk3.out.below (B := W.heap.size) (by simp only [World.size_alloc]; omega) (fun k hk => hk.elim))
end Go.Proofs.Ytelhnhnbfjamhaa
