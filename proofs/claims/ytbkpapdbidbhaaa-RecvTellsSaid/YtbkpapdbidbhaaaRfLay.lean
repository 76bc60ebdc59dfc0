/-
  argosyref7.Recv: lay.
-/
import Derived.Test.YtbkpapdbidbhaaaRf
import Derived.Test.YtbkpapdbidbhaaaRowW
namespace Go.Proofs.Ytbkpapdbidbhaaa
open Go.RowKit

/-- How long the slice in a cell is. -/
def cellLen (w : World) (p : Addr) : Nat := match w.cell? p with
  | some (.slice _ n _) => n
  | _ => 0
theorem cellLen_of {w : World} {p : Addr} {A : Option Addr} {n c : Nat} (h : w.cell? p = some (.slice A n c)) : cellLen w p = n := by unfold cellLen; rw [h]
/-- A byte at its place. -/
def layB (B : List UInt8) (a : Nat) (c : UInt8) : List UInt8 := (B ++ zeros (a + 1 - B.length)).set a c
section
variable {w w' w5 : World} {g : Nat} {v bv bv5 : Value} {s : RS} {ov : Nat} {B B' : List UInt8}
theorem Kp.more {S S2 : Nat → Prop} {w1 w2 : World} (h1 : Kp S w w1) (h2 : Kp S2 w1 w2) (h : ∀ k, k < w.heap.size → S2 k → S k) : Kp S w w2 :=
  ((h1.mono (S' := fun k => S k ∨ w.heap.size ≤ k) (fun _ _ e => .inl e)).trans (h2.mono (S' := fun k => S k ∨ w.heap.size ≤ k) (fun k _ e => (Nat.lt_or_ge k w.heap.size).elim (fun hk => .inl (h k hk e)) .inr))).mono (fun _ hk e => e.elim id (fun e => by omega))
/-- A row that grew is stored. -/
theorem rf_row (h : RfAt w g v bv s ov B) (hk : Kp (fun k => bv.ownBlock = some k) w w5) (hr : RowAt w5 0 1 bv5 B'.length (encB B')) (hn : bv5.ownBlock = bv.ownBlock ∨ ∀ k, bv5.ownBlock = some k → w.heap.size ≤ k) :
    RfAt (w5.setCell ⟨g, 4, none⟩ bv5) g v bv5 s ov B' ∧ Kp (fun k => k = g ∨ bv.ownBlock = some k) w (w5.setCell ⟨g, 4, none⟩ bv5) := by
  have hg := h.cell.lt
  have hset : Kp (fun k => k = g) w5 (w5.setCell ⟨g, 4, none⟩ bv5) := Kp.set (S := fun k => k = g) (Kp.refl _ w5) (p := ⟨g, 4, none⟩) (.inl rfl) _
  have hkk : Kp (fun k => k = g ∨ bv.ownBlock = some k) w (w5.setCell ⟨g, 4, none⟩ bv5) := (hk.mono (S' := fun k => k = g ∨ bv.ownBlock = some k) (fun _ _ e => .inr e)).trans (hset.mono (fun _ _ e => .inl e))
  have hgb : ¬ bv.ownBlock = some g := fun e => (h.far2 g e).2 rfl
  have hfar : ∀ k, bv5.ownBlock = some k → k ≠ g := fun k hk' e => by
    rcases hn with hn | hn
    · exact hgb (by rw [← hn, hk', e])
    · have := hn k hk'; omega
  refine ⟨⟨?_, ?_, hr.kp hset hfar, fun hL k hk' => ?_, fun k hk' => ?_⟩, hkk⟩
  · exact (hk.whole h.cell hgb).set 4 bv5
  · exact src_keep h.src hkk (fun hL k hk' e => by
      have := h.far1 hL k hk'
      rcases e with e | e
      · exact this.2.1 e
      · exact this.2.2 e)
  · have h1 := h.far1 hL k hk'
    refine ⟨Nat.lt_of_lt_of_le h1.1 hkk.size, h1.2.1, fun e => ?_⟩
    rcases hn with hn | hn
    · exact h1.2.2 (by rw [← hn]; exact e)
    · have := hn k e; omega
  · exact ⟨Nat.lt_of_lt_of_le (hr.lt k hk').2 hset.size, hfar k hk'⟩
/-- One of its bytes is written. -/
theorem rf_byte {gb off cap : Nat} (h : RfAt w g v (.slice (some ⟨gb, off, none⟩) B.length cap) s ov B) (a : Nat) (ha : a < B.length) (c : UInt8) :
    RfAt (w.setCell ⟨gb, off + a, none⟩ (.int .u8 (c.toNat : Int))) g v (.slice (some ⟨gb, off, none⟩) B.length cap) s ov (B.set a c) ∧ Kp (fun k => k = gb) w (w.setCell ⟨gb, off + a, none⟩ (.int .u8 (c.toNat : Int))) := by
  have hk : Kp (fun k => k = gb) w (w.setCell ⟨gb, off + a, none⟩ (.int .u8 (c.toNat : Int))) := Kp.set (S := fun k => k = gb) (Kp.refl _ w) (p := ⟨gb, off + a, none⟩) (.inl rfl) _
  have hg := h.far2 gb rfl
  refine ⟨⟨hk.whole h.cell (fun e => hg.2 e.symm), src_keep h.src hk (fun hL k hk' e => (h.far1 hL k hk').2.2 (by rw [e]; rfl)), ?_, fun hL k hk' => ?_, fun k hk' => ?_⟩, hk⟩
  · have := h.row.set a (.int .u8 (c.toNat : Int)) (by omega)
    rw [List.length_set, show encB (B.set a c) = (encB B).set a (.int .u8 (c.toNat : Int)) by unfold encB; rw [List.map_set]]
    exact this
  · exact ⟨Nat.lt_of_lt_of_le (h.far1 hL k hk').1 hk.size, (h.far1 hL k hk').2⟩
  · exact ⟨Nat.lt_of_lt_of_le (h.far2 k hk').1 hk.size, (h.far2 k hk').2⟩
set_option maxRecDepth 100000 in
set_option maxHeartbeats 2000000 in
theorem q_lay (h : RfAt w g v bv s ov B) (a : Nat) (ha : a ≤ 225000000000000) (hB : B.length ≤ 225000000000000) (c : UInt8) :
    Calls Try.prog 51 #[.pointer (some ⟨g, 0, none⟩), .int .i64 (a : Int), .int .u8 (c.toNat : Int)] w fun e w' => e = .returned (.tuple #[]) ∧ ∃ bv', RfAt w' g v bv' s ov (layB B a c) ∧ Kp (fun k => k = g ∨ bv.ownBlock = some k) w w' ∧ (bv'.ownBlock = bv.ownBlock ∨ ∀ k, bv'.ownBlock = some k → w.heap.size ≤ k) := by
  obtain ⟨j0, hjj, hy0, hy1, hy2⟩ := info_parts infoB
  have Hj := Lib.hid hjj
  have Hy0 := Lib.hid hy0
  have Hy1 := Lib.hid hy1
  have Hy2 := Lib.hid hy2
  have hgl := h.cell.lt
  have H := Lib.hid h
  have hcn := c.toNat_lt
  clear hjj hy0 hy1 hy2 h
  go_enter Try.func51, Try.ntmps51
  go_wp2_with fail
  go_loopw [] (fun wr => ∃ (k : Nat) (bvr : Value), (k = 0 ∨ B.length + k ≤ a + 1) ∧ Hid (RfAt wr g v bvr s ov (B ++ zeros k)) ∧ Hid (Kp (fun k => k = g ∨ bv.ownBlock = some k) w wr) ∧ Hid (bvr.ownBlock = bv.ownBlock ∨ ∀ k, bvr.ownBlock = some k → w.heap.size ≤ k))
    (fun wx => a + 1 - cellLen wx ⟨g, 4, none⟩)
  case atStart => exact ⟨0, bv, .inl rfl, Lib.hid (by rw [show zeros 0 = [] from rfl, List.append_nil]; exact H.out), Lib.hid (Kp.refl _ _), Lib.hid (.inl rfl)⟩
  case round =>
    obtain ⟨k, bvr, hk1, HR, Hk, Hown⟩ := hrel
    obtain ⟨Ab, cb, rfl⟩ := HR.out.row.form
    have hlen : (B ++ zeros k).length = B.length + k := by simp [zeros]
    rw [hlen] at HR Hown
    have c4 := HR.out.all.2.2.2.2.1
    have f4 := HR.out.cell.frozen 4
    have hgr := HR.out.cell.lt
    have hcl := cellLen_of c4
    by_cases hlt : B.length + k ≤ a
    · have t0 : ((B.length + k : Nat) : Int) ≤ (a : Int) := by omega
      generalize hbk : B.length + k = bk at *
      have Hbk := Lib.hid hbk
      have Hcl := Lib.hid hcl
      clear hbk hcl
      have HO : Hid (RowAt (wr.alloc (.cells #[.int .u8 0] 5)) 0 1 (.slice Ab bk cb) bk (encB (B ++ zeros k))) := Lib.hid (by have := HR.out.row.kp ((Kp.refl (fun _ => False) wr).alloc (.cells #[.int .u8 0] 5)) (fun _ _ h => h); rw [hlen] at this; exact this)
      have HS : Hid (Src (wr.alloc (.cells #[.int .u8 0] 5)) 1 (.slice (some ⟨wr.heap.size, 0, none⟩) 1 1) 1 (encB [0])) := Lib.hid (src_lit [0] (Whole.new _ _ _) rfl)
      clear hlen
      go_wp2_with (at_builtin; refine wpList_row_wide rfl (.tmp 17) (.tmp 18) 22 rfl 0 5 j0 _ 1 1 Try.underlying22 Hj.out Hy0.out Hy1.out Hy2.out rfl (by decide) _ bk _ rfl HO.out _ 1 _ rfl HS.out (by unfold maxLen; omega) (by omega) (Nat.zero_le _) ?_; intro v5 w5 hr5 hg5 hn5; have hk5 : Kp (fun k => (Value.slice Ab bk cb).ownBlock = some k) wr w5 := ((Kp.refl _ wr).alloc _).grown hg5 (fun i hi _ => hi); have d4 : w5.cell? ⟨g, 4, none⟩ = some (.slice Ab bk cb) := (hk5.cell (p := ⟨g, 4, none⟩) hgr (fun e => (HR.out.far2 g e).2 rfl)).trans c4; have e4 : w5.frozen? ⟨g, 4, none⟩ = false := (hk5.frozen (p := ⟨g, 4, none⟩) hgr (fun e => (HR.out.far2 g e).2 rfl)).trans f4; have hg9 := Nat.lt_of_lt_of_le hgr hk5.size; obtain ⟨A5, c5, hv5⟩ := hr5.form; subst hv5; have Hr5 := Lib.hid hr5; have Hk5 := Lib.hid hk5; have Hn5 := Lib.hid hn5; clear hr5 hg5 hn5 hk5)
      go_roundw
      case rel =>
        have hz : B ++ zeros (k + 1) = (B ++ zeros k) ++ [0] := by unfold zeros; rw [List.replicate_succ', List.append_assoc]
        have hr5 : RowAt w5 0 1 (.slice A5 (bk + 1) c5) (B ++ zeros (k + 1)).length (encB (B ++ zeros (k + 1))) := by
          have z1 : (B ++ zeros k ++ [(0 : UInt8)]).length = bk + 1 := by
            have := Hbk.out
            simp [zeros]
            omega
          have z2 : encB (B ++ zeros k ++ [(0 : UInt8)]) = encB (B ++ zeros k) ++ encB [0] := List.map_append
          rw [hz, z1, z2]
          exact Hr5.out
        have h6 := rf_row HR.out Hk5.out hr5 (Hn5.out.imp (fun h => h) (fun h j hj => by have := h j hj; simp only [World.size_alloc] at this; omega))
        have hown := Hown.out
        refine ⟨k + 1, .slice A5 (bk + 1) c5, .inr (by have := Hbk.out; omega), Lib.hid h6.1, Lib.hid (Hk.out.more h6.2 (fun j hj e => ?_)), Lib.hid ?_⟩
        · rcases e with e | e
          · exact .inl e
          · rcases hown with h | h
            · exact .inr (h ▸ e)
            · have := h j e; omega
        · have hs := Hk.out.size
          rcases Hn5.out with h | h
          · rcases hown with h' | h'
            · exact .inl (h.trans h')
            · exact .inr (fun j hj => h' j (h ▸ hj))
          · exact .inr (fun j hj => by have := h j hj; simp only [World.size_alloc] at this; omega)
      case measure =>
        have h6 : (w5.setCell ⟨g, 4, none⟩ (.slice A5 (bk + 1) c5)).cell? ⟨g, 4, none⟩ = some (.slice A5 (bk + 1) c5) := by
          have hw : Whole w5 g 58 (rfC v (.slice Ab bk cb) s ov) := Hk5.out.whole HR.out.cell (fun e => (HR.out.far2 g e).2 rfl)
          exact (hw.set 4 (.slice A5 (bk + 1) c5)).cell 4
        have h7 := cellLen_of h6
        have h8 := Hcl.out
        omega
    · have t0 : ¬ ((B.length + k : Nat) : Int) ≤ (a : Int) := by omega
      have hke : B ++ zeros k = B ++ zeros (a + 1 - B.length) := by
        rcases hk1 with rfl | hk1
        · rw [show a + 1 - B.length = 0 by omega]
        · rw [show a + 1 - B.length = k by omega]
      have hlay : layB B a c = (B ++ zeros k).set a c := by unfold layB; rw [hke]
      have Hlay := Lib.hid hlay
      have hrow := HR.out.row
      rw [hlen] at hrow
      obtain ⟨gb, off, cp, hv, _, hgb, hnc, _, hfz, hcells⟩ := hrow.full (by omega)
      cases hv
      obtain ⟨x, hx⟩ : ∃ x, (B ++ zeros k)[a]? = some x := ⟨_, List.getElem?_eq_getElem (by omega)⟩
      have y0 := hcells a (.int .u8 (x.toNat : Int)) (by unfold encB; rw [List.getElem?_map, hx]; rfl)
      have fz := hfz (off + a)
      have t1 : (a : Int) < ((B.length + k : Nat) : Int) := by omega
      have hlen2 : B.length + k = (B ++ zeros k).length := hlen.symm
      have h6 := rf_byte (B := B ++ zeros k) (by rw [← hlen2]; exact HR.out) a (by omega) c
      rw [← hlen2] at h6
      have H6 := Lib.hid h6
      have hown := Hown.out
      clear hcells hfz hx hrow hlay hke h6 hlen2 hlen
      generalize B.length + k = bk at *
      go_wp2_with fail
      refine ⟨rfl, .tuple #[], results_none rfl _ _ _, rfl, _, by rw [Hlay.out]; exact H6.out.1, Hk.out.more H6.out.2 (fun j hj e => ?_), hown⟩
      rcases hown with h | h
      · exact .inr (h ▸ (congrArg some e.symm))
      · have := h gb rfl; omega
end
end Go.Proofs.Ytbkpapdbidbhaaa
