/-
  argosyref7.Recv: Put that goes well.
-/
import Derived.Test.YtbkpapdbidbhaaaRfPutE
namespace Go.Proofs.Ytbkpapdbidbhaaa
open Go.RowKit

section
variable {w w' w5 : World} {g : Nat} {v bv : Value} {s : RS} {ov : Nat} {B : List UInt8}
set_option maxRecDepth 100000 in
set_option maxHeartbeats 4000000 in
theorem q_put (h : RfAt w g v bv s ov B) (hok : s.Ok) (hG : ∀ j : Nat, InL s.L (j : Int) → B[j]? = s.d[j]?) (hBl : B.length ≤ 225000000000000) (o : Nat) (fin : Bool) {A : Option Addr} {m c : Nat} {p : List UInt8} (hp : Src w 1 (.slice A m c) m (encB p))
    (hfar : 0 < m → ∀ k, (Value.slice A m c).ownBlock = some k → k < w.heap.size ∧ k ≠ g ∧ bv.ownBlock ≠ some k) (he : putErr s (o : Int) fin m = 0) :
    Calls Try.prog 28 #[.pointer (some ⟨g, 0, none⟩), .int .i64 (o : Int), .bool fin, .slice A m c] w fun e w' =>
      e = .returned (.tuple #[.int .i64 ((putS s o fin p).top - s.top : Int), .int .i64 0]) ∧ ∃ v' bv' B', RfAt w' g v' bv' (putS s o fin p) ov B' ∧ (∀ j : Nat, InL (putS s o fin p).L (j : Int) → B'[j]? = (putS s o fin p).d[j]?) ∧ B'.length ≤ max B.length (o + m) ∧
      Kp (fun k => k = g ∨ bv.ownBlock = some k) w w' ∧ (v' = v ∨ ∀ k, v'.ownBlock = some k → w.heap.size ≤ k) ∧ (bv'.ownBlock = bv.ownBlock ∨ ∀ k, bv'.ownBlock = some k → w.heap.size ≤ k) := by
  have hpl : p.length = m := by have := hp.1; rw [encB_len] at this; omega
  have a1 := hok.told
  have a2 := hok.top
  have a3 := hok.en
  unfold putErr at he
  have e1 : ¬ ((o : Int) < 0 ∨ 4611686018427387903 - (m : Int) < (o : Int)) := fun hh => by rw [if_pos hh] at he; cases he
  rw [if_neg e1] at he
  have e2 : ¬ ((s.told : Int) < (o : Int) + (m : Int)) := fun hh => by rw [if_pos hh] at he; cases he
  rw [if_neg e2] at he
  have e3 : ¬ ((s.ended = true ∧ (s.en : Int) < (o : Int) + m) ∨ (fin = true ∧ s.ended = true ∧ (o : Int) + m ≠ s.en) ∨ (fin = true ∧ (o : Int) + m < s.top)) := fun hh => by rw [if_pos hh] at he; cases he
  have hto : o + m ≤ 225000000000000 := by omega
  obtain ⟨tt, htt⟩ : ∃ tt, tt = o + m := ⟨_, rfl⟩
  have hwt : (o : Int) + (m : Int) = (tt : Int) := by omega
  rw [hwt] at e2 e3
  have hgl := h.cell.lt
  have H := Lib.hid h
  have Hok := Lib.hid hok
  have HG := Lib.hid hG
  have Hp := Lib.hid hp
  have Hfar := Lib.hid hfar
  have He3 := Lib.hid e3
  have Hpl := Lib.hid hpl
  clear h hok hG hp hfar e3 hpl he
  obtain ⟨_, _, _, c3, _, c5, c6, _⟩ := H.out.all
  unfold endI at c6
  have hwr1 : IntKind.i64.wrap (4611686018427387903 - (m : Int)) = 4611686018427387903 - (m : Int) := IntWalk.i64_in _ (by omega)
  have hwr2 : IntKind.i64.wrap ((o : Int) + (m : Int)) = (tt : Int) := by rw [IntWalk.i64_in _ (by omega)]; omega
  have e4 : ¬ (o : Int) < 0 := by omega
  have e5 : ¬ (4611686018427387903 - (m : Int) < (o : Int)) := by omega
  have e6 : (o : Int) ≤ 4611686018427387903 - (m : Int) := by omega
  have e7 : (tt : Int) ≤ (s.told : Int) := by omega
  have ht7 : tt ≤ 225000000000000 := by omega
  have Htt := Lib.hid htt
  clear htt hwt
  go_enter Try.func28, Try.ntmps28
  go_upto_block 0 with fail
  go_cut [] (fun wx => wx = w)
  case first =>
    as_aux_lemma =>
      have he := He3.out
      clear He3
      cases hen : s.ended with
      | true =>
        rw [hen] at he
        rw [hen, if_pos rfl] at c6
        have d1 : ¬ ((s.en : Int) < (tt : Int)) := fun h => he (.inl ⟨rfl, h⟩)
        cases fin with
        | true =>
          have d2 : ((tt : Int) != (s.en : Int)) = false := by
            by_cases e : (tt : Int) = s.en
            · simp [e]
            · exact absurd (.inr (.inl ⟨rfl, rfl, e⟩)) he
          have d3 : ¬ ((tt : Int) < (s.top : Int)) := fun h => he (.inr (.inr ⟨rfl, h⟩))
          clear he
          go_wp2_with fail
          go_meet
          case rel => first | rfl | trivial
        | false =>
          clear he
          go_wp2_with fail
          go_meet
          case rel => first | rfl | trivial
      | false =>
        rw [hen] at he
        rw [hen, if_neg (by simp)] at c6
        cases fin with
        | true =>
          have d3 : ¬ ((tt : Int) < (s.top : Int)) := fun h => he (.inr (.inr ⟨rfl, h⟩))
          clear he
          go_wp2_with fail
          go_meet
          case rel => first | rfl | trivial
        | false =>
          clear he
          go_wp2_with fail
          go_meet
          case rel => first | rfl | trivial
  case rest =>
  have hwc := hcut.symm
  clear hcut
  subst hwc
  clear c3 c5 c6 hwr1 e4 e5 e6 e7 e1 e2
  go_wp2_with fail
  go_loopw [10] (fun vi wr => ∃ (i : Nat) (bvr : Value) (Br : List UInt8), i ≤ m ∧ vi = .int .i64 (i : Int) ∧ Hid (RfAt wr g v bvr s ov Br) ∧ Hid (PutI s o p B Br i) ∧ Hid (Kp (fun k => k = g ∨ bv.ownBlock = some k) w wr) ∧ Hid (bvr.ownBlock = bv.ownBlock ∨ ∀ k, bvr.ownBlock = some k → w.heap.size ≤ k))
    (fun vi _ => m - (intOf vi).toNat)
  case atStart => exact ⟨0, bv, B, by omega, rfl, H, Lib.hid ⟨HG.out, fun j h1 h2 => by omega, Nat.le_max_left _ _⟩, Lib.hid (Kp.refl _ _), Lib.hid (.inl rfl)⟩
  case round =>
  obtain ⟨i, bvr, Br, him, rfl, HR, HI, Hk, Hown⟩ := hrel
  have hgr := HR.out.cell.lt
  have hfew : s.L.length ≤ 1073741824 := by have := Hok.out.lf; omega
  by_cases hlt : i < m
  · have t0 : (i : Int) < (m : Int) := by omega
    as_aux_lemma =>
      have hwi : IntKind.i64.wrap ((o : Int) + (i : Int)) = ((o + i : Nat) : Int) := by rw [IntWalk.i64_in _ (by omega)]; omega
      have HH := Lib.hid (q_has HR.out.inn hfew ((o + i : Nat) : Int))
      have hii := has_iff s.L ((o + i : Nat) : Int)
      have hoi : ((o + i : Nat) : Int) = (o : Int) + (i : Int) := by omega
      obtain ⟨hb, hhb⟩ : ∃ hb, hb = s.L.any (hasP ((o + i : Nat) : Int)) := ⟨_, rfl⟩
      rw [← hhb] at HH hii
      have Hii := Lib.hid hii
      rw [hoi] at HH
      clear hhb hii
      cases hb with
      | true =>
        have HI2 := Lib.hid (puti_skip HI.out (Hii.out.1 rfl))
        go_wp2_with fail
        refine (HH.out).mono ?_
        rintro e w' ⟨rfl, rfl⟩
        go_wp2_with fail
        go_roundw
        case rel => exact ⟨i + 1, bvr, Br, by omega, by go_num, HR, HI2, Hk, Hown⟩
        case measure => simp [intOf]; omega
      | false =>
        have hno : ¬ InL s.L ((o + i : Nat) : Int) := fun h => by have := Hii.out.2 h; cases this
        obtain ⟨b, off, c', hv, hbl, hcell⟩ := Src.wide Hp.out (by omega) (by omega)
        cases hv
        obtain ⟨x, hx⟩ : ∃ x, p[i]? = some x := ⟨_, List.getElem?_eq_getElem (by have := Hpl.out; omega)⟩
        have y0 := hcell i (.int .u8 (x.toNat : Int)) (by unfold encB; rw [List.getElem?_map, hx]; rfl)
        have hfb := Hfar.out (by omega) b rfl
        rw [← Hk.out.cell (p := ⟨b, off + i, none⟩) hbl (fun e => e.elim hfb.2.1 hfb.2.2)] at y0
        have hblr := Nat.lt_of_lt_of_le hbl Hk.out.size
        have HI2 := Lib.hid (puti_lay Hok.out HI.out (by have := Hpl.out; omega) hno hx)
        have hBr := HI.out.len
        have hpl := Hpl.out
        have HL := Lib.hid (q_lay HR.out (o + i) (by omega) (by omega) x)
        rw [hoi] at HL
        clear hcell hx hno hfb
        go_wp2_with fail
        refine (HH.out).mono ?_
        rintro e w' ⟨rfl, rfl⟩
        go_wp2_with fail
        refine (HL.out).mono ?_
        rintro e w6 ⟨rfl, bv6, hr6, hk6, hn6⟩
        have hown := Hown.out
        have hs := Hk.out.size
        have Hk7 := Lib.hid (Hk.out.more hk6 (fun k hk e => e.elim .inl (fun e => hown.elim (fun h => .inr (h ▸ e)) (fun h => by have := h k e; omega))))
        have Hn7 : Hid (bv6.ownBlock = bv.ownBlock ∨ ∀ k, bv6.ownBlock = some k → w.heap.size ≤ k) := Lib.hid (by
          rcases hn6 with h | h
          · rcases hown with h' | h'
            · exact .inl (h.trans h')
            · exact .inr (fun k hk => h' k (h ▸ hk))
          · exact .inr (fun k hk => Nat.le_trans hs (h k hk)))
        have Hr6 := Lib.hid hr6
        clear hr6 hk6 hn6 HL HH hown hs
        go_wp2_with fail
        go_roundw
        case rel => exact ⟨i + 1, bv6, _, by omega, by go_num, Hr6, HI2, Hk7, Hn7⟩
        case measure => simp [intOf]; omega
  · obtain rfl : i = m := by omega
    have htt := Htt.out
    have hBr := HI.out.len
    have hpl := Hpl.out
    have HE := Lib.hid (puti_end (p := p) (o := o) Hok.out (fin := fin) (by omega) (by rw [hpl]; exact HI.out))
    have HA := Lib.hid (q_add HR.out.inn hfew (o : Int) (tt : Int))
    clear HI htt
    go_wp2_with fail
    refine (HA.out).mono ?_
    rintro e w6 ⟨rfl, v6, hs6, hk6, hv6⟩
    have hr6 := rf_set HR.out hs6 hk6 hv6
    have hv7 : v6 = v ∨ ∀ k, v6.ownBlock = some k → w.heap.size ≤ k := hv6.imp id (fun h k hk => Nat.le_trans Hk.out.size (h k hk))
    have Hv7 := Lib.hid hv7
    have Hk6 := Lib.hid (Hk.out.more hk6 (fun k _ e => .inl e))
    have Hr6 := Lib.hid hr6
    have Hs6 := Lib.hid (addS_in Hok.out.norm (by unfold EndS; omega) (f := (o : Int)) (t := (tt : Int)) (by omega) (by omega) (by omega) (by omega)).1
    obtain ⟨_, _, _, _, _, c5, c6, _⟩ := hr6.all
    have hg6 := hr6.cell.lt
    have f6 := hr6.cell.frozen 6
    clear hs6 hk6 hv6 hr6 hv7 HA HR Hk
    cases fin with
    | true =>
      have h7 := Hr6.out.put 6 (.int .i64 (tt : Int)) (s' := { s with L := addS s.L (o : Int) (tt : Int), ended := true, en := tt }) (ov' := ov) rfl rfl
      have Hk7 := Lib.hid (Hk6.out.more h7.2 (fun k _ e => .inl e))
      have HRi := Lib.hid (q_rise h7.1 tt (by omega) (by exact a2))
      clear h7
      go_wp2_with fail
      refine (HRi.out).mono ?_
      rintro e w8 ⟨rfl, hr8, hk8⟩
      have Hr8 := Lib.hid hr8
      have Hk8 := Lib.hid (Hk7.out.more hk8 (fun k _ e => .inl e))
      clear hr8 hk8 HRi
      go_wp2_with fail
      go_ret2
      have hps : putS s o true p = { s with L := addS s.L (o : Int) (tt : Int), d := (putS s o true p).d, ended := true, en := tt, top := max s.top tt } := by
        unfold putS
        rw [if_neg (fun h => by cases h.2), if_pos rfl, hpl, ← Htt.out, Bool.or_true]
      refine ⟨?_, v6, bvr, Br, ?_, HE.out, by rw [hpl] at hBr; exact hBr, Hk8.out, Hv7.out, Hown.out⟩
      · rw [hps]; rfl
      · rw [hps]
        exact ⟨Hr8.out.cell, Hr8.out.src, Hr8.out.row, Hr8.out.far1, Hr8.out.far2⟩
    | false =>
      by_cases hm0 : 0 < i
      · have t1 : (0 : Int) < (i : Int) := by omega
        have HRi := Lib.hid (q_rise Hr6.out tt (by omega) (by exact a2))
        go_wp2_with fail
        refine (HRi.out).mono ?_
        rintro e w8 ⟨rfl, hr8, hk8⟩
        have Hr8 := Lib.hid hr8
        have Hk8 := Lib.hid (Hk6.out.more hk8 (fun k _ e => .inl e))
        clear hr8 hk8 HRi
        go_wp2_with fail
        go_ret2
        have hps : putS s o false p = { s with L := addS s.L (o : Int) (tt : Int), d := (putS s o false p).d, top := max s.top tt } := by
          unfold putS
          rw [if_neg (fun h => by omega), if_neg (by simp), hpl, ← Htt.out, Bool.or_false]
        refine ⟨?_, v6, bvr, Br, ?_, HE.out, by rw [hpl] at hBr; exact hBr, Hk8.out, Hv7.out, Hown.out⟩
        · rw [hps]; rfl
        · rw [hps]
          exact ⟨Hr8.out.cell, Hr8.out.src, Hr8.out.row, Hr8.out.far1, Hr8.out.far2⟩
      · have t1 : ¬ (0 : Int) < (i : Int) := by omega
        have hi0 : i = 0 := by omega
        go_wp2_with fail
        go_ret2
        have hps : putS s o false p = { s with L := addS s.L (o : Int) (tt : Int), d := (putS s o false p).d } := by
          unfold putS
          rw [if_pos ⟨by omega, rfl⟩, if_neg (by simp), hpl, ← Htt.out, Bool.or_false]
        refine ⟨?_, v6, bvr, Br, ?_, HE.out, by rw [hpl] at hBr; exact hBr, Hk6.out, Hv7.out, Hown.out⟩
        · rw [hps]; simp
        · rw [hps]
          exact ⟨Hr6.out.cell, Hr6.out.src, Hr6.out.row, Hr6.out.far1, Hr6.out.far2⟩
end
end Go.Proofs.Ytbkpapdbidbhaaa
