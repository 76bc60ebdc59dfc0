/-
  The walk of 'NetCounts'.
-/
import Derived.Test.YtelhnhnbfjamhaaNetRaw
import Derived.Deep.CutBlock
import Derived.RegionTactic
namespace Go.Proofs.Ytelhnhnbfjamhaa
open Go.RowKit

/-- The numbers of the packets rise, below n. -/
def Rise (ps : List Pk) (n : Int) : Prop := (ps.map (·.1)).Pairwise (· < ·) ∧ ∀ p ∈ ps, p.1 < n

/-- j packets of the numbers from n on. -/
def newPk (n : Int) : Nat → List Pk
  | 0 => []
  | j + 1 => newPk n j ++ [(n + j, ⟨#[]⟩)]

def CountsIn (W wr : World) (g : Nat) (k : Nat) (vc vn : Value) : Prop := ∃ (ps : List Pk) (nx : Int) (A : Option Addr) (cap : Nat), vc = .int .i64 ps.length ∧ vn = .int .i64 nx ∧ Rise ps nx ∧ 0 ≤ nx ∧ nx ≤ 30 * (k : Int) ∧ NetAt wr g (g + 1) A cap ps ∧ Below W.heap.size W wr

theorem newPk_len (n : Int) (j : Nat) : (newPk n j).length = j := by
  induction j with
  | zero => rfl
  | succ j ih => simp [newPk, ih]

theorem own_nil {w : World} {B n cap : Nat} {e : TypeId} {sz : Nat} {A : Option Addr} {xs : List Value} (h : w.ownsRow B e sz (.slice A n cap) n xs) : A = none → cap = 0 := by
  intro ha
  rcases h.2 with ⟨hv, _⟩ | ⟨g, c, _, hv, _⟩
  · cases hv; rfl
  · cases hv; cases ha
theorem own_max {w : World} {B n cap : Nat} {e : TypeId} {sz : Nat} {A : Option Addr} {xs : List Value} (h : w.ownsRow B e sz (.slice A n cap) n xs) : cap ≤ maxLen := by
  rcases h.2 with ⟨hv, _⟩ | ⟨g, c, _, hv, _, _, _, hc, _⟩
  · cases hv; exact Nat.zero_le _
  · cases hv; exact hc

theorem rise_erase {ps : List Pk} {n : Int} (h : Rise ps n) (i : Nat) : Rise (ps.eraseIdx i) n :=
  ⟨(h.1.sublist ((List.eraseIdx_sublist ps i).map _)), fun p hp => h.2 p (List.mem_of_mem_eraseIdx hp)⟩

theorem rise_put {ps : List Pk} {n : Int} (h : Rise ps n) (j t : Nat) : Rise (ps ++ (newPk n j).take t) (n + j) := by
  have h1 : Rise (ps ++ newPk n j) (n + j) := by
    induction j with
    | zero => simpa [newPk] using h
    | succ j ih =>
      obtain ⟨i1, i2⟩ := ih
      refine ⟨?_, ?_⟩
      · rw [newPk, ← List.append_assoc, List.map_append, List.pairwise_append]
        refine ⟨i1, by simp, ?_⟩
        intro a ha b hb
        simp only [List.map_cons, List.map_nil, List.mem_singleton] at hb
        subst hb
        obtain ⟨p, hp, rfl⟩ := List.mem_map.1 ha
        exact i2 p hp
      · intro p hp
        rw [newPk, ← List.append_assoc, List.mem_append] at hp
        rcases hp with hp | hp
        · have := i2 p hp; omega
        · simp only [List.mem_singleton] at hp; subst hp; show n + (j : Int) < _; omega
  exact ⟨h1.1.sublist (((List.take_sublist t _).append_left ps).map _), fun p hp => h1.2 p (((List.take_sublist t _).append_left ps).subset hp)⟩

theorem rise_at {ps : List Pk} {n : Int} (h : Rise ps n) (i : Nat) (p q : Pk) (hp : ps[i]? = some p) (hq : ps[i + 1]? = some q) : p.1 < q.1 := by
  have h1 := List.pairwise_iff_getElem.1 h.1 i (i + 1) (by have := (List.getElem?_eq_some_iff.1 hp).1; simpa using this) (by have := (List.getElem?_eq_some_iff.1 hq).1; simpa using this) (by omega)
  obtain ⟨a, rfl⟩ := List.getElem?_eq_some_iff.1 hp
  obtain ⟨b, rfl⟩ := List.getElem?_eq_some_iff.1 hq
  simpa using h1

set_option maxHeartbeats 1000000 in
set_option maxRecDepth 100000 in
theorem NetCounts_any (v : Value) (W : World) (hv : SlArg 22 W v) :
    Calls Try.prog 3 #[v] W fun e w' => e = .returned (.bool true) ∧ Below W.heap.size W w' := by
  obtain ⟨A, len, cap, rfl, hlc, hcm, hreach, hcells⟩ := rawN_rd hv
  unfold maxLen at hcm
  unfold reachBytes at hreach
  have Hc := Lib.hid hcells
  clear hcells hv
  have h0 : CountsIn W (W.alloc (.cells #[.slice none 0 0] 25)) W.heap.size 0 (.int .i64 0) (.int .i64 0) :=
    ⟨[], 0, none, 0, rfl, rfl, ⟨by simp, by simp⟩, by omega, by omega, net_new _ _ _ (Whole.new _ _ _) (by omega), (Below.refl _ W).alloc (Nat.le_refl _) _⟩
  have H0 := Lib.hid h0
  clear h0
  obtain ⟨g, hg⟩ : ∃ g, g = W.heap.size := ⟨_, rfl⟩
  have Hg := Lib.hid hg
  go_enter Try.func3, Try.ntmps3
  go_wp2_with fail
  rw [← hg]
  clear hg
  go_loopw [4, 5, 18] (fun vc vn vi wr => ∃ k : Nat, k ≤ len ∧ vi = .int .i64 k ∧ CountsIn W wr g k vc vn)
    (fun _ _ vi _ => len - (intOf vi).toNat)
  case atStart => exact ⟨0, Nat.zero_le _, rfl, by rw [Hg.out]; exact H0.out⟩
  case round =>
    obtain ⟨k, hk, rfl, ps, nx, A', cap', rfl, rfl, hr, hn0, hn1, hnet, hb⟩ := hrel
    by_cases hlt : k < len
    · rcases Hc.out with h0 | ⟨b, off, rfl, hbl, hcell⟩
      · omega
      · obtain ⟨u0, hu0, y0, rfl, l0, g0⟩ := hcell k hlt 0 RdI rfl
        obtain ⟨u1, hu1, y1, rfl, l1, g1⟩ := hcell k hlt 1 RdI rfl
        obtain ⟨u2, hu2, y2, rfl, l2, g2⟩ := hcell k hlt 2 RdI rfl
        obtain ⟨u3, hu3, y3, rfl, l3, g3⟩ := hcell k hlt 3 RdU8 rfl
        obtain ⟨u4, hu4, A4, len4, cap4, rfl, _, _, _, _⟩ := hcell k hlt 4 _ rfl
        clear hcell
        rw [← hb.cell (p := ⟨b, _, none⟩) hbl] at hu0 hu1 hu2 hu3 hu4
        simp only [List.length_cons, List.length_nil, Nat.zero_add, Nat.add_zero, Nat.reduceAdd] at hu0 hu1 hu2 hu3 hu4
        have p0 := pickF_lo y0 4 (by omega)
        have p0' := pickF_hi y0 4 (by omega)
        have hf := hnet.few
        go_upto_block 2 with (go_at_call 13; refine (pick_any _ _ _ (by omega) (by omega)).mono ?_; rintro e w' ⟨rfl, rfl⟩)
        have ex : Whole (wr.alloc (.cells #[.int .i64 y0, .int .i64 y1, .int .i64 y2, .int .u8 y3, .slice A4 len4 cap4] 28)) wr.heap.size 28 #[.int .i64 y0, .int .i64 y1, .int .i64 y2, .int .u8 y3, .slice A4 len4 cap4] := whole_at _ _ rfl rfl
        have en := hnet.alloc (.cells #[.int .i64 y0, .int .i64 y1, .int .i64 y2, .int .u8 y3, .slice A4 len4 cap4] 28)
        have eb := hb.alloc hb.size (.cells #[.int .i64 y0, .int .i64 y1, .int .i64 y2, .int .u8 y3, .slice A4 len4 cap4] 28)
        have hxn : ∀ i, NetS g A' i → ¬ i = wr.heap.size := fun i hi e => by have := hnet.lt hi; omega
        generalize wr.alloc (.cells #[.int .i64 y0, .int .i64 y1, .int .i64 y2, .int .u8 y3, .slice A4 len4 cap4] 28) = wz at ex en eb ⊢
        generalize wr.heap.size = gx at ex hxn ⊢
        clear hnet hb hu0 hu1 hu2 hu3 hu4
        have x1 := ex.cell 1
        have x2 := ex.cell 2
        simp at x1 x2
        have Hr := Lib.hid hr
        have Hxn := Lib.hid hxn
        clear hr hxn
        go_cut [4, 5] (fun s4 s5 wx => CountsIn W wx g (k + 1) s4 s5)
        case first =>
          by_cases hp : pickF y0 4 = 0
          · have hpb : (pickF y0 4 == 0) = true := by simp [hp]
            clear hp
            by_cases hz : ps.length = 0
            · obtain rfl : ps = [] := List.eq_nil_of_length_eq_zero hz
              go_wp2_with fail
              refine (pick_any _ _ _ (by omega) (by omega)).mono ?_
              rintro e w' ⟨rfl, rfl⟩
              go_wp2_with fail
              refine (net_take_none en _ (by simp)).mono ?_
              rintro e w1 ⟨rfl, hk1⟩
              have Hk1 := Lib.hid hk1
              clear hk1
              go_wp2_with fail
              go_meet
              exact ⟨[], nx, A', cap', rfl, rfl, Hr.out, hn0, by omega, (en.kp0 Hk1.out).alloc _, (eb.trans (Hk1.out.below0 eb.size)).alloc (by have := eb.size; have := Hk1.out.size; omega) _⟩
            · have hz' : 0 < ps.length := by omega
              clear hz
              go_wp2_with fail
              all_goals
                with_reducible refine (pick_nat _ _ _ (by omega) (by omega)).mono ?_
                rintro e w' ⟨i, _, hi, rfl, rfl⟩
                have hil : i < ps.length := by omega
                go_wp2_with fail
                with_reducible refine (net_take en (by have := en.cell.lt; omega) i _ (List.getElem?_eq_getElem hil)).mono ?_
                rintro e w1 ⟨rfl, hk1, hn1⟩
                have Hk1 := Lib.hid hk1
                have Hn1 := Lib.hid hn1
                clear hk1 hn1
                go_wp2_with fail
                go_meet
                refine ⟨ps.eraseIdx i, nx, A', cap', ?_, rfl, rise_erase Hr.out i, hn0, by omega, ?_, ?_⟩
                · rw [List.length_eraseIdx, if_pos hil, Int.natCast_sub hz']; rfl
                · exact Hn1.out.alloc _
                · exact (en.below eb Hk1.out (by rw [Hg.out]; exact Nat.le_refl _)).alloc (by have := eb.size; have := Hk1.out.size; omega) _
          · have hpb : (pickF y0 4 == 0) = false := by simp [hp]
            clear hp
            have q1 := pickF_lo y2 30 (by omega)
            have q2 := pickF_hi y2 30 (by omega)
            obtain ⟨m, hm⟩ : ∃ m : Nat, pickF y2 30 = m := ⟨(pickF y2 30).toNat, by omega⟩
            have Hm := Lib.hid hm
            clear hm
            have hx2 := ex.lt
            obtain ⟨i0, hii, hz0, hz1, hz2⟩ := info_parts infoPk
            have Hi := Lib.hid hii
            have Hz0 := Lib.hid hz0
            have Hz1 := Lib.hid hz1
            have Hz2 := Lib.hid hz2
            have hm30 : m < 30 := by have := Hm.out; omega
            clear hii hz0 hz1 hz2 q1 q2
            go_wp2_with fail
            go_loopw [5, 10, 11] (fun vn vl vi wr => ∃ j : Nat, j ≤ m ∧ vi = .int .i64 j ∧ vn = .int .i64 (nx + j) ∧ wr.ownsRow wz.heap.size 31 2 vl j (encs encPk (newPk nx j)) ∧ Kp (fun _ => False) wz wr)
              (fun _ _ vi _ => m - (intOf vi).toNat)
            case atStart => exact ⟨0, by omega, rfl, by simp, World.ownsRow_nil _ _ _ _, Kp.refl _ _⟩
            case round =>
              obtain ⟨j, hj, rfl, rfl, ho, hkp⟩ := hrel
              rw [← hkp.cell (p := ⟨gx, 2, none⟩) hx2 (fun h => h)] at x2
              have HO := Lib.hid (ho.alloc (.cells #[.int .i64 (nx + (j : Int)), .string ⟨#[]⟩] 31))
              have HX := Lib.hid (src_one wr (nx + (j : Int), ⟨#[]⟩))
              have Hk := Lib.hid hkp
              have Hon := Lib.hid ho
              clear ho hkp
              by_cases hjm : j < m
              · go_wp2_with first
                  | (go_at_call 13; refine (pick_any _ _ _ (by omega) (by omega)).mono ?_; rw [Hm.out]; rintro e w' ⟨rfl, rfl⟩)
                  | (at_builtin; refine wpList_app rfl (.tmp 32) (.tmp 35) 23 rfl wz.heap.size 31 i0 _ 2 24 Try.underlying23 Hi.out Hz0.out Hz1.out Hz2.out rfl (by decide) _ j _ rfl HO.out _ 1 _ rfl HX.out (by unfold maxLen; omega) (by omega) (by have := Hk.out.size; simp only [World.size_alloc]; omega) ?_; intro v' w1 hown1 hg1 hn1; have Hown1 := Lib.hid hown1; have Hg1 := Lib.hid hg1; clear hown1 hg1 hn1)
                go_roundw
                case rel =>
                  refine ⟨j + 1, by omega, by go_num, by go_num, ?_, ?_⟩
                  · have := Hown1.out
                    rw [← encs_append] at this
                    exact this
                  · refine (Hk.out.alloc _).grown Hg1.out (fun i hi hlt => ?_)
                    exact absurd (Hon.out.lt i hi).1 (by omega)
                case measure => simp [intOf]; omega
              · obtain rfl : j = m := by omega
                obtain ⟨A5, c5, rfl⟩ := own_form Hon.out
                have hsl := Hk.out.size
                have hgl := en.cell.lt
                have hnr := en.kp0 Hk.out
                have hS := ownsRow_src Hon.out (encs_one (fun x _ => encPk_one x))
                have hP := net_put (qs := newPk nx j) hnr (by omega) A5 c5 (by rw [newPk_len]; exact hS) (own_addr Hon.out) (own_nil Hon.out) (by rw [newPk_len]; exact own_le Hon.out) (own_max Hon.out)
                have htl : ((newPk nx j).take (64 - ps.length)).length = min (64 - ps.length) j := by rw [List.length_take, newPk_len]
                rw [newPk_len, htl] at hP
                have HP := Lib.hid hP
                have Htl := Lib.hid htl
                clear hS hP htl hnr hgl hsl
                by_cases hmin : j ≤ 64 - ps.length
                · rw [Nat.min_eq_right hmin] at HP Htl
                  have hmin1 : (j : Int) ≤ 64 - ps.length := by omega
                  go_wp2_with (go_at_call 13; refine (pick_any _ _ _ (by omega) (by omega)).mono ?_; rw [Hm.out]; rintro e w' ⟨rfl, rfl⟩)
                  refine (HP.out).mono ?_
                  rintro e w1 ⟨rfl, hk1, A1, c1, hn1, _⟩
                  have Hk1 := Lib.hid hk1
                  have Hn1 := Lib.hid hn1
                  clear hk1 hn1
                  go_wp2_with fail
                  go_meet
                  refine ⟨_, nx + (j : Int), A1, c1, ?_, rfl, rise_put Hr.out j _, by omega, by omega, Hn1.out, ?_⟩
                  · have := Htl.out
                    rw [List.length_append, this]
                    congr 1
                  · exact (eb.trans (Hk.out.below0 eb.size)).trans (Hk1.out.below (by have := Hk.out.size; have := eb.size; omega) (fun k hk => by have := netS_below en hk; have := Hg.out; omega))
                · have hmin1 : ¬ (j : Int) ≤ 64 - ps.length := by omega
                  rw [Nat.min_eq_left (by omega)] at HP Htl
                  go_wp2_with (go_at_call 13; refine (pick_any _ _ _ (by omega) (by omega)).mono ?_; rw [Hm.out]; rintro e w' ⟨rfl, rfl⟩)
                  refine (HP.out).mono ?_
                  rintro e w1 ⟨rfl, hk1, A1, c1, hn1, _⟩
                  have Hk1 := Lib.hid hk1
                  have Hn1 := Lib.hid hn1
                  clear hk1 hn1
                  go_wp2_with fail
                  go_meet
                  refine ⟨_, nx + (j : Int), A1, c1, ?_, rfl, rise_put Hr.out j _, by omega, by omega, Hn1.out, ?_⟩
                  · have := Htl.out
                    rw [List.length_append, this]
                    congr 1
                  · exact (eb.trans (Hk.out.below0 eb.size)).trans (Hk1.out.below (by have := Hk.out.size; have := eb.size; omega) (fun k hk => by have := netS_below en hk; have := Hg.out; omega))
        case rest =>
          clear hn0 hn1 hf ex x1 x2 eb en
          obtain ⟨ps', nx', A1, c1, rfl, rfl, hr, hn0, hn1, en, eb⟩ := hcut
          have hf := en.few
          have Hr := Lib.hid hr
          clear hr
          go_wp2_with fail
          refine (net_bag en).mono ?_
          rintro e w1 ⟨A2, c2, rfl, ho, hk1⟩
          have HS := Lib.hid ho
          have Hk1 := Lib.hid hk1
          clear ho hk1
          go_wp2_with fail
          have hbw : Below W.heap.size W w1 := eb.trans (Hk1.out.below0 eb.size)
          have Hbw := Lib.hid hbw
          have hnw := en.kp0 Hk1.out
          have Hnw := Lib.hid hnw
          clear hbw hnw en eb
          go_loopw [14] (fun vi wr => ∃ i : Nat, i ≤ 64 ∧ vi = .int .i64 ((i : Int) + 1) ∧ Dr wr w1) (fun vi _ => ps'.length - (intOf vi).toNat)
          case atStart => exact ⟨0, by omega, rfl, Dr.refl _⟩
          case round =>
            obtain ⟨i, hi64, rfl, d, rfl⟩ := hrel
            by_cases hin : i + 1 < ps'.length
            · obtain ⟨b2, rfl, hc2⟩ := own_some HS.out (by omega)
              have e1 := hc2 (i * 2) _ (pk0 (List.getElem?_eq_getElem (by omega)))
              have e2 := hc2 ((i + 1) * 2) _ (pk0 (List.getElem?_eq_getElem hin))
              have hlt2 := rise_at Hr.out i _ _ (List.getElem?_eq_getElem (by omega)) (List.getElem?_eq_getElem hin)
              generalize ps'[i] = p1 at e1 hlt2
              generalize ps'[i + 1] = p2 at e2 hlt2
              clear hc2
              go_wp2_with fail
              go_region
              go_wp2_with fail
              go_roundw
              case rel => exact ⟨i + 1, by omega, by go_num, d + 1, rfl⟩
              case measure => simp [intOf]; omega
            · go_wp2_with fail
              go_roundw
              case rel => exact ⟨k + 1, by omega, by go_num, ps', nx', A1, c1, rfl, rfl, Hr.out, hn0, hn1, Hnw.out.drewN _, Below.drewN' Hbw.out _⟩
              case measure => simp [intOf]; omega
    · go_wp2_with (go_at_call 17; refine (known_net _).mono ?_; rintro e w1 ⟨rfl, hb1⟩; have Hb1 := Lib.hid hb1; clear hb1)
      go_ret
      exact ⟨rfl, hb.trans (Hb1.out.mono hb.size)⟩
end Go.Proofs.Ytelhnhnbfjamhaa
