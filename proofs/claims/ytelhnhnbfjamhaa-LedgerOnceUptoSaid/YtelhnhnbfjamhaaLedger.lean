/-
  Package ledger: packets without frames; own, Put.
-/
import Derived.Test.YtelhnhnbfjamhaaRow4
import Derived.Test.YtelhnhnbfjamhaaPick
import Derived.Lib.SliceRun
import Derived.Deep.CutBlock
import Derived.Deep.QuietTactic
import Derived.BigQuiet
import Derived.Outline
namespace Go.Proofs.Ytelhnhnbfjamhaa
open Go.RowKit

/-- A packet that was sent, without frames: its number, when, whether it elicits. -/
abbrev St := Int × Int × Bool
def encS (s : St) : List Value := [.int .i64 s.1, .int .i64 s.2.1, .bool s.2.2, .slice none 0 0]
abbrev aggS (s : St) : Value := .agg #[.int .i64 s.1, .int .i64 s.2.1, .bool s.2.2, .slice none 0 0]
theorem encS_len (s : St) : (encS s).length = 4 := rfl
theorem encS_one (zs : List St) : ∀ u ∈ encs encS zs, u.oneCell' = true :=
  encs_one (fun z _ u hu => by
    simp only [encS, List.mem_cons, List.not_mem_nil, or_false] at hu
    rcases hu with rfl | rfl | rfl | rfl <;> rfl)
theorem infoS : (Try.prog.info? 80).map (fun i => (i.zero, i.size, i.bytes)) = some (some (.agg #[.int .i64 0, .int .i64 0, .bool false, .slice none 0 0]), 4, 48) := by kernel_rfl

theorem ss0 {zs : List St} {i : Nat} {z : St} (hi : zs[i]? = some z) : (encs encS zs)[i * 4]? = some (.int .i64 z.1) := encs_get encS_len zs i 0 z hi (by omega)
theorem ss1 {zs : List St} {i : Nat} {z : St} (hi : zs[i]? = some z) : (encs encS zs)[i * 4 + 1]? = some (.int .i64 z.2.1) := encs_get encS_len zs i 1 z hi (by omega)
theorem ss2 {zs : List St} {i : Nat} {z : St} (hi : zs[i]? = some z) : (encs encS zs)[i * 4 + 2]? = some (.bool z.2.2) := encs_get encS_len zs i 2 z hi (by omega)
theorem ss3 {zs : List St} {i : Nat} {z : St} (hi : zs[i]? = some z) : (encs encS zs)[i * 4 + 3]? = some (.slice none 0 0) := encs_get encS_len zs i 3 z hi (by omega)

theorem Src.wide {w : World} {sz m : Nat} {v : Value} {xs : List Value} (h : Src w sz v m xs) (hm : 0 < m) (hs : 0 < sz) : ∃ b off c, v = .slice (some ⟨b, off, none⟩) m c ∧ b < w.heap.size ∧ ∀ j u, xs[j]? = some u → w.cell? ⟨b, off + j, none⟩ = some u := by
  obtain ⟨hl, _, ⟨rfl, h0⟩ | ⟨a, c, rfl, hc⟩⟩ := h
  · omega
  · have hpos : 0 < xs.length := by rw [hl]; exact Nat.mul_pos hm hs
    have h00 := hc 0 xs[0] (List.getElem?_eq_getElem hpos)
    have hlt := World.block_lt_of_cell? w _ h00
    have hsp : a.spot = none := by
      unfold World.cell? at h00
      split at h00
      · split at h00
        · cases h00
        · rename_i hsp
          cases a with
          | mk b o sp =>
            cases sp with
            | none => rfl
            | some x => simp [Addr.add] at hsp
      · cases h00
    obtain ⟨b, off, sp⟩ := a
    obtain rfl := hsp
    refine ⟨b, off, c, rfl, ?_, fun j u hj => ?_⟩
    · rw [Addr.add_lit] at hlt; exact hlt
    · have := hc j u hj
      rw [Addr.add_lit] at this
      exact this

/-- A block that holds a row's cells, as a slice that is read. -/
theorem srcW {w : World} {b : Nat} {e : TypeId} {sz n c : Nat} (xs : List Value) (h : Whole w b e xs.toArray) (hl : xs.length = n * sz) (h1 : ∀ u ∈ xs, u.oneCell' = true) : Src w sz (.slice (some ⟨b, 0, none⟩) n c) n xs := by
  refine ⟨hl, h1, .inr ⟨_, _, rfl, fun j u hj => ?_⟩⟩
  rw [Addr.add_lit, Nat.zero_add, h.cell]
  simpa using hj

/-- The ledger l: what is out lies in a row v behind B. -/
structure LAt (w : World) (l B : Nat) (v : Value) (zs : List St) (next top : Int) : Prop where
  cell : Whole w l 76 #[v, .int .i64 next, .int .i64 top]
  row : RowAt w B 4 v zs.length (encs encS zs)
  far : ∀ k, v.ownBlock = some k → k ≠ l
theorem LAt.kp {S : Nat → Prop} {w w' : World} {l B : Nat} {v : Value} {zs : List St} {next top : Int} (h : LAt w l B v zs next top) (hk : Kp S w w') (h1 : ¬ S l) (h2 : ∀ k, v.ownBlock = some k → ¬ S k) : LAt w' l B v zs next top :=
  ⟨hk.whole h.cell h1, h.row.kp hk h2, h.far⟩
theorem LAt.new (w : World) (B : Nat) : LAt (w.alloc (.cells #[.slice none 0 0, .int .i64 0, .int .i64 0] 76)) w.heap.size B (.slice none 0 0) [] 0 0 :=
  ⟨Whole.new _ _ _, RowAt.nil _ _ _, fun k hk => by cases hk⟩

theorem clone_f (w : World) : Calls Try.prog 69 #[.slice none 0 0] w fun e w' => e = .returned (.slice none 0 0) ∧ w = w' := by
  have q : ∀ (w : World) (a : Option Addr) (n c n' c' : Nat), (binOp .eql 78 (.slice a n c) (.slice none n' c')).run Try.prog w = .ok (.bool a.isNone) w := fun w a n c n' c' => Lib.run_eql_slice_nil w _ _ a n c n' c' Try.underlying78
  go_enter Try.func69, Try.ntmps69
  go_wp2_with fail
  go_ret
  exact ⟨rfl, rfl⟩
theorem clip_f (w : World) : Calls Try.prog 68 #[.slice none 0 0] w fun e w' => e = .returned (.slice none 0 0) ∧ w = w' := by
  go_enter Try.func68, Try.ntmps68
  go_wp2_with fail
  go_ret
  exact ⟨rfl, rfl⟩

set_option maxRecDepth 100000 in
set_option maxHeartbeats 1000000 in
theorem own_s (w : World) (n a : Int) (el : Bool) :
    Calls Try.prog 56 #[.agg #[.int .i64 n, .int .i64 a, .bool el, .slice none 0 0]] w fun e w' => e = .returned (.agg #[.int .i64 n, .int .i64 a, .bool el, .slice none 0 0]) ∧ Kp (fun _ => False) w w' := by
  go_enter Try.func56, Try.ntmps56
  go_wp2_with fail
  with_reducible refine (clone_f _).mono ?_
  rintro e w1 ⟨rfl, rfl⟩
  go_wp2_with fail
  with_reducible refine (clip_f _).mono ?_
  rintro e w1 ⟨rfl, rfl⟩
  go_wp2_with fail
  have h0 : Whole ((w.alloc (.cells #[.int .i64 n, .int .i64 a, .bool el, .slice none 0 0] 80)).alloc (.cells #[.int .i64 0, .int .i64 0, .bool false, .slice none 0 0] 80)) w.heap.size 80 #[.int .i64 n, .int .i64 a, .bool el, .slice none 0 0] := (whole_at _ _ rfl rfl).alloc _
  have h1 : Whole ((w.alloc (.cells #[.int .i64 n, .int .i64 a, .bool el, .slice none 0 0] 80)).alloc (.cells #[.int .i64 0, .int .i64 0, .bool false, .slice none 0 0] 80)) (w.heap.size + 1) 80 #[.int .i64 0, .int .i64 0, .bool false, .slice none 0 0] := whole_at _ _ rfl (by simp)
  have hk : Kp (fun _ => False) w ((w.alloc (.cells #[.int .i64 n, .int .i64 a, .bool el, .slice none 0 0] 80)).alloc (.cells #[.int .i64 0, .int .i64 0, .bool false, .slice none 0 0] 80)) := ((Kp.refl _ w).alloc _).alloc _
  generalize (w.alloc (.cells #[.int .i64 n, .int .i64 a, .bool el, .slice none 0 0] 80)).alloc (.cells #[.int .i64 0, .int .i64 0, .bool false, .slice none 0 0] 80) = w2 at h0 h1 hk ⊢
  go_loopw [13] (fun vi wr => vi = .int .i64 0 ∧ wr = w2) (fun _ _ => 0)
  case atStart => exact ⟨rfl, rfl⟩
  case round =>
    obtain ⟨rfl, rfl⟩ := hrel
    have a0 := h0.cell 0
    have a1 := h0.cell 1
    have a2 := h0.cell 2
    have a3 := h0.cell 3
    have b0 := h1.cell 0
    have b1 := h1.cell 1
    have b2 := h1.cell 2
    have b3 := h1.cell 3
    have f0 := h1.frozen 0
    have f1 := h1.frozen 1
    have f2 := h1.frozen 2
    have f3 := h1.frozen 3
    simp at a0 a1 a2 a3 b0 b1 b2 b3
    have z := (((h1.set 0 (.int .i64 n)).set 1 (.int .i64 a)).set 2 (.bool el)).set 3 (.slice none 0 0)
    have hkz := (((hk.set (p := ⟨w.heap.size + 1, 0, none⟩) (.inr (by simp)) (.int .i64 n)).set (p := ⟨w.heap.size + 1, 1, none⟩) (.inr (by simp)) (.int .i64 a)).set (p := ⟨w.heap.size + 1, 2, none⟩) (.inr (by simp)) (.bool el)).set (p := ⟨w.heap.size + 1, 3, none⟩) (.inr (by simp)) (.slice none 0 0)
    have Z := Lib.hid z
    have Hkz := Lib.hid hkz
    clear h0 h1 hk z hkz
    go_wp2_with fail
    have z := Z.out
    have hkz := Hkz.out
    have y0 := z.cell 0
    have y1 := z.cell 1
    have y2 := z.cell 2
    have y3 := z.cell 3
    simp at y0 y1 y2 y3
    exact bodyPost_ret (v := .agg #[.int .i64 n, .int .i64 a, .bool el, .slice none 0 0]) (by simp [results, Try.results56, go_sem, y0, y1, y2, y3]) rfl ⟨rfl, hkz⟩

theorem LAt.set1 {w : World} {l B : Nat} {v : Value} {zs : List St} {next top : Int} (h : LAt w l B v zs next top) (n : Int) : LAt (w.setCell ⟨l, 1, none⟩ (.int .i64 n)) l B v zs n top := by
  have hk : Kp (fun k => k = l) w (w.setCell ⟨l, 1, none⟩ (.int .i64 n)) := Kp.set (S := fun k => k = l) (Kp.refl _ w) (p := ⟨l, 1, none⟩) (.inl rfl) _
  exact ⟨h.cell.set 1 _, h.row.kp hk h.far, h.far⟩
theorem LAt.set2 {w : World} {l B : Nat} {v : Value} {zs : List St} {next top : Int} (h : LAt w l B v zs next top) (n : Int) : LAt (w.setCell ⟨l, 2, none⟩ (.int .i64 n)) l B v zs next n := by
  have hk : Kp (fun k => k = l) w (w.setCell ⟨l, 2, none⟩ (.int .i64 n)) := Kp.set (S := fun k => k = l) (Kp.refl _ w) (p := ⟨l, 2, none⟩) (.inl rfl) _
  exact ⟨h.cell.set 2 _, h.row.kp hk h.far, h.far⟩
/-- Another row is stored. -/
theorem LAt.set0 {w : World} {l B : Nat} {v v2 : Value} {zs2 : List St} {next top : Int} (h : Whole w l 76 #[v, .int .i64 next, .int .i64 top]) (hr : RowAt w B 4 v2 zs2.length (encs encS zs2)) (hf : ∀ k, v2.ownBlock = some k → k ≠ l) : LAt (w.setCell ⟨l, 0, none⟩ v2) l B v2 zs2 next top := by
  have hk : Kp (fun k => k = l) w (w.setCell ⟨l, 0, none⟩ v2) := Kp.set (S := fun k => k = l) (Kp.refl _ w) (p := ⟨l, 0, none⟩) (.inl rfl) _
  exact ⟨h.set 0 _, hr.kp hk hf, hf⟩
theorem near_near {w w' : World} {v v' v2 : Value} (h : Near w v v') (h2 : Near w' v' v2) (hs : w.heap.size ≤ w'.heap.size) : Near w v v2 := by
  rcases h2 with h2 | h2
  · rcases h with h | h
    · exact .inl (h2.trans h)
    · exact .inr (fun k hk => h k (h2 ▸ hk))
  · exact .inr (fun k hk => Nat.le_trans hs (h2 k hk))
theorem Kp.along {S S' : Nat → Prop} {w w' w'' : World} (h : Kp S w w') (k : Kp S' w' w'') (hS : ∀ i, i < w.heap.size → S' i → S i) : Kp S w w'' :=
  ⟨k.os.trans h.os, k.tape.trans h.tape, k.output.trans h.output, Nat.le_trans h.size k.size, fun i hi hn => (k.block i (Nat.lt_of_lt_of_le hi h.size) (fun hs => hn (hS i hi hs))).trans (h.block i hi hn)⟩

/-- What a step may turn: the ledger, or its row's block. -/
def LS (l : Nat) (v : Value) (k : Nat) : Prop := k = l ∨ v.ownBlock = some k

theorem ls_near {w : World} {l : Nat} {v v' : Value} (h : Near w v v') : ∀ i, i < w.heap.size → LS l v' i → LS l v i := fun i hi hs => by
  rcases hs with hs | hs
  · exact .inl hs
  · rcases h with h | h
    · exact .inr (h ▸ hs)
    · have := h i hs; omega
theorem takeS {ys : List St} {i : Nat} {y : St} (h : ys[i]? = some y) : ys.take (i + 1) = ys.take i ++ [y] := by rw [List.take_add_one, h]; rfl

set_option maxRecDepth 100000 in
set_option maxHeartbeats 2000000 in
theorem l_put {w : World} {l B : Nat} {v : Value} {zs : List St} {next top : Int} (h : LAt w l B v zs next top) (hB : B ≤ w.heap.size) (lv : Value) (ys : List St) (hl : Src w 4 lv ys.length (encs encS ys)) (hf : ∀ k, lv.ownBlock = some k → ¬ LS l v k)
    (hc : ∀ (i : Nat) (y : St), ys[i]? = some y → y.1 = next + i) (hn0 : 0 ≤ next) (hn : next + ys.length ≤ 4611686018427387903) (hlen : zs.length + ys.length ≤ 1099511627776) :
    Calls Try.prog 36 #[.pointer (some ⟨l, 0, none⟩), lv] w fun e w' => e = .returned (.tuple #[]) ∧ ∃ v', LAt w' l B v' (zs ++ ys) (next + ys.length) top ∧ Kp (LS l v) w w' ∧ Near w v v' := by
  obtain ⟨A, cap, rfl⟩ : ∃ A cap, lv = .slice A ys.length cap := by
    rcases hl.2.2 with ⟨h1, h2⟩ | ⟨a, c, h1, _⟩
    · exact ⟨none, 0, by rw [h1, h2]⟩
    · exact ⟨_, _, h1⟩
  obtain ⟨i0, hii, hz0, hz1, hz2⟩ := info_parts infoS
  have Hi := Lib.hid hii
  have Hz0 := Lib.hid hz0
  have Hz1 := Lib.hid hz1
  have Hz2 := Lib.hid hz2
  have Hl := Lib.hid hl
  have Hf := Lib.hid hf
  have Hc := Lib.hid hc
  have H := Lib.hid h
  have hll := h.cell.lt
  clear hl hf hc h hii hz0 hz1 hz2
  generalize hm : ys.length = m at *
  have Hm := Lib.hid hm
  clear hm
  go_enter Try.func36, Try.ntmps36
  go_wp2_with fail
  go_loopw [8] (fun vi wr => ∃ (i : Nat) (v' : Value), i ≤ m ∧ vi = .int .i64 i ∧ LAt wr l B v' (zs ++ ys.take i) (next + i) top ∧ Kp (LS l v) w wr ∧ Near w v v')
    (fun vi _ => m - (intOf vi).toNat)
  case atStart => exact ⟨0, v, by omega, rfl, by simpa using H.out, Kp.refl _ _, .inl rfl⟩
  case round =>
    obtain ⟨i, v', him, rfl, hla, hkp, hnr⟩ := hrel
    have Hla := Lib.hid hla
    have Hkp := Lib.hid hkp
    have Hnr := Lib.hid hnr
    clear hla hkp hnr
    by_cases hlt : i < m
    · obtain ⟨b, off, c, hv, hb, hcell⟩ := Src.wide Hl.out (by omega) (by omega)
      cases hv
      obtain ⟨y, hyi⟩ : ∃ y, ys[i]? = some y := ⟨_, List.getElem?_eq_getElem (by rw [Hm.out]; exact hlt)⟩
      have hbs := Hf.out b rfl
      have e0 := hcell (i * 4) _ (ss0 hyi)
      have e1 := hcell (i * 4 + 1) _ (ss1 hyi)
      have e2 := hcell (i * 4 + 2) _ (ss2 hyi)
      have e3 := hcell (i * 4 + 3) _ (ss3 hyi)
      rw [← Hkp.out.cell (p := ⟨b, _, none⟩) hb hbs] at e0 e1 e2 e3
      rw [← Nat.add_assoc] at e1 e2 e3
      have hyn := Hc.out i y hyi
      have hbw := Nat.lt_of_lt_of_le hb Hkp.out.size
      have hlw := Hla.out.cell.lt
      obtain ⟨y1, y2, y3⟩ := y
      dsimp only at e0 e1 e2 e3 hyn
      subst hyn
      have Hyi := Lib.hid hyi
      clear hcell hyi
      have hle : next + (i : Int) ≤ 4611686018427387903 := by omega
      have c1 := Hla.out.cell.cell 1
      simp at c1
      go_upto_region 3 with (fail)
      have hka : Kp (fun _ => False) wr (wr.alloc (.cells #[.int .i64 (next + (i : Int)), .int .i64 y2, .bool y3, .slice none 0 0] 80)) := (Kp.refl _ wr).alloc _
      have hxw : Whole (wr.alloc (.cells #[.int .i64 (next + (i : Int)), .int .i64 y2, .bool y3, .slice none 0 0] 80)) wr.heap.size 80 #[.int .i64 (next + (i : Int)), .int .i64 y2, .bool y3, .slice none 0 0] := Whole.new _ _ _
      generalize wr.alloc (.cells #[.int .i64 (next + (i : Int)), .int .i64 y2, .bool y3, .slice none 0 0] 80) = w3 at hka hxw ⊢
      rw [← hka.cell (p := ⟨l, _, none⟩) hlw (fun h => h)] at c1
      have x0 := hxw.cell 0
      simp at x0
      have hx3 : wr.heap.size < w3.heap.size := hxw.lt
      have Hxw := Lib.hid hxw
      have Hka := Lib.hid hka
      clear hxw hka e0 e1 e2 e3
      generalize wr.heap.size = bx at *
      go_wp2_with fail
      go_quiet (fail)
      go_upto_region 4 with (fail)
      have Hk4 := Lib.hid (Hka.out.drewN nq)
      have hx4 := ((Kp.refl (fun _ => False) w3).drewN nq).whole Hxw.out (fun h => h)
      generalize w3.drewN nq = w4 at *
      go_cut [] (fun wx => ∃ v2, LAt wx l B v2 (zs ++ ys.take (i + 1)) (next + i) top ∧ Kp (LS l v') wr wx ∧ Near wr v' v2)
      case first =>
        obtain ⟨Av, cv, rfl⟩ := Hla.out.row.form
        have hk0 : Kp (fun _ => False) wr w4.drew := Hk4.out.drew
        have hc0 := (Hk4.out.whole Hla.out.cell (fun h => h)).cell 0
        simp only [List.getElem?_toArray, List.getElem?_cons_zero] at hc0
        have hl4 := (Hk4.out.whole Hla.out.cell (fun h => h)).lt
        have x0 := hx4.cell 0
        have x1 := hx4.cell 1
        have x2 := hx4.cell 2
        have x3 := hx4.cell 3
        simp at x0 x1 x2 x3
        have HO : Hid (Calls Try.prog 56 #[.agg #[.int .i64 (next + (i : Int)), .int .i64 y2, .bool y3, .slice none 0 0]] w4.drew fun e w' => e = .returned (.agg #[.int .i64 (next + (i : Int)), .int .i64 y2, .bool y3, .slice none 0 0]) ∧ Kp (fun _ => False) w4.drew w') := Lib.hid (own_s _ _ _ _)
        have Hk0 := Lib.hid hk0
        have hnl : (zs ++ ys.take i).length ≤ 1099511627776 := by rw [List.length_append, List.length_take]; omega
        generalize hN : (zs ++ ys.take i).length = N at *
        have HN := Lib.hid hN
        clear hN hk0 hx4
        go_wp2_with fail
        go_region_law (first | (go_simp; go_at_call 56; refine (HO.out).mono ?_; rintro e w1 ⟨rfl, hk⟩; have hk1 : Kp (fun _ => False) wr w1 := Hk0.out.trans hk; have hq1l := (hk1.whole Hla.out.cell (fun h => h)).lt; have hq1 := (hk1.whole Hla.out.cell (fun h => h)).cell 0; simp only [List.getElem?_toArray, List.getElem?_cons_zero] at hq1; have Hk1 := Lib.hid hk1; clear hk hk1) | (refine step_row rfl (.tmp 28) (.tmp 31) 74 rfl B 80 i0 _ 4 48 Try.underlying74 Hi.out Hz0.out Hz1.out Hz2.out rfl (by decide) (.slice Av N cv) N (encs encS (zs ++ ys.take i)) (by simp [Act.eval]; done) (by have := Hla.out.row.kp (Hk1.out.alloc (.cells #[.int .i64 (next + (i : Int)), .int .i64 y2, .bool y3, .slice none 0 0] 80)) (fun _ _ h => h); rw [HN.out] at this; exact this) (.slice (some ⟨w1.heap.size, 0, none⟩) 1 1) 1 (encS (next + (i : Int), y2, y3)) (by simp [Act.eval]; done) (srcW _ (Whole.new _ _ _) rfl (fun u hu => by simp [encS] at hu; rcases hu with rfl | rfl | rfl | rfl <;> rfl)) (by unfold maxLen; omega) (by omega) (by have := Hkp.out.size; have := Hk1.out.size; simp only [World.size_alloc]; omega) ?_; intro v2 w2 hr2 hg2 hn2; have hk2 : Kp (fun k => (Value.slice Av N cv).ownBlock = some k) wr w2 := (Hk1.out.no.alloc _).grown hg2 (fun i hi _ => hi); have hw2 := hk2.whole Hla.out.cell (fun e => Hla.out.far l e rfl); have t0 := hw2.cell 0; have t1 := hw2.frozen 0; have Hw2 := Lib.hid hw2; have Hr2 := Lib.hid hr2; have Hk2 := Lib.hid hk2; have hnear : Near wr (.slice Av N cv) v2 := hn2.elim .inl (fun h => .inr (fun k hk => by have := h k hk; simp only [World.size_alloc] at this; have := Hk1.out.size; omega)); have Hn2 := Lib.hid hnear; obtain ⟨A2, c2, rfl⟩ := hr2.form; clear hr2 hg2 hn2 hk2 hw2 hnear))
        all_goals
          go_wp2_with fail
          go_meet
          refine ⟨_, LAt.set0 (zs2 := zs ++ ys.take (i + 1)) Hw2.out ?_ ?_, Kp.set (Hk2.out.mono (fun k _ h => .inr h)) (p := ⟨l, 0, none⟩) (.inl (.inl rfl)) _, Hn2.out⟩
          · rw [takeS Hyi.out, ← List.append_assoc, encs_append, List.length_append, HN.out, show encs encS [(next + (i : Int), y2, y3)] = encS (next + (i : Int), y2, y3) by simp [encs]]
            exact Hr2.out
          · intro k hk
            rcases Hn2.out with h | h
            · exact Hla.out.far k (h ▸ hk)
            · have := h k hk; have := Hla.out.cell.lt; omega
      case rest =>
        obtain ⟨v2, hl2, hk2, hn2⟩ := hcut
        generalize wc = w5 at *
        have c5 := hl2.cell.cell 1
        have f5 := hl2.cell.frozen 1
        have hl5 := hl2.cell.lt
        simp at c5
        have hle2 : next + (i : Int) + 1 ≤ 4611686018427387904 := by omega
        have Hl2 := Lib.hid hl2
        have Hk2 := Lib.hid hk2
        have Hn2 := Lib.hid hn2
        clear hl2 hk2 hn2
        go_wp2_with fail
        go_roundw
        case rel =>
          have hset : Kp (LS l v) w (w5.setCell ⟨l, 1, none⟩ (.int .i64 (next + (i : Int) + 1))) := Kp.set (Hkp.out.along Hk2.out (ls_near Hnr.out)) (p := ⟨l, 1, none⟩) (.inl (.inl rfl)) _
          exact ⟨i + 1, v2, by omega, by go_num, by rw [show next + ((i + 1 : Nat) : Int) = next + (i : Int) + 1 by omega]; exact Hl2.out.set1 _, hset, near_near Hnr.out Hn2.out Hkp.out.size⟩
        case measure => simp [intOf]; omega
    · obtain rfl : i = m := by omega
      have hla := Hla.out
      rw [List.take_of_length_le (by rw [Hm.out]; omega)] at hla
      go_wp2_with fail
      refine ⟨rfl, .tuple #[], results_none rfl _ _ _, rfl, v', hla, Hkp.out, Hnr.out⟩
end Go.Proofs.Ytelhnhnbfjamhaa
