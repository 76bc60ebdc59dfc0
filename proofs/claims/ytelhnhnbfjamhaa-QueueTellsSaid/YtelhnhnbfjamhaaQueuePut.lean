/-
  The calls of package queue: Put.
-/
import Derived.Test.YtelhnhnbfjamhaaQueue
import Derived.Deep.AppendLies
import Derived.Deep.CutBlock
import Derived.Outline
namespace Go.Proofs.Ytelhnhnbfjamhaa
open Go.RowKit

theorem Src.full {w : World} {sz m : Nat} {v : Value} {xs : List Value} (h : Src w sz v m xs) (hm : 0 < m) (hs : 0 < sz) : ∃ b off c, v = .slice (some ⟨b, off, none⟩) m c ∧ b < w.heap.size ∧ ∀ j u, xs[j]? = some u → w.cell? ⟨b, off + j, none⟩ = some u := by
  obtain ⟨hl, _, ⟨rfl, h0⟩ | ⟨a, c, rfl, hc⟩⟩ := h
  · omega
  · have hpos : 0 < xs.length := by rw [hl]; exact Nat.mul_pos hm hs
    have h00 := hc 0 xs[0] (List.getElem?_eq_getElem hpos)
    have hlt := World.block_lt_of_cell? w _ h00
    have hsp : a.spot = none := by
      unfold World.cell? at h00
      split at h00
      · split at h00
        · cases h00
        · rename_i hsp
          cases a with
          | mk b o sp =>
            cases sp with
            | none => rfl
            | some x => simp [Addr.add] at hsp
      · cases h00
    obtain ⟨b, off, sp⟩ := a
    obtain rfl := hsp
    refine ⟨b, off, c, rfl, ?_, fun j u hj => ?_⟩
    · rw [Addr.add_lit] at hlt; exact hlt
    · have := hc j u hj
      rw [Addr.add_lit] at this
      exact this

theorem Kp.via {S S2 : Nat → Prop} {w w' w'' : World} (h : Kp S w w') (k : Kp S2 w' w'') (hs : ∀ i, i < w.heap.size → S2 i → S i) : Kp S w w'' :=
  ⟨k.os.trans h.os, k.tape.trans h.tape, k.output.trans h.output, Nat.le_trans h.size k.size, fun i hi hn => (k.block i (Nat.lt_of_lt_of_le hi h.size) (fun x => hn (hs i hi x))).trans (h.block i hi hn)⟩

/-- What a queue's calls write into. -/
def QS (q : Nat) (v : Value) (k : Nat) : Prop := k = q ∨ v.ownBlock = some k

theorem put_left {w w1 w2 : World} {q B : Nat} {v v' v2 : Value} {zs : List Zt} {note : Int} {d : List UInt8} {o : Obj} (h : QAt w q B v zs) (hB : B ≤ w.heap.size) (hk : Kp (fun _ => False) w w1) (hn : NewB w1 w.heap.size v' d) (hd : d.length ≤ 116) (hf : zs.length < 32)
    (hr : RowAt w2 B 2 v2 (zs.length + 1) (encs encZ zs ++ encZ (note, v', d))) (hg : (w1.alloc o).grownBy w2 v.ownBlock) (hnr : Near (w1.alloc o) v v2) :
    QAt (w2.setCell ⟨q, 0, none⟩ v2) q B v2 (zs ++ [(note, v', d)]) ∧ Kp (QS q v) w (w2.setCell ⟨q, 0, none⟩ v2) ∧ Near w v v2 := by
  have hq := h.cell.lt
  have hs1 := hk.size
  have hkw2 : Kp (fun k => v.ownBlock = some k) w w2 := (hk.no.alloc o).grown hg (fun i hi _ => hi)
  have hk12 : Kp (fun k => v.ownBlock = some k) w1 w2 := ((Kp.refl _ w1).alloc o).grown hg (fun i hi _ => hi)
  have hvl : ∀ k, v.ownBlock = some k → k < w.heap.size := fun k hk => (h.row.lt k hk).2
  have hqv : ∀ k, v.ownBlock = some k → k ≠ q := h.far
  have hv2 : ∀ k, v2.ownBlock = some k → v.ownBlock = some k ∨ (w1.heap.size + 1 ≤ k) := fun k hk => by
    rcases hnr with e | e
    · exact .inl (e ▸ hk)
    · have := e k hk; simp only [World.size_alloc] at this; exact .inr this
  have hq2 : ∀ k, v2.ownBlock = some k → k ≠ q := fun k hk => by
    rcases hv2 k hk with e | e
    · exact hqv k e
    · omega
  have hkq : Kp (fun k => k = q) w2 (w2.setCell ⟨q, 0, none⟩ v2) := kp_set1 _ _ _ (Kp.refl _ w2)
  have hd' : ∀ k, v'.ownBlock = some k → v.ownBlock ≠ some k ∧ k ≠ q := fun k hk => by
    have := (hn.2.1 k hk).1
    exact ⟨fun e => by have := hvl k e; omega, by omega⟩
  have hnear : Near w v v2 := by
    rcases hnr with e | e
    · exact .inl e
    · exact .inr (fun k hk => by have := e k hk; simp only [World.size_alloc] at this; omega)
  refine ⟨⟨(hkw2.whole h.cell (fun e => hqv q e rfl)).set 0 v2, ?_, fun z hz => ?_, hq2, by simp; omega, fun z hz => ?_⟩, ?_, hnear⟩
  · rw [List.length_append, encs_append]
    exact hr.kp hkq (fun k hk e => hq2 k hk e)
  · rcases List.mem_append.1 hz with hz | hz
    · obtain ⟨⟨d1, d2, d3⟩, d4⟩ := h.data z hz
      refine ⟨⟨(d1.kp hkw2 (fun k hk e => (d4 k hk).2 e)).kp hkq (fun k hk e => (d4 k hk).1 e), fun k hk' => ?_, d3⟩, fun k hk' => ⟨(d4 k hk').1, fun e => ?_⟩⟩
      · have := d2 k hk'; have := hkw2.size; simp only [World.size_setCell]; omega
      · rcases hv2 k e with e | e
        · exact (d4 k hk').2 e
        · have := d2 k hk'; omega
    · simp only [List.mem_singleton] at hz
      subst hz
      dsimp only
      refine ⟨⟨(hn.1.kp hk12 (fun k hk e => (hd' k hk).1 e)).kp hkq (fun k hk e => (hd' k hk).2 e), fun k hk' => ?_, hn.2.2⟩, fun k hk' => ⟨(hd' k hk').2, fun e => ?_⟩⟩
      · have := hn.2.1 k hk'; have := hk12.size; simp only [World.size_setCell]; omega
      · rcases hv2 k e with e | e
        · exact (hd' k hk').1 e
        · have := (hn.2.1 k hk').2; omega
  · rcases List.mem_append.1 hz with hz | hz
    · exact h.short z hz
    · simp only [List.mem_singleton] at hz
      subst hz
      exact hd
  · exact (hkw2.mono (fun k _ e => .inr e)).set (p := ⟨q, 0, none⟩) (.inl (.inl rfl)) _

/-- Does an item fit? -/
def okI (y : Int × List UInt8) : Bool := decide (0 < y.2.length ∧ y.2.length ≤ 116)
/-- Those of the items that are taken where n are there already. -/
def accept (n : Nat) : List (Int × List UInt8) → List (Int × List UInt8)
  | [] => []
  | y :: ys => bif okI y && Nat.blt n 32 then y :: accept (n + 1) ys else accept n ys
theorem accept_snoc (y : Int × List UInt8) : ∀ (l : List (Int × List UInt8)) (n : Nat), accept n (l ++ [y]) = accept n l ++ (bif okI y && Nat.blt (n + (accept n l).length) 32 then [y] else []) := by
  intro l
  induction l with
  | nil =>
    intro n
    simp only [List.nil_append, accept, List.length_nil, Nat.add_zero]
  | cons x l ih =>
    intro n
    simp only [List.cons_append, accept]
    cases okI x && Nat.blt n 32 with
    | true => simp only [cond_true]; rw [ih, List.cons_append, List.length_cons, show n + ((accept (n + 1) l).length + 1) = n + 1 + (accept (n + 1) l).length by omega]
    | false => simp only [cond_false]; rw [ih]

theorem src_z {w : World} {b : Nat} (z : Zt) (h1 : z.2.1.oneCell' = true) (h : Whole w b 55 #[.int .i64 z.1, z.2.1]) : Src w 2 (.slice (some ⟨b, 0, none⟩) 1 1) 1 (encs encZ [z]) := by
  refine ⟨rfl, encs_one (fun x hx u hu => ?_), .inr ⟨_, _, rfl, fun j u hj => ?_⟩⟩
  · simp only [List.mem_singleton] at hx
    subst hx
    simp only [encZ, List.mem_cons, List.not_mem_nil, or_false] at hu
    rcases hu with rfl | rfl
    · rfl
    · exact h1
  · rw [Addr.add_lit, Nat.zero_add, h.cell]
    match j, hj with
    | 0, hj => simpa [encs, encZ] using hj
    | 1, hj => simpa [encs, encZ] using hj
    | j + 2, hj => simp [encs, encZ] at hj

set_option maxRecDepth 100000 in
set_option maxHeartbeats 2000000 in
theorem q_put {w : World} {q B : Nat} {v : Value} {zs : List Zt} (h : QAt w q B v zs) (hB : B ≤ w.heap.size) (lv : Value) (ys : List Zt) (hl : Src w 2 lv ys.length (encs encZ ys)) (hy : ∀ y ∈ ys, Bs w y.2.1 y.2.2 ∧ y.2.2.length ≤ 140737488355328)
    (hf1 : ∀ k, lv.ownBlock = some k → ¬ QS q v k) (hf2 : ∀ y ∈ ys, ∀ k, y.2.1.ownBlock = some k → ¬ QS q v k) (hlen : ys.length ≤ 4398046511104) :
    Calls Try.prog 26 #[.pointer (some ⟨q, 0, none⟩), lv] w fun e w' => e = .returned (.int .i64 (accept zs.length (its ys)).length) ∧ ∃ v' ns, its ns = accept zs.length (its ys) ∧ QAt w' q B v' (zs ++ ns) ∧ Kp (QS q v) w w' ∧ Near w v v' ∧ (∀ y ∈ ns, ∀ k, y.2.1.ownBlock = some k → w.heap.size ≤ k) := by
  obtain ⟨A, cap, rfl⟩ : ∃ A cap, lv = .slice A ys.length cap := by
    rcases hl.2.2 with ⟨h1, h2⟩ | ⟨a, c, h1, _⟩
    · exact ⟨none, 0, by rw [h1, h2]⟩
    · exact ⟨_, _, h1⟩
  have hlt : ∀ k, (Value.slice A ys.length cap).ownBlock = some k → 0 < ys.length → k < w.heap.size := fun k hk h0 => by
    obtain ⟨b, off, c, hv, hb, _⟩ := hl.full h0 (by omega)
    rw [hv] at hk
    have : b = k := Option.some.inj hk
    omega
  have Hl := Lib.hid hl
  have Hy := Lib.hid hy
  have Hf1 := Lib.hid hf1
  have Hf2 := Lib.hid hf2
  have H := Lib.hid h
  have hq := h.cell.lt
  clear hl hy hf1 hf2 h hlt
  generalize hm : ys.length = m at *
  have Hm := Lib.hid hm
  clear hm
  go_enter Try.func26, Try.ntmps26
  go_wp2_with fail
  go_loopw [5, 10] (fun vc vi wr => ∃ (i : Nat) (v' : Value) (ns : List Zt), i ≤ m ∧ vi = .int .i64 i ∧ its ns = accept zs.length (its (ys.take i)) ∧ vc = .int .i64 ns.length ∧ QAt wr q B v' (zs ++ ns) ∧ Kp (QS q v) w wr ∧ Near w v v' ∧ Hid (∀ y ∈ ns, ∀ k, y.2.1.ownBlock = some k → w.heap.size ≤ k))
    (fun _ vi _ => m - (intOf vi).toNat)
  case atStart => exact ⟨0, v, [], by omega, rfl, rfl, rfl, by rw [List.append_nil]; exact H.out, Kp.refl _ _, .inl rfl, Lib.hid (fun y hy => by cases hy)⟩
  case round =>
    obtain ⟨i, v', ns, hi, rfl, hns, rfl, hqa, hkp, hnr, Hfresh⟩ := hrel
    have Hns := Lib.hid hns
    have Hqa := Lib.hid hqa
    have Hkp := Lib.hid hkp
    have Hnr := Lib.hid hnr
    clear hns hqa hkp hnr
    by_cases him : i < m
    · obtain ⟨b, off, c, hv, hb, hcell⟩ := Hl.out.full (by omega) (by omega)
      cases hv
      obtain ⟨y, hyi⟩ : ∃ y, ys[i]? = some y := ⟨_, List.getElem?_eq_getElem (by rw [Hm.out]; exact him)⟩
      have hbs := Hf1.out b rfl
      have e0 := hcell (i * 2) _ (zt0 hyi)
      have e1 := hcell (i * 2 + 1) _ (zt1 hyi)
      rw [← Hkp.out.cell (p := ⟨b, _, none⟩) hb hbs] at e0 e1
      rw [← Nat.add_assoc] at e1
      have hymem := List.mem_of_getElem? hyi
      have hyb := (Hy.out y hymem).1.kp Hkp.out (Hf2.out y hymem)
      have hyl := (Hy.out y hymem).2
      have hsnoc : its (ys.take (i + 1)) = its (ys.take i) ++ [(y.1, y.2.2)] := by rw [its, its, List.take_add_one, hyi]; simp
      have Hsnoc := Lib.hid hsnoc
      have hqc := Hqa.out.cell.cell 0
      have hqr := Hqa.out.cell.lt
      obtain ⟨A', cap', rfl⟩ := Hqa.out.row.form
      rw [show (#[Value.slice A' (zs ++ ns).length cap'] : Array Value)[0]? = some (.slice A' (zs ++ ns).length cap') from rfl] at hqc
      have hfew := Hqa.out.few
      obtain ⟨note, dv, d⟩ := y
      dsimp only at e0 e1 hyb hyl
      obtain ⟨Ad, cd, rfl⟩ := hyb.form
      have Hyb := Lib.hid hyb
      have hlapp : (zs ++ ns).length = zs.length + ns.length := List.length_append
      generalize hN : (zs ++ ns).length = N at hqc hfew hlapp
      have hqa2 := Hqa.out
      rw [hN] at hqa2
      have Hqa2 := Lib.hid hqa2
      have hnr2 := Hnr.out
      rw [hN] at hnr2
      have Hnr2 := Lib.hid hnr2
      have hnsl : ns.length ≤ 32 := by omega
      clear hnr2
      have HN := Lib.hid hN
      clear hqa2
      have Hlapp := Lib.hid hlapp
      clear hcell hyb hsnoc hymem hyi hlapp hN
      by_cases hok : (okI (note, d) && Nat.blt N 32) = true
      · have hd0 : 0 < d.length := by simp [okI] at hok; omega
        have hd1 : d.length ≤ 116 := by simp [okI] at hok; omega
        have hf32 : N < 32 := by simp [okI] at hok; omega
        have Hok := Lib.hid hok
        obtain ⟨i0, hii, hz0, hz1, hz2⟩ := info_parts infoI
        have Hi := Lib.hid hii
        have Hz0 := Lib.hid hz0
        have Hz1 := Lib.hid hz1
        have Hz2 := Lib.hid hz2
        have hkb : Kp (fun _ => False) wr ((wr.alloc (.cells #[.int .i64 note, .slice Ad d.length cd] 55)).drew) := ((Kp.refl _ wr).alloc _).drew
        have hO := item_own note (Hyb.out.kp hkb (fun _ _ h => h)) (by omega)
        have HO := Lib.hid hO
        have Hkb := Lib.hid hkb
        clear hok hii hz0 hz1 hz2 hkb hO
        go_wp2_with fail
        go_region_law (first | (go_simp; go_at_call 51; refine (HO.out).mono ?_; rintro e w1 ⟨v1, rfl, hnb, hk⟩; obtain ⟨Av, cv, rfl⟩ := hnb.1.form; have hk1 : Kp (fun _ => False) wr w1 := Hkb.out.trans hk; have hq1l := (hk1.whole Hqa2.out.cell (fun h => h)).lt; have hq1 := (hk1.whole Hqa2.out.cell (fun h => h)).cell 0; rw [show (#[Value.slice A' N cap'] : Array Value)[0]? = some (.slice A' N cap') from rfl] at hq1; have Hk1 := Lib.hid hk1; have Hnb1 : Hid (NewB w1 wr.heap.size (.slice Av d.length cv) d) := Lib.hid ⟨hnb.1, fun k hk' => by have := hnb.2.1 k hk'; simp at this; omega, hnb.2.2⟩; clear hnb hk hk1) | (refine step_row rfl (.tmp 36) (.tmp 39) 49 rfl B 55 i0 _ 2 32 Try.underlying49 Hi.out Hz0.out Hz1.out Hz2.out rfl (by decide) (.slice A' N cap') N (encs encZ (zs ++ ns)) (by simp [Act.eval]) (by have := Hqa2.out.row.kp (Hk1.out.alloc (.cells #[.int .i64 note, .slice Av d.length cv] 55)) (fun _ _ h => h); rw [HN.out] at this; exact this) (.slice (some ⟨w1.heap.size, 0, none⟩) 1 1) 1 (encs encZ [(note, .slice Av d.length cv, d)]) (by simp [Act.eval]) (src_z (note, .slice Av d.length cv, d) rfl (whole_at _ _ rfl rfl)) (by unfold maxLen; omega) (by omega) (by have := Hkp.out.size; have := Hk1.out.size; simp only [World.size_alloc]; omega) ?_; intro v2 w2 hr2 hg2 hn2; have hq2 := put_left (o := .cells #[.int .i64 note, .slice Av d.length cv] 55) Hqa2.out (by have := Hkp.out.size; omega) Hk1.out Hnb1.out hd1 (by rw [HN.out]; exact hf32) (by rw [HN.out]; exact hr2) hg2 hn2; have hk2 : Kp (fun k => (Value.slice A' N cap').ownBlock = some k) wr w2 := (Hk1.out.no.alloc _).grown hg2 (fun i hi _ => hi); have t0 := (hk2.whole Hqa2.out.cell (fun e => Hqa2.out.far q e rfl)).cell 0; have t1 := (hk2.whole Hqa2.out.cell (fun e => Hqa2.out.far q e rfl)).frozen 0; obtain ⟨A2, c2, rfl⟩ := hr2.form; have Hq2 := Lib.hid hq2; clear hr2 hg2 hn2 hk2 hq2))
        all_goals
          go_wp2_with fail
          go_roundw
          case rel =>
            obtain ⟨p1, p2, p3⟩ := Hq2.out
            refine ⟨i + 1, _, ns ++ [(note, .slice Av d.length cv, d)], by omega, by go_num, ?_, by simp, by rw [← List.append_assoc]; exact p1, (Hkp.out.via p2 (fun k hk hs => ?_)), ?_, Lib.hid (fun y hy k hk => ?_)⟩
            · rw [Hsnoc.out, accept_snoc, ← Hns.out]
              have e : (bif okI (note, d) && Nat.blt (zs.length + (its ns).length) 32 then [((note, d) : Int × List UInt8)] else []) = [(note, d)] := by
                rw [show zs.length + (its ns).length = N by rw [its, List.length_map]; exact Hlapp.out.symm, Hok.out]; rfl
              rw [e]
              simp [its]
            · rcases hs with rfl | hs
              · exact .inl rfl
              · rcases Hnr2.out with e | e
                · exact .inr (e ▸ hs)
                · have := e k hs; omega
            · rcases p3 with e | e
              · rcases Hnr2.out with e2 | e2
                · exact .inl (e.trans e2)
                · exact .inr (fun k hk => e2 k (e ▸ hk))
              · exact .inr (fun k hk => by have := e k hk; have := Hkp.out.size; omega)
            · rcases List.mem_append.1 hy with hy | hy
              · exact Hfresh.out y hy k hk
              · simp only [List.mem_singleton] at hy
                subst hy
                have := (Hnb1.out.2.1 k hk).1; have := Hkp.out.size; omega
          case measure => simp [intOf]; omega
      · have hok' : (okI (note, d) && Nat.blt N 32) = false := Bool.eq_false_iff.2 hok
        have Hok := Lib.hid hok'
        clear hok'
        have hfin : ∃ i' v' ns', i' ≤ m ∧ (.int .i64 ((i : Int) + 1) : Value) = .int .i64 (i' : Nat) ∧ its ns' = accept zs.length (its (ys.take i')) ∧ (.int .i64 (ns.length : Int) : Value) = .int .i64 (ns'.length : Nat) ∧ QAt (wr.alloc (.cells #[.int .i64 note, .slice Ad d.length cd] 55)) q B v' (zs ++ ns') ∧ Kp (QS q v) w (wr.alloc (.cells #[.int .i64 note, .slice Ad d.length cd] 55)) ∧ Near w v v' ∧ Hid (∀ y ∈ ns', ∀ k, y.2.1.ownBlock = some k → w.heap.size ≤ k) := by
          refine ⟨i + 1, _, ns, by omega, by go_num, ?_, rfl, Hqa2.out.alloc _, Hkp.out.alloc _, Hnr2.out, Hfresh⟩
          rw [Hsnoc.out, accept_snoc, ← Hns.out]
          have e : (bif okI (note, d) && Nat.blt (zs.length + (its ns).length) 32 then [((note, d) : Int × List UInt8)] else []) = [] := by
            rw [show zs.length + (its ns).length = N by rw [its, List.length_map]; exact Hlapp.out.symm, Hok.out]; rfl
          rw [e, List.append_nil]
        have Hfin := Lib.hid hfin
        clear hfin
        by_cases hd0 : 0 < d.length
        · by_cases hd1 : d.length ≤ 116
          · have hf32 : ¬ N < 32 := by simp [okI, hd0, hd1] at hok; omega
            clear hok
            go_wp2_with fail
            go_roundw
            case rel => exact Hfin.out
            case measure => simp [intOf]; omega
          · clear hok
            go_wp2_with fail
            go_roundw
            case rel => exact Hfin.out
            case measure => simp [intOf]; omega
        · clear hok
          go_wp2_with fail
          go_roundw
          case rel => exact Hfin.out
          case measure => simp [intOf]; omega
    · go_wp2_with fail
      go_ret
      have e : ys.take i = ys := List.take_of_length_le (by rw [Hm.out]; omega)
      have hns2 := Hns.out
      rw [e] at hns2
      refine ⟨?_, v', ns, hns2, Hqa.out, Hkp.out, Hnr.out, Hfresh.out⟩
      rw [← hns2, its, List.length_map]
      rfl
end Go.Proofs.Ytelhnhnbfjamhaa
