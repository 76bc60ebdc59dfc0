/-
  recv.Stream: Put, taken.
-/
import Derived.Test.YtbkpapdbidbhaaaRecvE
import Derived.Test.YtbkpapdbidbhaaaAddLen
import Derived.Deep.CutBlock
namespace Go.Proofs.Ytbkpapdbidbhaaa
open Go.RowKit

def growD (d : List UInt8) (tt : Nat) : List UInt8 := d ++ zeros (tt - d.length)
theorem growD_len {d : List UInt8} {tt : Nat} : (growD d tt).length = max d.length tt := by simp [growD, zeros]; omega
def pieceG (p : List UInt8) (o : Nat) (r : Pr) : List UInt8 := (p.drop (r.1.toNat - o)).take (r.2.toNat - r.1.toNat)
def fillG (p : List UInt8) (o : Nat) (G : List Pr) (d : List UInt8) : List UInt8 := G.foldl (fun d r => putD d r.1.toNat (pieceG p o r)) d
theorem fillG_snoc {p : List UInt8} {o : Nat} {G : List Pr} {d : List UInt8} {i : Nat} {r : Pr} (h : G[i]? = some r) : fillG p o (G.take (i + 1)) d = putD (fillG p o (G.take i) d) r.1.toNat (pieceG p o r) := by
  unfold fillG
  rw [takeP h, List.foldl_append]; rfl
theorem pieceG_len {p : List UInt8} {o tt : Nat} {r : Pr} (h1 : (o : Int) ≤ r.1) (h2 : r.1 < r.2) (h3 : r.2 ≤ (tt : Int)) (hp : o + p.length = tt) : (pieceG p o r).length = r.2.toNat - r.1.toNat := by
  unfold pieceG
  rw [List.length_take, List.length_drop]
  omega
def putS (s : RS) (o : Nat) (fin : Bool) (p : List UInt8) : RS :=
  { s with L := addS s.L (o : Int) ((o + p.length : Nat) : Int), d := fillG p o (gapL s.L (bringS (o : Int)) (bringS ((o + p.length : Nat) : Int))) (growD s.d (o + p.length)), ended := s.ended || fin, en := if fin = true then o + p.length else s.en, top := if p.length = 0 ∧ fin = false then s.top else max s.top (o + p.length) }

theorem fill_len {p : List UInt8} {o tt : Nat} (hp : o + p.length = tt) : ∀ (G : List Pr) (d : List UInt8), (∀ r ∈ G, (o : Int) ≤ r.1 ∧ r.1 < r.2 ∧ r.2 ≤ (tt : Int)) → tt ≤ d.length → (fillG p o G d).length = d.length
  | [], _, _, _ => rfl
  | r :: G, d, h, hd => by
    have h0 := h r (by simp)
    have hl : (putD d r.1.toNat (pieceG p o r)).length = d.length := putD_len (by rw [pieceG_len h0.1 h0.2.1 h0.2.2 hp]; omega)
    have := fill_len hp G (putD d r.1.toNat (pieceG p o r)) (fun r hr => h r (by simp [hr])) (by rw [hl]; exact hd)
    rw [hl] at this
    exact this

/-- What a stream's state is made of, where one cell was stored. -/
theorem StAt.mk2 {w w1 : World} {g : Nat} {id : Int} {v bv v1 bv1 : Value} {s s1 : RS} (hc : Whole w1 g 45 (stC v1 bv1 id s1)) (h : StAt w g id v bv s) (hk : Kp (fun k => k = g) w w1) (hv : v1 = v) (hb : bv1 = bv) (hL : s1.L = s.L) (hd : s1.d = s.d) (ho : s1.Ok) : StAt w1 g id v1 bv1 s1 := by
  subst hv hb
  refine ⟨hc, by rw [hL]; exact src_keep h.src hk (fun hn k hk' => (h.far1 hn k hk').2.1), by rw [hd]; exact ownsRow_kp h.row hk (fun k hk' => (h.far2 k hk').2), fun hn k hk' => ?_, fun k hk' => ?_, ho⟩
  · have hn' := hL ▸ hn
    exact ⟨Nat.lt_of_lt_of_le (h.far1 hn' k hk').1 hk.size, (h.far1 hn' k hk').2⟩
  · exact ⟨Nat.lt_of_lt_of_le (h.far2 k hk').1 hk.size, (h.far2 k hk').2⟩

theorem splice_take {α : Type} {L : List α} {off n : Nat} {cs : List α} (h : off + cs.length ≤ n) (hL : n ≤ L.length) : (splice L off cs).take n = splice (L.take n) off cs := by
  have hA : (L.take off).length = off := by rw [List.length_take]; omega
  have e1 : (L.take n).take off = L.take off := by rw [List.take_take, show min off n = off by omega]
  have e2 : (L.take n).drop (off + cs.length) = (L.drop (off + cs.length)).take (n - (off + cs.length)) := List.drop_take
  unfold splice
  rw [e1, e2, List.take_append, List.take_append, hA, List.take_of_length_le (by omega), List.take_of_length_le (l := cs) (by omega), show n - off - cs.length = n - (off + cs.length) by omega]
theorem own_open {w : World} {gb n cap : Nat} {d : List UInt8} (h : w.ownsRow 0 5 1 (.slice (some ⟨gb, 0, none⟩) n cap) n (encB d)) : ∃ cur : List Value, Whole w gb 5 cur.toArray ∧ n ≤ cur.length ∧ n ≤ cap ∧ cap ≤ maxLen ∧
    ∀ (w' : World) (off : Nat) (pz : List UInt8), off + pz.length ≤ n → Whole w' gb 5 (splice cur off (encB pz)).toArray → w'.ownsRow 0 5 1 (.slice (some ⟨gb, 0, none⟩) n cap) n (encB (putD d off pz)) := by
  have hl0 := h.1
  obtain ⟨hl, ⟨hv, _⟩ | ⟨q, cap', cur, hv, hb, hq, hnc, hcm, hcs, htk⟩⟩ := h
  · cases hv
  · cases hv
    rw [Nat.mul_one] at hl
    refine ⟨cur.toList, by rw [Array.toArray_toList]; exact hq, by simp; omega, hnc, hcm, fun w' off pz ho hw => ⟨?_, .inr ⟨gb, cap, _, rfl, Nat.zero_le _, hw, hnc, hcm, ?_, ?_⟩⟩⟩
    · rw [encB_len, putD_len (by rw [encB_len] at hl; omega), ← encB_len, hl]; omega
    · have := length_splice cur.toList off (encB pz) (by rw [encB_len]; simp; omega)
      simp only [List.size_toArray, this, Array.length_toList]
      exact hcs
    · rw [← putD_enc, ← htk, Nat.mul_one]
      exact splice_take (by rw [encB_len]; exact ho) (by simp; omega)
theorem st_row {w w' : World} {g gb n cap : Nat} {id : Int} {v : Value} {s : RS} {d' : List UInt8} (h : StAt w g id v (.slice (some ⟨gb, 0, none⟩) n cap) s) (hk : Kp (fun k => k = gb) w w') (hr : w'.ownsRow 0 5 1 (.slice (some ⟨gb, 0, none⟩) n cap) n (encB d')) (hl : d'.length = s.d.length) (hn : n = s.d.length) :
    StAt w' g id v (.slice (some ⟨gb, 0, none⟩) n cap) { s with d := d' } :=
  ⟨hk.whole h.cell (fun e => (h.far2 gb rfl).2 e.symm), src_keep h.src hk (fun hL k hk' e => (h.far1 hL k hk').2.2 (by rw [e]; rfl)), by show w'.ownsRow 0 5 1 _ d'.length (encB d'); rw [hl, ← hn]; exact hr, fun hL k hk' => ⟨Nat.lt_of_lt_of_le (h.far1 hL k hk').1 hk.size, (h.far1 hL k hk').2⟩, fun k hk' => ⟨Nat.lt_of_lt_of_le (h.far2 k hk').1 hk.size, (h.far2 k hk').2⟩, ⟨h.ok.norm, by show d'.length ≤ 225000000000000; rw [hl]; exact h.ok.dl, h.ok.rd, h.ok.told, by show s.taken ≤ d'.length; rw [hl]; exact h.ok.taken, h.ok.top, h.ok.en, h.ok.code, h.ok.sure, fun n hn => by show n < (d'.length : Int); rw [hl]; exact h.ok.cov n hn, h.ok.lf⟩⟩
theorem st_add {w w' : World} {g : Nat} {id : Int} {v bv v' : Value} {s : RS} {L' : List Pr} (h : StAt w g id v bv s) (hset : SetIn w' g 0 45 ((stC v bv id s).setIfInBounds 0 v') v' L') (hk : Kp (fun k => k = g) w w') (hv : v' = v ∨ ∀ k, v'.ownBlock = some k → w.heap.size ≤ k) (hN : NormL 225000000000000 L') (hcov : ∀ n, InL L' n → n < (s.d.length : Int)) (hlf : L'.length ≤ 1000000000) :
    StAt w' g id v' bv { s with L := L' } := by
  refine ⟨hset.cell, hset.src, ownsRow_kp h.row hk (fun k hk' => (h.far2 k hk').2), fun hL k hk' => ?_, fun k hk' => ⟨Nat.lt_of_lt_of_le (h.far2 k hk').1 hk.size, (h.far2 k hk').2⟩, ⟨hN, h.ok.dl, h.ok.rd, h.ok.told, h.ok.taken, h.ok.top, h.ok.en, h.ok.code, h.ok.sure, hcov, hlf⟩⟩
  dsimp only at hL
  have hpos : 0 < L'.length := by cases L' with | nil => exact absurd rfl hL | cons a b => simp
  obtain ⟨b, off, c, hvv, hb, _⟩ := Src.wide hset.src hpos (by omega)
  have hbk : b = k := by rw [hvv] at hk'; exact Option.some.inj hk'
  refine ⟨by omega, ?_⟩
  rcases hv with rfl | hv
  · have hs : s.L ≠ [] := fun e => by
      have h3 := h.src.2.2
      rw [e, hvv] at h3
      rcases h3 with ⟨h3, _⟩ | ⟨a, c', h3, _⟩
      · cases h3
      · simp only [Value.slice.injEq, List.length_nil] at h3
        have := h3.2.1
        omega
    exact (h.far1 hs k hk').2
  · have h1 := hv k hk'
    have h2 := h.cell.lt
    exact ⟨by omega, fun e => by have := (h.far2 k e).1; omega⟩
/-- The bytes grew. -/
theorem st_grow {w w2 : World} {g : Nat} {id : Int} {v bv v2 : Value} {s : RS} {dl kn tt : Nat} (h : StAt w g id v bv s) (hdl : s.d.length = dl) (hr : w2.ownsRow 0 5 1 v2 (dl + kn) (encB s.d ++ List.replicate kn (.int .u8 0))) (hg : w.grownBy w2 bv.ownBlock) (hn : Near w bv v2) (hk : dl + kn = tt) (ht : tt ≤ 225000000000000) :
    StAt (w2.setCell ⟨g, 7, none⟩ v2) g id v v2 { s with d := growD s.d tt } ∧ Kp (fun k => k = g ∨ bv.ownBlock = some k) w (w2.setCell ⟨g, 7, none⟩ v2) ∧ w2.cell? ⟨g, 7, none⟩ = some bv ∧ w2.frozen? ⟨g, 7, none⟩ = false := by
  have hk1 : Kp (fun k => bv.ownBlock = some k) w w2 := Kp.of_grown hg (fun i hi _ => hi)
  have hw2 := hk1.whole h.cell (fun e => (h.far2 g e).2 rfl)
  have hk2 : Kp (fun k => k = g ∨ bv.ownBlock = some k) w (w2.setCell ⟨g, 7, none⟩ v2) := Kp.set (hk1.mono (fun j _ e => .inr e)) (p := ⟨g, 7, none⟩) (.inl (.inl rfl)) _
  have hsz := hk1.size
  have hlen : (growD s.d tt).length = tt := by rw [growD_len]; omega
  have hv2 : ∀ k, v2.ownBlock = some k → k < w2.heap.size := fun k hk' => by
    rcases hr.2 with ⟨rfl, _⟩ | ⟨q, cap, cur, rfl, _, hq, _⟩
    · cases hk'
    · have : q = k := Option.some.inj hk'
      subst this
      exact (Array.getElem?_eq_some_iff.1 hq).1
  have hv3 : ∀ k, v2.ownBlock = some k → k ≠ g ∧ (s.L ≠ [] → v.ownBlock ≠ some k) := fun k hk' => by
    rcases hn with hn | hn
    · rw [hn] at hk'
      exact ⟨(h.far2 k hk').2, fun hL e => (h.far1 hL k e).2.2 hk'⟩
    · have h1 := hn k hk'
      have h2 := h.cell.lt
      exact ⟨by omega, fun hL e => by have := (h.far1 hL k e).1; omega⟩
  refine ⟨⟨hw2.set 7 v2, src_keep h.src hk2 (fun hL k hk' e => e.elim (h.far1 hL k hk').2.1 (h.far1 hL k hk').2.2), ?_, fun hL k hk' => ⟨?_, (h.far1 hL k hk').2.1, fun e => (hv3 k e).2 hL hk'⟩, fun k hk' => ⟨by simp; exact hv2 k hk', (hv3 k hk').1⟩, ⟨h.ok.norm, by simp only [hlen]; omega, h.ok.rd, h.ok.told, by have := h.ok.taken; simp only [hlen]; omega, h.ok.top, h.ok.en, h.ok.code, h.ok.sure, fun n hn => by have := h.ok.cov n hn; simp only [hlen]; omega, h.ok.lf⟩⟩, hk2, ?_, hw2.frozen 7⟩
  · have e1 : encB (growD s.d tt) = encB s.d ++ List.replicate kn (.int .u8 0) := by
      rw [show kn = tt - s.d.length by omega, ← zeros_enc]
      exact List.map_append
    show (w2.setCell ⟨g, 7, none⟩ v2).ownsRow 0 5 1 v2 (growD s.d tt).length (encB (growD s.d tt))
    rw [hlen, e1, ← hk]
    exact ownsRow_kp hr (Kp.set (S := fun k => k = g) (Kp.refl _ w2) (p := ⟨g, 7, none⟩) (.inl rfl) _) (fun k hk' => (hv3 k hk').1)
  · have := (h.far1 hL k hk').1
    simp
    omega
  · rw [hw2.cell]
    rfl

theorem src_keep1 {S : Nat → Prop} {w w' : World} {A : Option Addr} {m c : Nat} {p : List UInt8} (h : Src w 1 (.slice A m c) m (encB p)) (hk : Kp S w w') (hS : 0 < m → ∀ k, (Value.slice A m c).ownBlock = some k → ¬ S k) : Src w' 1 (.slice A m c) m (encB p) := by
  rcases Nat.eq_zero_or_pos m with h0 | h0
  · subst h0
    obtain ⟨h1, h2, h3⟩ := h
    refine ⟨h1, h2, ?_⟩
    rcases h3 with h3 | ⟨a, c', h3, _⟩
    · exact .inl h3
    · refine .inr ⟨a, c', h3, fun j u hj => ?_⟩
      have hj' := (List.getElem?_eq_some_iff.1 hj).1
      omega
  · exact hk.src h (hS h0)
set_option maxRecDepth 100000 in
set_option maxHeartbeats 4000000 in
theorem put_ok {w : World} {g : Nat} {id : Int} {v bv : Value} {s : RS} (h : StAt w g id v bv s) (o : Nat) (fin : Bool) {A : Option Addr} {m c : Nat} {p : List UInt8} (hp : Src w 1 (.slice A m c) m (encB p)) (hmc : m ≤ c) (_hcm : c ≤ maxLen)
    (hown : 0 < m → ∀ k, (Value.slice A m c).ownBlock = some k → k ≠ g ∧ bv.ownBlock ≠ some k) (hto : o + m ≤ s.told) (he : putErr s (o : Int) fin m = 0) (hL : s.L.length < 1000000000) :
    Calls Try.prog 13 #[.pointer (some ⟨g, 0, none⟩), .int .i64 (o : Int), .bool fin, .slice A m c] w fun e w' =>
      e = .returned (.tuple #[.int .i64 ((putS s o fin p).top - s.top : Int), .int .i64 0]) ∧ ∃ v' bv', StAt w' g id v' bv' (putS s o fin p) ∧ Kp (fun k => k = g ∨ bv.ownBlock = some k) w w' ∧ (v' = v ∨ ∀ k, v'.ownBlock = some k → w.heap.size ≤ k) ∧ Near w bv bv' := by
  have hpl : p.length = m := by have := hp.1; rw [encB_len] at this; omega
  obtain ⟨_, _, _, c3, _, _, c6, c7, c8, _, c10, _, _⟩ := h.all
  have hl := h.cell.lt
  have ok := h.ok
  have a0 := ok.told
  have a1 := ok.dl
  have hwr : IntKind.i64.wrap (4611686018427387903 - (m : Int)) = 4611686018427387903 - (m : Int) := IntWalk.i64_in _ (by omega)
  have hwt : IntKind.i64.wrap ((o : Int) + (m : Int)) = ((o + m : Nat) : Int) := by rw [IntWalk.i64_in _ (by omega)]; omega
  obtain ⟨tt, htt⟩ : ∃ tt, tt = o + m := ⟨_, rfl⟩
  rw [← htt] at hwt hto
  have b1 : ¬ (4611686018427387903 - (m : Int) < (o : Int)) := by omega
  have b2 : ¬ ((s.told : Int) < (tt : Int)) := by omega
  have he8 : ¬ ((s.ended = true ∧ (s.en : Int) < (tt : Int)) ∨ (fin = true ∧ s.ended = true ∧ (tt : Int) ≠ s.en) ∨ (fin = true ∧ (tt : Int) < s.top)) := by
    unfold putErr at he
    rw [if_neg (by omega), if_neg (by omega)] at he
    intro hh
    rw [if_pos (by rw [show (o : Int) + (m : Int) = (tt : Int) by omega]; exact hh)] at he
    cases he
  obtain ⟨Ab, cb, rfl⟩ : ∃ Ab cb, bv = .slice Ab s.d.length cb := by
    rcases h.row.2 with ⟨rfl, h0⟩ | ⟨q, cap, cur, rfl, _⟩
    · exact ⟨_, _, by rw [h0]⟩
    · exact ⟨_, _, rfl⟩
  have Hpw := Lib.hid (fun (h0 : 0 < m) (k : Nat) (hk : (Value.slice A m c).ownBlock = some k) => (show k < w.heap.size from by
    obtain ⟨pb, poff, pc, hpv, hpb, _⟩ := Src.wide hp h0 (by omega)
    cases hpv
    have : pb = k := Option.some.inj hk
    omega))
  have Htt := Lib.hid htt
  have Hpl := Lib.hid hpl
  have He8 := Lib.hid he8
  have H := Lib.hid h
  have Hp := Lib.hid hp
  have Hown := Lib.hid hown
  have hm6 : m ≤ 225000000000000 := by omega
  have ht6 : tt ≤ 225000000000000 := by omega
  clear htt hpl he8 hp hown he hto h ok
  go_enter Try.func13, Try.ntmps13
  go_upto_block 0 with fail
  go_cut [] (fun wx => wx = w)
  case first =>
    have he := He8.out
    clear He8
    cases hen : s.ended with
    | true =>
      rw [hen] at c8 he
      have d1 : ¬ ((s.en : Int) < (tt : Int)) := fun h => he (.inl ⟨rfl, h⟩)
      cases fin with
      | true =>
        have d2 : ((tt : Int) != (s.en : Int)) = false := by
          by_cases e : (tt : Int) = s.en
          · simp [e]
          · exact absurd (.inr (.inl ⟨rfl, rfl, e⟩)) he
        have d3 : ¬ ((tt : Int) < (s.top : Int)) := fun h => he (.inr (.inr ⟨rfl, h⟩))
        clear he
        go_wp2_with fail
        go_meet
        case rel => rfl
      | false =>
        clear he
        go_wp2_with fail
        go_meet
        case rel => rfl
    | false =>
      rw [hen] at c8 he
      cases fin with
      | true =>
        have d3 : ¬ ((tt : Int) < (s.top : Int)) := fun h => he (.inr (.inr ⟨rfl, h⟩))
        clear he
        go_wp2_with fail
        go_meet
        case rel => rfl
      | false =>
        clear he
        go_wp2_with fail
        go_meet
        case rel => rfl
  case rest =>
    have hc := hcut.symm
    subst hc
    have hot : o ≤ tt := by have := Htt.out; omega
    generalize hdl : s.d.length = dl at *
    have Hdl := Lib.hid hdl
    clear hdl He8
    obtain ⟨kk, hkk⟩ : ∃ kk : Int, kk = (tt : Int) - (dl : Int) := ⟨_, rfl⟩
    have hwd : IntKind.i64.wrap ((tt : Int) - (dl : Int)) = kk := by rw [hkk]; exact IntWalk.i64_in _ (by omega)
    have Hkk := Lib.hid hkk
    clear hkk
    go_upto_if 80 with (fail)
    go_cut [] (fun wx => ∃ bv2, StAt wx g id v bv2 { s with d := growD s.d tt } ∧ Kp (fun k => k = g ∨ (Value.slice Ab dl cb).ownBlock = some k) w wx ∧ Near w (Value.slice Ab dl cb) bv2)
    case first =>
      by_cases hg : dl < tt
      · obtain ⟨kn, rfl⟩ : ∃ kn : Nat, kk = (kn : Int) := ⟨tt - dl, by have := Hkk.out; omega⟩
        have Hkn : Hid (dl + kn = tt) := Lib.hid (by have := Hkk.out; omega)
        have hk0 : 0 < kn := by have := Hkn.out; omega
        have hk9 : dl + kn ≤ 225000000000000 := by have := Hkn.out; omega
        have t0 : (0 : Int) < (kn : Int) := by omega
        obtain ⟨j0, hjj, hy0, hy1, hy2⟩ := info_parts infoB
        have Hj := Lib.hid hjj
        have Hy0 := Lib.hid hy0
        have Hy1 := Lib.hid hy1
        have Hy2 := Lib.hid hy2
        have HO : Hid (w.ownsRow 0 5 1 (.slice Ab dl cb) dl (encB s.d)) := Lib.hid (by have := H.out.row; rw [Hdl.out] at this; exact this)
        clear hjj hy0 hy1 hy2
        go_wp2_with (at_builtin; refine wpList_zeros rfl (.tmp 85) (.tmp 86) 22 3 rfl 0 5 j0 Try.underlying22 Try.underlying3 Hj.out Hy0.out Hy1.out Hy2.out _ dl _ rfl HO.out kn rfl hk0 hk9 (Nat.zero_le _) ?_; intro v2 w2 hr2 hg2 hn2; obtain ⟨A2, c2, rfl⟩ := (RowAt.of_own hr2).form; obtain ⟨hs2, hk2, hc2, hf2⟩ := st_grow H.out Hdl.out hr2 hg2 hn2 Hkn.out ht6; have Hs2 := Lib.hid hs2; have Hk2 := Lib.hid hk2; have Hn2 := Lib.hid hn2; clear hr2 hg2 hn2 hs2 hk2)
        go_meet
        case rel => exact ⟨_, Hs2.out, Hk2.out, Hn2.out⟩
      · have t0 : ¬ (0 : Int) < kk := by have := Hkk.out; omega
        have e0 : growD s.d tt = s.d := by
          unfold growD
          rw [Hdl.out, show tt - dl = 0 by omega]
          exact List.append_nil _
        have Hst : Hid (StAt w g id v (.slice Ab dl cb) { s with d := growD s.d tt }) := Lib.hid (by rw [e0]; exact H.out)
        clear e0
        go_wp2_with fail
        go_meet
        case rel => exact ⟨_, Hst.out, (Kp.refl _ _), .inl rfl⟩
    case rest =>
      obtain ⟨bv2, h2, hk2, hn2⟩ := hcut
      generalize wc = w2 at *
      have HG := Lib.hid (t_gaps h2.set h2.few (o : Int) (tt : Int))
      obtain ⟨G, hG⟩ : ∃ G, G = gapL s.L (bringS (o : Int)) (bringS (tt : Int)) := ⟨_, rfl⟩
      have hGb : ∀ r ∈ G, (o : Int) ≤ r.1 ∧ r.1 < r.2 ∧ r.2 ≤ (tt : Int) := by
        rw [hG, bringS_id (n := (o : Int)) (by omega) (by unfold EndS; omega), bringS_id (n := (tt : Int)) (by omega) (by unfold EndS; omega)]
        exact (gap_in h2.ok.norm (o : Int) (tt : Int)).1
      have Hfil := Lib.hid (fill_len (p := p) (o := o) (tt := tt) (by rw [Hpl.out]; exact Htt.out.symm) G (growD s.d tt) hGb (by rw [growD_len]; omega))
      have HGl : ∀ i, (fillG p o (G.take i) (growD s.d tt)).length = (growD s.d tt).length := fun i => fill_len (p := p) (o := o) (tt := tt) (by rw [Hpl.out]; exact Htt.out.symm) (G.take i) (growD s.d tt) (fun r hr => hGb r (List.mem_of_mem_take hr)) (by rw [growD_len]; omega)
      dsimp only at HG
      rw [← hG] at HG
      have hn2l : (growD s.d tt).length = max dl tt := by rw [growD_len, Hdl.out]
      have HGl := Lib.hid HGl
      have Hn2l := Lib.hid hn2l
      have HGb := Lib.hid hGb
      have HG0 := Lib.hid hG
      have H2 := Lib.hid h2
      have Hk2 := Lib.hid hk2
      have Hnr := Lib.hid hn2
      have hg2 := h2.cell.lt
      have Hp2 := Lib.hid (src_keep1 Hp.out hk2 (fun h0 k hk' e => e.elim (Hown.out h0 k hk').1 (Hown.out h0 k hk').2))
      have hsz2 := hk2.size
      clear hG hGb hn2l h2 hk2 hn2
      go_wp2_with fail
      with_reducible refine (HG.out).mono ?_
      rintro e w3 ⟨Ag, gn, hgn, hgn2, rfl, hgr, hk3⟩
      have H3 := Lib.hid (H2.out.no hk3)
      have Hgn := Lib.hid hgn
      have Hgr := Lib.hid hgr
      have hgn3 : gn ≤ 1073741825 := by have := H2.out.few; dsimp only at this; omega
      have Hp3 := Lib.hid (hk3.src Hp2.out (fun _ _ h => h))
      have Hk3 := Lib.hid (Hk2.out.trans hk3.no)
      have hsz3 := hk3.size
      clear hgn hgn2 hgr hk3 HG
      go_wp2_with fail
      go_loopw [97] (fun vi wr => ∃ (i : Nat), i ≤ gn ∧ vi = .int .i64 i ∧ Hid (StAt wr g id v bv2 { s with d := fillG p o (G.take i) (growD s.d tt) }) ∧ Kp (fun k => bv2.ownBlock = some k) w3 wr)
        (fun vi _ => gn - (intOf vi).toNat)
      case atStart => exact ⟨0, by omega, rfl, H3, Kp.refl _ _⟩
      case round =>
        obtain ⟨i, hi, rfl, HS, hkr⟩ := hrel
        by_cases hlt : i < gn
        · obtain ⟨rr, hri⟩ : ∃ r, G[i]? = some r := ⟨_, List.getElem?_eq_getElem (by rw [← Hgn.out]; exact hlt)⟩
          have hrb := HGb.out rr (List.mem_of_getElem? hri)
          obtain ⟨gg, goff, gc, hgv, hgg1, hgg2, _, _, _, hgc⟩ := Hgr.out.full (by omega)
          cases hgv
          have e0 := hgc (i * 2) _ (pp0 hri)
          have e1 := hgc (i * 2 + 1) _ (pp1 hri)
          have hbo : ∀ k, bv2.ownBlock = some k → k < w2.heap.size := fun k hk' => (H2.out.far2 k hk').1
          have hgne : ¬ bv2.ownBlock = some gg := fun e => by have := hbo gg e; omega
          rw [← hkr.cell (p := ⟨gg, _, none⟩) hgg2 hgne] at e0 e1
          rw [← Nat.add_assoc] at e1
          have hggr := Nat.lt_of_lt_of_le hgg2 hkr.size
          obtain ⟨ri1, ri2⟩ := rr
          dsimp only at e0 e1 hrb
          obtain ⟨r1, rfl⟩ : ∃ r1 : Nat, ri1 = (r1 : Int) := ⟨ri1.toNat, by omega⟩
          obtain ⟨r2, rfl⟩ : ∃ r2 : Nat, ri2 = (r2 : Int) := ⟨ri2.toNat, by omega⟩
          have hq : o ≤ r1 ∧ r1 < r2 ∧ r2 ≤ tt := by omega
          obtain ⟨n2, hn2⟩ : ∃ n2, n2 = (growD s.d tt).length := ⟨_, rfl⟩
          have hn2t : tt ≤ n2 ∧ n2 ≤ 225000000000000 := by have := Hn2l.out; omega
          have hSl : (fillG p o (G.take i) (growD s.d tt)).length = n2 := by rw [HGl.out i, hn2]
          obtain ⟨gb, cap2, hbv⟩ : ∃ gb cap2, bv2 = .slice (some ⟨gb, 0, none⟩) n2 cap2 := by
            rcases HS.out.row.2 with ⟨_, h0⟩ | ⟨q, cap, cur, hq', _⟩
            · dsimp only at h0; omega
            · dsimp only at hq'; rw [hSl] at hq'; exact ⟨q, cap, hq'⟩
          subst hbv
          have hrow := HS.out.row
          dsimp only at hrow
          rw [hSl] at hrow
          obtain ⟨cur, hcur, hcl, hnc2, hcm2, hput⟩ := own_open hrow
          have Hcur := Lib.hid hcur
          have Hput := Lib.hid hput
          have Hri := Lib.hid hri
          have Hn2 := Lib.hid hn2
          have HSl := Lib.hid hSl
          have hka : Kp (fun _ => False) wr (wr.alloc (.cells #[.int .i64 (r1 : Int), .int .i64 (r2 : Int)] 63)) := (Kp.refl _ wr).alloc _
          have hxw : Whole (wr.alloc (.cells #[.int .i64 (r1 : Int), .int .i64 (r2 : Int)] 63)) wr.heap.size 63 #[.int .i64 (r1 : Int), .int .i64 (r2 : Int)] := Whole.new _ _ _
          have HS4 := Lib.hid (HS.out.no hka)
          have Hcur4 := Lib.hid (hka.whole hcur (fun h => h))
          have Hk4 := Lib.hid (hkr.trans hka.no)
          have t0 : (i : Int) < (gn : Int) := by omega
          clear hrow hcur hput hri hn2 hSl hgc hrb hkr HS Hcur
          go_upto_region 16 with (fail)
          generalize wr.alloc (.cells #[.int .i64 (r1 : Int), .int .i64 (r2 : Int)] 63) = w4 at *
          generalize wr.heap.size = zb at *
          obtain ⟨_, _, _, _, _, _, _, c7, _⟩ := HS4.out.all
          have x0 := hxw.cell 0
          have x1 := hxw.cell 1
          simp at x0 x1
          have hxl := hxw.lt
          have hgl4 := HS4.out.cell.lt
          have hm0 : 0 < m := by have := Htt.out; omega
          have q2 : r1 - o ≤ m ∧ r2 - o ≤ m := by have := Htt.out; omega
          have q3 : r2 ≤ cap2 := by omega
          have q4 : r1 ≤ r2 := by omega
          obtain ⟨pb, poff, pc, hpv, hpb, hpc⟩ := Src.wide Hp3.out hm0 (by omega)
          cases hpv
          have hpne : ¬ (Value.slice (some ⟨gb, 0, none⟩) n2 cap2).ownBlock = some pb := fun e => by
            have h1 := Hown.out hm0 pb rfl
            have h2 := Hpw.out hm0 pb rfl
            rcases Hnr.out with hn | hn
            · exact h1.2 (hn ▸ e)
            · have := hn pb e
              omega
          have Hp4 := Lib.hid (Hk4.out.src Hp3.out (fun k hk' e => by have : pb = k := Option.some.inj hk'; subst this; exact hpne e))
          have hwo : IntKind.i64.wrap ((r1 : Int) - (o : Int)) = ((r1 - o : Nat) : Int) := by rw [IntWalk.i64_in _ (by omega)]; omega
          have q0 : ¬ cap2 = r1 := by omega
          have q1 : ¬ c = r1 - o := by omega
          have q5 := q2.1
          have q6 : r1 - o ≤ c := by omega
          obtain ⟨pb', poff', pc', hpv', _, hpc4⟩ := Src.wide Hp4.out hm0 (by omega)
          cases hpv'
          have hpgl : (pieceG p o ((r1 : Int), (r2 : Int))).length = r2 - r1 := by
            have := pieceG_len (p := p) (o := o) (tt := tt) (r := ((r1 : Int), (r2 : Int))) (by simp; omega) (by simp; omega) (by simp; omega) (by rw [Hpl.out]; exact Htt.out.symm)
            simpa using this
          have Hpn : Hid ((encB (pieceG p o ((r1 : Int), (r2 : Int)))).length = Nat.min (m - (r1 - o)) (r2 - r1)) := Lib.hid (by rw [encB_len, hpgl]; show r2 - r1 = min _ _; have := Htt.out; omega)
          have Hpsrc : Hid (∀ j u, (encB (pieceG p o ((r1 : Int), (r2 : Int))))[j]? = some u → w4.drew.cell? ((⟨pb, poff + (r1 - o), none⟩ : Addr).add j) = some u) := Lib.hid (fun j u hj => by
            rw [Addr.add_lit, Nat.add_assoc]
            refine hpc4 (r1 - o + j) u ?_
            unfold pieceG encB at hj
            rw [List.map_take, List.map_drop, List.getElem?_take] at hj
            split at hj
            · rw [List.getElem?_drop] at hj
              simp only [Int.toNat_natCast] at hj
              exact hj
            · cases hj)
          have Hfit : Hid (r1 + (encB (pieceG p o ((r1 : Int), (r2 : Int)))).length ≤ cur.length) := Lib.hid (by rw [encB_len, hpgl]; omega)
          have Hfit2 : Hid (r1 + (pieceG p o ((r1 : Int), (r2 : Int))).length ≤ n2) := Lib.hid (by rw [hpgl]; omega)
          have Hfit3 : Hid (r1 + (pieceG p o ((r1 : Int), (r2 : Int))).length ≤ (fillG p o (G.take i) (growD s.d tt)).length) := Lib.hid (by rw [hpgl, HSl.out]; omega)
          have HS5 := Lib.hid (HS4.out.no (Kp.drew (Kp.refl _ w4)))
          have Hcur5 : Hid (Whole w4.drew gb 5 cur.toArray) := Lib.hid (Whole.drew Hcur4.out)
          have hzb : gb < zb := by
            have h1 := (H2.out.far2 gb rfl).1
            omega
          clear hpgl hpc4 hpc
          refine wp_region_held_drew (S := (fun w' => w'.cell? ⟨g, 7, none⟩ = some (.slice (some ⟨gb, 0, none⟩) n2 cap2) ∧ w'.cell? ⟨zb, 0, none⟩ = some (.int .i64 (r1 : Int)) ∧ w'.cell? ⟨zb, 1, none⟩ = some (.int .i64 (r2 : Int)))) (by kernel_rfl) ⟨c7, x0, x1⟩ (fun hHeld => ?_)
          refine wpAnyH_take (i := 0) (oi := { dst := some 101, op := Op.move (.tmp 0), type := _, pos := _, after := _, guard := _ }) (v := ?_) rfl (by kernel_rfl) (by kernel_rfl) (by kernel_rfl) (fun _ _ _ h => h) (Or.inl ⟨by rfl, ?_⟩) hHeld ?_
          rotate_left
          · intro w99 hSw
            first | (go_simp; done) | (go_simp; with_reducible rfl)
          try simp only [Act.put, List.setIfInBounds_toArray, List.set_cons_zero, List.set_cons_succ]
          refine wpAnyH_take (i := 1) (oi := { dst := some 102, op := Op.nilCheck (.tmp 101), type := _, pos := _, after := _, guard := _ }) (v := ?_) rfl (by kernel_rfl) (by kernel_rfl) (by kernel_rfl) (fun _ _ _ h => h) (Or.inl ⟨by rfl, ?_⟩) hHeld ?_
          rotate_left
          · intro w99 hSw
            first | (go_simp; done) | (go_simp; with_reducible rfl)
          try simp only [Act.put, List.setIfInBounds_toArray, List.set_cons_zero, List.set_cons_succ]
          refine wpAnyH_take (i := 2) (oi := { dst := some 103, op := Op.fieldAddr 45 (.tmp 102) 5, type := _, pos := _, after := _, guard := _ }) (v := ?_) rfl (by kernel_rfl) (by kernel_rfl) (by kernel_rfl) (fun _ _ _ h => h) (Or.inl ⟨by rfl, ?_⟩) hHeld ?_
          rotate_left
          · intro w99 hSw
            first | (go_simp; done) | (go_simp; with_reducible rfl)
          try simp only [Act.put, List.setIfInBounds_toArray, List.set_cons_zero, List.set_cons_succ]
          refine wpAnyH_take (i := 3) (oi := { dst := some 104, op := Op.load 22 (.tmp 103), type := _, pos := _, after := _, guard := _ }) (v := ?_) rfl (by kernel_rfl) (by kernel_rfl) (by kernel_rfl) (fun _ _ _ h => h) (Or.inl ⟨by rfl, ?_⟩) hHeld ?_
          rotate_left
          · intro w99 hSw
            have c7 := hSw.1; first | (go_simp; done) | (go_simp; with_reducible rfl)
          try simp only [Act.put, List.setIfInBounds_toArray, List.set_cons_zero, List.set_cons_succ]
          refine wpAnyH_take (i := 4) (oi := { dst := some 105, op := Op.indexAddr 63 (.tmp 13) (.const (.int .i64 0)), type := _, pos := _, after := _, guard := _ }) (v := ?_) rfl (by kernel_rfl) (by kernel_rfl) (by kernel_rfl) (fun _ _ _ h => h) (Or.inl ⟨by rfl, ?_⟩) hHeld ?_
          rotate_left
          · intro w99 hSw
            first | (go_simp; done) | (go_simp; with_reducible rfl)
          try simp only [Act.put, List.setIfInBounds_toArray, List.set_cons_zero, List.set_cons_succ]
          refine wpAnyH_take (i := 5) (oi := { dst := some 106, op := Op.load 3 (.tmp 105), type := _, pos := _, after := _, guard := _ }) (v := ?_) rfl (by kernel_rfl) (by kernel_rfl) (by kernel_rfl) (fun _ _ _ h => h) (Or.inl ⟨by rfl, ?_⟩) hHeld ?_
          rotate_left
          · intro w99 hSw
            have x0 := hSw.2.1; first | (go_simp; done) | (go_simp; with_reducible rfl)
          try simp only [Act.put, List.setIfInBounds_toArray, List.set_cons_zero, List.set_cons_succ]
          refine wpAnyH_take (i := 6) (oi := { dst := some 107, op := Op.indexAddr 63 (.tmp 13) (.const (.int .i64 1)), type := _, pos := _, after := _, guard := _ }) (v := ?_) rfl (by kernel_rfl) (by kernel_rfl) (by kernel_rfl) (fun _ _ _ h => h) (Or.inl ⟨by rfl, ?_⟩) hHeld ?_
          rotate_left
          · intro w99 hSw
            first | (go_simp; done) | (go_simp; with_reducible rfl)
          try simp only [Act.put, List.setIfInBounds_toArray, List.set_cons_zero, List.set_cons_succ]
          refine wpAnyH_take (i := 7) (oi := { dst := some 108, op := Op.load 3 (.tmp 107), type := _, pos := _, after := _, guard := _ }) (v := ?_) rfl (by kernel_rfl) (by kernel_rfl) (by kernel_rfl) (fun _ _ _ h => h) (Or.inl ⟨by rfl, ?_⟩) hHeld ?_
          rotate_left
          · intro w99 hSw
            have x1 := hSw.2.2; first | (go_simp; done) | (go_simp; with_reducible rfl)
          try simp only [Act.put, List.setIfInBounds_toArray, List.set_cons_zero, List.set_cons_succ]
          refine wpAnyH_take (i := 8) (oi := { dst := some 109, op := Op.slice 22 (.tmp 104) (some (.tmp 106)) (some (.tmp 108)) none, type := _, pos := _, after := _, guard := _ }) (v := ?_) rfl (by kernel_rfl) (by kernel_rfl) (by kernel_rfl) (fun _ _ _ h => h) (Or.inl ⟨by rfl, ?_⟩) hHeld ?_
          rotate_left
          · intro w99 hSw
            first | (go_simp; done) | (go_simp; with_reducible rfl)
          try simp only [Act.put, List.setIfInBounds_toArray, List.set_cons_zero, List.set_cons_succ]
          refine wpAnyH_take (i := 9) (oi := { dst := some 110, op := Op.move (.tmp 3), type := _, pos := _, after := _, guard := _ }) (v := ?_) rfl (by kernel_rfl) (by kernel_rfl) (by kernel_rfl) (fun _ _ _ h => h) (Or.inl ⟨by rfl, ?_⟩) hHeld ?_
          rotate_left
          · intro w99 hSw
            first | (go_simp; done) | (go_simp; with_reducible rfl)
          try simp only [Act.put, List.setIfInBounds_toArray, List.set_cons_zero, List.set_cons_succ]
          refine wpAnyH_take (i := 10) (oi := { dst := some 111, op := Op.indexAddr 63 (.tmp 13) (.const (.int .i64 0)), type := _, pos := _, after := _, guard := _ }) (v := ?_) rfl (by kernel_rfl) (by kernel_rfl) (by kernel_rfl) (fun _ _ _ h => h) (Or.inl ⟨by rfl, ?_⟩) hHeld ?_
          rotate_left
          · intro w99 hSw
            first | (go_simp; done) | (go_simp; with_reducible rfl)
          try simp only [Act.put, List.setIfInBounds_toArray, List.set_cons_zero, List.set_cons_succ]
          refine wpAnyH_take (i := 11) (oi := { dst := some 112, op := Op.load 3 (.tmp 111), type := _, pos := _, after := _, guard := _ }) (v := ?_) rfl (by kernel_rfl) (by kernel_rfl) (by kernel_rfl) (fun _ _ _ h => h) (Or.inl ⟨by rfl, ?_⟩) hHeld ?_
          rotate_left
          · intro w99 hSw
            have x0 := hSw.2.1; first | (go_simp; done) | (go_simp; with_reducible rfl)
          try simp only [Act.put, List.setIfInBounds_toArray, List.set_cons_zero, List.set_cons_succ]
          refine wpAnyH_take (i := 12) (oi := { dst := some 113, op := Op.move (.tmp 1), type := _, pos := _, after := _, guard := _ }) (v := ?_) rfl (by kernel_rfl) (by kernel_rfl) (by kernel_rfl) (fun _ _ _ h => h) (Or.inl ⟨by rfl, ?_⟩) hHeld ?_
          rotate_left
          · intro w99 hSw
            first | (go_simp; done) | (go_simp; with_reducible rfl)
          try simp only [Act.put, List.setIfInBounds_toArray, List.set_cons_zero, List.set_cons_succ]
          refine wpAnyH_take (i := 13) (oi := { dst := some 114, op := Op.binOp BinOp.sub 3 (.tmp 112) (.tmp 113) 3, type := _, pos := _, after := _, guard := _ }) (v := ?_) rfl (by kernel_rfl) (by kernel_rfl) (by kernel_rfl) (fun _ _ _ h => h) (Or.inl ⟨by rfl, ?_⟩) hHeld ?_
          rotate_left
          · intro w99 hSw
            first | (go_simp; done) | (go_simp; with_reducible rfl)
          try simp only [Act.put, List.setIfInBounds_toArray, List.set_cons_zero, List.set_cons_succ]
          refine wpAnyH_take (i := 14) (oi := { dst := some 115, op := Op.slice 22 (.tmp 110) (some (.tmp 114)) none none, type := _, pos := _, after := _, guard := _ }) (v := ?_) rfl (by kernel_rfl) (by kernel_rfl) (by kernel_rfl) (fun _ _ _ h => h) (Or.inl ⟨by rfl, ?_⟩) hHeld ?_
          rotate_left
          · intro w99 hSw
            first | (go_simp; done) | (go_simp; with_reducible rfl)
          try simp only [Act.put, List.setIfInBounds_toArray, List.set_cons_zero, List.set_cons_succ]
          refine wpAnyH_ready (rs := [15]) (by kernel_rfl) (by simp) (AllReadyH.cons (o := { dst := some 116, op := Op.call { callee := Callee.builtin Builtin.copy, args := #[(.tmp 109), (.tmp 115)], argTypes := #[22, 22] }, type := _, pos := _, after := _, guard := _ }) rfl (fun K hK => ?_) AllReadyH.nil)
          refine step_copy_at rfl (.tmp 109) (.tmp 115) 22 22 rfl 5 Try.underlying22 infoB1 gb r1 (r2 - r1) (cap2 - r1) ⟨pb, poff + (r1 - o), none⟩ (m - (r1 - o)) (c - (r1 - o)) rfl rfl cur 5 Hcur5.out (encB (pieceG p o ((r1 : Int), (r2 : Int)))) Hpn.out Hpsrc.out Hfit.out (encB_one _) ?_
          intro w5 hw5 hk5
          have hS5 := st_row HS5.out hk5 (Hput.out w5 r1 (pieceG p o ((r1 : Int), (r2 : Int))) Hfit2.out hw5) (putD_len Hfit3.out) HSl.out.symm
          have hx5 := hk5.whole (Whole.drew hxw) (show ¬ zb = gb by omega)
          have y0 := hx5.cell 0
          have y1 := hx5.cell 1
          simp at y0 y1
          refine hK.out _ _ ⟨hS5.all.2.2.2.2.2.2.2.1, y0, y1⟩ (fun _ => ?_)
          clear hK hHeld
          try simp only [Act.put, List.setIfInBounds_toArray, List.set_cons_zero, List.set_cons_succ]
          refine wpAnyH_done (by kernel_rfl) ?_ _
          have hsn := fillG_snoc (p := p) (o := o) (d := growD s.d tt) Hri.out
          simp only [Int.toNat_natCast] at hsn
          have HS6 : Hid (StAt w5 g id v (.slice (some ⟨gb, 0, none⟩) n2 cap2) { s with d := fillG p o (G.take (i + 1)) (growD s.d tt) }) := Lib.hid (by rw [hsn]; exact hS5)
          have Hk6 := Lib.hid (Kp.trans (Kp.drew Hk4.out) (hk5.mono (S' := fun k => (Value.slice (some ⟨gb, 0, none⟩) n2 cap2).ownBlock = some k) (fun k _ e => by rw [e]; rfl)))
          clear hsn hS5 hk5 hw5 hx5 y0 y1
          go_wp2_with fail
          go_roundw
          case rel => exact ⟨i + 1, by omega, by go_num, HS6, Hk6.out⟩
          case measure => simp [intOf]; omega
        · obtain rfl : i = gn := by omega
          have t0 : ¬ (i : Int) < (i : Int) := by omega
          rw [List.take_of_length_le (by rw [Hgn.out]; exact Nat.le_refl _)] at HS
          have HA := Lib.hid (t_add HS.out.set HS.out.few (o : Int) (tt : Int))
          go_wp2_with fail
          with_reducible refine (HA.out).mono ?_
          rintro e w6 ⟨rfl, v6, hset6, hk6, hv6⟩
          have hN6 := (addS_in HS.out.ok.norm (by unfold EndS; omega) (f := (o : Int)) (t := (tt : Int)) (by omega) (by omega) (by omega) (by omega))
          have hS6 := st_add HS.out hset6 hk6 hv6 hN6.1 (fun n hn => by
            have hl := Hfil.out
            have hl2 := Hn2l.out
            rcases (hN6.2 n).1 hn with h1 | h1
            · exact HS.out.ok.cov n h1
            · show n < ((fillG p o G (growD s.d tt)).length : Int)
              omega) (Nat.le_trans (addS_len _ _ _) (by omega))
          dsimp only at hS6
          have hks : Kp (fun k => k = g ∨ (Value.slice Ab dl cb).ownBlock = some k) w w6 := by
            have e1 : Kp (fun k => k = g ∨ (Value.slice Ab dl cb).ownBlock = some k ∨ w.heap.size ≤ k) w w3 := Hk3.out.mono (fun k _ e => e.elim .inl (fun e => .inr (.inl e)))
            have e2 : Kp (fun k => k = g ∨ (Value.slice Ab dl cb).ownBlock = some k ∨ w.heap.size ≤ k) w3 wr := hkr.mono (fun k _ e => by
              rcases Hnr.out with hn | hn
              · exact .inr (.inl (hn ▸ e))
              · exact .inr (.inr (hn k e)))
            have e3 : Kp (fun k => k = g ∨ (Value.slice Ab dl cb).ownBlock = some k ∨ w.heap.size ≤ k) wr w6 := hk6.mono (fun k _ e => .inl e)
            exact ((e1.trans e2).trans e3).mono (fun k hk e => by
              rcases e with e | e | e
              · exact .inl e
              · exact .inr e
              · omega)
          have hwr6 : w.heap.size ≤ wr.heap.size := by
            have := hkr.size
            have := hsz3
            omega
          have hv6' : v6 = v ∨ ∀ k, v6.ownBlock = some k → w.heap.size ≤ k := hv6.imp (fun h => h) (fun h k hk => Nat.le_trans hwr6 (h k hk))
          have HS6 := Lib.hid hS6
          have Hks := Lib.hid hks
          have Hv6 := Lib.hid hv6'
          have f8 := hS6.cell.frozen 8
          have f10 := hS6.cell.frozen 10
          have hg6 := hS6.cell.lt
          obtain ⟨_, _, _, _, _, _, z6, _, z8, _, z10, _, _⟩ := hS6.all
          clear hset6 hk6 hv6 hN6 hS6 hks hv6' hkr HS HA
          cases fin with
          | true =>
            have hk7 : Kp (fun k => k = g) w6 ((w6.setCell ⟨g, 8, none⟩ (.bool true)).setCell ⟨g, 10, none⟩ (.int .i64 (tt : Int))) := Kp.set (S := fun k => k = g) (Kp.set (S := fun k => k = g) (Kp.refl _ w6) (p := ⟨g, 8, none⟩) (.inl rfl) _) (p := ⟨g, 10, none⟩) (.inl rfl) _
            have hc7 := ((HS6.out.cell.set 8 (.bool true)).set 10 (.int .i64 (tt : Int)))
            have hS7 : StAt ((w6.setCell ⟨g, 8, none⟩ (.bool true)).setCell ⟨g, 10, none⟩ (.int .i64 (tt : Int))) g id v6 bv2 { s with L := addS s.L (o : Int) (tt : Int), d := fillG p o G (growD s.d tt), ended := true, en := tt } :=
              StAt.mk2 hc7 HS6.out hk7 rfl rfl rfl rfl ⟨HS6.out.ok.norm, HS6.out.ok.dl, HS6.out.ok.rd, HS6.out.ok.told, HS6.out.ok.taken, HS6.out.ok.top, ht6, HS6.out.ok.code, HS6.out.ok.sure, HS6.out.ok.cov, HS6.out.ok.lf⟩
            have HR := Lib.hid (rise_any hS7 tt ht6)
            have Hks7 := Lib.hid (Hks.out.trans (hk7.mono (S' := fun k => k = g ∨ (Value.slice Ab dl cb).ownBlock = some k) (fun k _ e => .inl e)))
            clear hk7 hc7 hS7
            go_wp2_with fail
            all_goals
              with_reducible refine (HR.out).mono ?_
              rintro e w8 ⟨rfl, hS8, hk8⟩
              have HS8 := Lib.hid hS8
              have Hk8 := Lib.hid (Hks7.out.trans (hk8.mono (S' := fun k => k = g ∨ (Value.slice Ab dl cb).ownBlock = some k) (fun k _ e => .inl e)))
              clear hS8 hk8
              go_wp2_with fail
              go_ret2
              have e1 : putS s o true p = riseS { s with L := addS s.L (o : Int) (tt : Int), d := fillG p o G (growD s.d tt), ended := true, en := tt } tt := by
                unfold putS riseS
                rw [Hpl.out, ← Htt.out, ← HG0.out]
                simp
              rw [e1, Hdl.out]
              exact ⟨rfl, _, _, HS8.out, Hk8.out, Hv6.out, Hnr.out⟩
          | false =>
            by_cases hm0 : m = 0
            · have hmb : ((m : Int) == 0) = true := by simp [hm0]
              have e1 : putS s o false p = { s with L := addS s.L (o : Int) (tt : Int), d := fillG p o G (growD s.d tt) } := by
                unfold putS
                rw [Hpl.out, ← Htt.out, ← HG0.out]
                simp [hm0]
              have he1 := Lib.hid e1
              clear hm0 e1
              go_wp2_with fail
              go_ret2
              rw [he1.out, Hdl.out]
              exact ⟨by simp, _, _, HS6.out, Hks.out, Hv6.out, Hnr.out⟩
            · have hmb : ((m : Int) == 0) = false := by simp [hm0]
              have HR := Lib.hid (rise_any HS6.out tt ht6)
              have e1 : putS s o false p = riseS { s with L := addS s.L (o : Int) (tt : Int), d := fillG p o G (growD s.d tt) } tt := by
                unfold putS riseS
                rw [Hpl.out, ← Htt.out, ← HG0.out]
                simp [hm0]
              have he1 := Lib.hid e1
              clear hm0 e1
              go_wp2_with fail
              with_reducible refine (HR.out).mono ?_
              rintro e w8 ⟨rfl, hS8, hk8⟩
              have HS8 := Lib.hid hS8
              have Hk8 := Lib.hid (Hks.out.trans (hk8.mono (S' := fun k => k = g ∨ (Value.slice Ab dl cb).ownBlock = some k) (fun k _ e => .inl e)))
              clear hS8 hk8
              go_wp2_with fail
              go_ret2
              rw [he1.out, Hdl.out]
              exact ⟨rfl, _, _, HS8.out, Hk8.out, Hv6.out, Hnr.out⟩
end Go.Proofs.Ytbkpapdbidbhaaa
