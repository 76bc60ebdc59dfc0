/-
  What 'QueueOrder' does with its queue and its rows.
-/
import Derived.Test.YtelhnhnbfjamhaaQueueOff2
import Derived.Test.YtelhnhnbfjamhaaFew
import Derived.Deep.CutBlock
import Derived.Outline
namespace Go.Proofs.Ytelhnhnbfjamhaa
open Go.RowKit

theorem data_rd {W : World} {v : Value} (h : SlArg 72 W v) : RdSl W 24 [RdBy W] v := by
  have hB : Try.prog.bytesOf 53 = 24 := by kernel_rfl
  rw [← hB]
  exact h.rd Try.underlying72 fun H enc => fieldSl1 Try.underlying72 (by kernel_rfl) (fieldBy Try.underlying53 (by kernel_rfl) (by kernel_rfl) Try.underlying5)
theorem drops_rd {W : World} {v : Value} (h : SlArg 58 W v) : RdSl W 8 [RdI] v := by
  have hB : Try.prog.bytesOf 3 = 8 := by kernel_rfl
  rw [← hB]
  exact h.rd Try.underlying58 fun H enc => fieldSl1 Try.underlying58 (by kernel_rfl) (fieldI Try.underlying3)

/-- The items that the law makes: their notes count up, their bytes are few, and some. -/
def Fine (ys : List Zt) : Prop := ∀ (i : Nat) (y : Zt), ys[i]? = some y → y.1 = (i : Int) ∧ 0 < y.2.2.length ∧ y.2.2.length ≤ 31

theorem fine_ok {ys : List Zt} (h : Fine ys) : ∀ y ∈ its ys, okI y = true := fun y hy => by
  obtain ⟨z, hz, rfl⟩ := List.mem_map.1 hy
  obtain ⟨i, hi, rfl⟩ := List.getElem_of_mem hz
  have := h i _ (List.getElem?_eq_getElem hi)
  simp [okI]; omega

theorem newb_app {w : World} {B n : Nat} {A : Option Addr} {c : Nat} {t : List UInt8} {x : UInt8} {o : Obj} (ht : t.length = n) (h : RowAt w B 1 (.slice A (n + 1) c) (n + 1) (encB t ++ encB [x])) : NewB (w.alloc o) B (.slice A (n + 1) c) (t ++ [x]) := by
  have e : encB (t ++ [x]) = encB t ++ encB [x] := List.map_append
  have h2 := (h.kp ((Kp.refl (fun _ => False) w).alloc o) (fun _ _ h => h))
  refine ⟨?_, fun k hk => h2.lt k hk, rfl⟩
  have h3 := h2.src (by rw [← e]; exact encB_one _)
  unfold Bs
  rw [e, List.length_append, ht]
  exact h3

theorem fine_snoc {ys : List Zt} {j n : Nat} {t : List UInt8} {v : Value} {x : UInt8} (h : Fine ys) (hl : ys.length = j) (ht : t.length = n) (hn : n ≤ 30) : Fine (ys ++ [((j : Int), v, t ++ [x])]) := by
  intro i y hi
  by_cases hlt : i < ys.length
  · rw [List.getElem?_append_left hlt] at hi
    exact h i y hi
  · rw [List.getElem?_append_right (by omega)] at hi
    have h0 : i - ys.length = 0 := by
      have := (List.getElem?_eq_some_iff.1 hi).1
      simp at this
      omega
    rw [h0] at hi
    simp at hi
    subst hi
    simp
    omega


/-- What the law's own blocks are, once its row of items stands. -/
abbrev Mid (wz wx : World) : Nat → Prop := fun k => wz.heap.size ≤ k ∧ k < wx.heap.size

theorem its_take (ys : List Zt) (k : Nat) : its (ys.take k) = (its ys).take k := List.map_take
theorem its_drop (ys : List Zt) (k : Nat) : its (ys.drop k) = (its ys).drop k := List.map_drop

theorem fit_all {ys : List Zt} (h : ∀ y ∈ its ys, okI y = true) (n : Nat) (hn : n + ys.length ≤ 32) : accept n (its ys) = its ys := by
  rw [accept_all _ _ h, List.take_of_length_le]
  rw [its, List.length_map]; omega

theorem qo_putAt {W w wz wx : World} {q : Nat} {l : List It} {v : Value} {ys : List Zt} (h : QOff W w q l (Mid wz wx))
    (hr : RowAt w wz.heap.size 2 v ys.length (encs encZ ys)) (hlt : ∀ k, v.ownBlock = some k → k < wx.heap.size) (hd : ∀ y ∈ ys, Bs w y.2.1 y.2.2 ∧ (∀ k, y.2.1.ownBlock = some k → Mid wz wx k) ∧ y.2.1.oneCell' = true ∧ y.2.2.length ≤ 31)
    (hok : ∀ y ∈ its ys, okI y = true) (hn : l.length + ys.length ≤ 32) :
    Calls Try.prog 26 #[.pointer (some ⟨q, 0, none⟩), v] w fun e w' => e = .returned (.int .i64 ys.length) ∧ QOff W w' q (l ++ its ys) (Mid wz wx) ∧ KeptL (Mid wz wx) w w' := by
  have h1 : ∀ u ∈ encs encZ ys, u.oneCell' = true := encs_one (fun z hz u hu => by
    simp only [encZ, List.mem_cons, List.not_mem_nil, or_false] at hu
    rcases hu with rfl | rfl
    · rfl
    · exact (hd z hz).2.2.1)
  refine (qo_put h v ys (hr.src h1) (fun y hy => ⟨(hd y hy).1, by have := (hd y hy).2.2.2; omega⟩) (fun k hk => .inl ⟨(hr.lt k hk).1, hlt k hk⟩) (fun y hy k hk => .inl ((hd y hy).2.1 k hk)) (by omega)).mono ?_
  rintro e w' ⟨rfl, hq, hk⟩
  rw [fit_all hok _ hn] at hq ⊢
  exact ⟨by rw [its, List.length_map], hq, hk⟩

theorem encZ_take (ys : List Zt) (k : Nat) : encs encZ (ys.take k) = (encs encZ ys).take (k * 2) := by
  induction ys generalizing k with
  | nil => cases k <;> simp [encs]
  | cons y ys ih =>
    cases k with
    | zero => simp [encs]
    | succ k =>
      rw [List.take_succ_cons, encZ_cons, encZ_cons, ih, show (k + 1) * 2 = (encZ y).length + k * 2 by rw [encZ_len]; omega, List.take_length_add_append]
theorem encZ_drop (ys : List Zt) (k : Nat) : encs encZ (ys.drop k) = (encs encZ ys).drop (k * 2) := by
  induction ys generalizing k with
  | nil => cases k <;> simp [encs]
  | cons y ys ih =>
    cases k with
    | zero => simp
    | succ k =>
      rw [List.drop_succ_cons, encZ_cons, ih, show (k + 1) * 2 = (encZ y).length + k * 2 by rw [encZ_len]; omega, List.drop_length_add_append]

theorem row_cap {w : World} {B sz n c : Nat} {A : Option Addr} {xs : List Value} (h : RowAt w B sz (.slice A n c) n xs) : n ≤ c ∧ c ≤ maxLen := by
  rcases h.2 with ⟨hv, rfl⟩ | ⟨g, off, cap, hv, _, _, h1, h2, _⟩
  · cases hv; exact ⟨Nat.le_refl _, Nat.zero_le _⟩
  · cases hv; exact ⟨h1, h2⟩
theorem row_take {w : World} {B sz n c : Nat} {A : Option Addr} {xs : List Value} (h : RowAt w B sz (.slice A n c) n xs) (k : Nat) (hk : k ≤ n) : RowAt w B sz (.slice A k c) k (xs.take (k * sz)) := by
  rcases h.2 with ⟨hv, rfl⟩ | ⟨g, off, cap, hv, _⟩
  · cases hv
    obtain rfl : k = 0 := by omega
    simp only [Nat.zero_mul, List.take_zero]
    exact RowAt.nil _ _ _
  · cases hv
    exact h.take rfl k hk
theorem row_drop {w : World} {B sz n c : Nat} {A : Option Addr} {xs : List Value} (h : RowAt w B sz (.slice A n c) n xs) (k : Nat) (hk : k ≤ n) : RowAt w B sz (.slice (if c = k then A else A.map (fun a => a.add (k * sz))) (n - k) (c - k)) (n - k) (xs.drop (k * sz)) := by
  rcases h.2 with ⟨hv, rfl⟩ | ⟨g, off, cap, hv, _⟩
  · cases hv
    obtain rfl : k = 0 := by omega
    have : xs = [] := List.eq_nil_of_length_eq_zero (by have := h.1; simpa using this)
    subst this
    simp
    exact RowAt.nil _ _ _
  · cases hv
    have := h.drop k hk
    split <;> simp_all [Addr.add_lit]

/-- The law's two Puts. -/
theorem ord_put1 {W wz wx : World} {q yn c k : Nat} {A : Option Addr} {ys : List Zt} (h : QOff W wz q [] (fun _ => False)) (hk : Kp (fun _ => False) wz wx) (hl : LRow wx wz.heap.size (.slice A yn c) ys) (hf : Fine ys) (hy : ys.length = yn) (hyn : yn ≤ 32) (hky : k ≤ yn) :
    Calls Try.prog 26 #[.pointer (some ⟨q, 0, none⟩), .slice A k c] wx fun e w' => e = .returned (.int .i64 k) ∧ QOff W w' q (its (ys.take k)) (Mid wz wx) ∧ KeptL (Mid wz wx) wx w' := by
  subst hy
  have hr := row_take hl.1 k hky
  rw [← encZ_take] at hr
  have hkl : (ys.take k).length = k := by rw [List.length_take]; omega
  have := qo_putAt (h.free hk) (ys := ys.take k) (by rw [hkl]; exact hr) (fun j hj => (hr.lt j hj).2) (fun y hy => ⟨(hl.2 y (List.mem_of_mem_take hy)).1.1, fun j hj => (hl.2 y (List.mem_of_mem_take hy)).1.2.1 j hj, (hl.2 y (List.mem_of_mem_take hy)).1.2.2, by
    obtain ⟨i, hi, rfl⟩ := List.getElem_of_mem (List.mem_of_mem_take hy)
    exact (hf i _ (List.getElem?_eq_getElem hi)).2.2⟩) (fun y hy => fine_ok hf y (by rw [its_take] at hy; exact List.mem_of_mem_take hy)) (by simp only [List.length_nil]; omega)
  rw [hkl] at this
  exact this
theorem ord_put2 {W w wz wx : World} {q yn c k : Nat} {A : Option Addr} {ys : List Zt} (h : QOff W w q (its (ys.take k)) (Mid wz wx)) (hk : KeptL (Mid wz wx) wx w) (hl : LRow wx wz.heap.size (.slice A yn c) ys) (hf : Fine ys) (hy : ys.length = yn) (hyn : yn ≤ 32) (hky : k ≤ yn) :
    Calls Try.prog 26 #[.pointer (some ⟨q, 0, none⟩), .slice (if c = k then A else A.map (fun a => a.add (k * 2))) (yn - k) (c - k)] w fun e w' => e = .returned (.int .i64 ((yn - k : Nat) : Int)) ∧ QOff W w' q (its ys) (Mid wz wx) ∧ KeptL (Mid wz wx) wx w' := by
  subst hy
  have hr := row_drop hl.1 k hky
  rw [← encZ_drop] at hr
  have hkl : (ys.drop k).length = ys.length - k := List.length_drop
  have hkl2 : (its (ys.take k)).length = k := by rw [its, List.length_map, List.length_take]; omega
  have hS : ∀ {v : Value}, (∀ j, v.ownBlock = some j → Mid wz wx j) → ∀ j, v.ownBlock = some j → ¬ ¬ Mid wz wx j := fun h j hj hn => hn (h j hj)
  have := qo_putAt h (ys := ys.drop k) (by rw [hkl]; exact hr.kp hk (hS (fun j hj => hr.lt j hj))) (fun j hj => (hr.lt j hj).2) (fun y hy => ⟨(hl.2 y (List.mem_of_mem_drop hy)).1.1.kp hk (hS (fun j hj => (hl.2 y (List.mem_of_mem_drop hy)).1.2.1 j hj)), fun j hj => (hl.2 y (List.mem_of_mem_drop hy)).1.2.1 j hj, (hl.2 y (List.mem_of_mem_drop hy)).1.2.2, by
    obtain ⟨i, hi, rfl⟩ := List.getElem_of_mem (List.mem_of_mem_drop hy)
    exact (hf i _ (List.getElem?_eq_getElem hi)).2.2⟩) (fun y hy => fine_ok hf y (by rw [its_drop] at hy; exact List.mem_of_mem_drop hy)) (by rw [hkl, hkl2]; omega)
  refine this.mono ?_
  rintro e w' ⟨rfl, hq, hk'⟩
  rw [its_take, its_drop, List.take_append_drop] at hq
  exact ⟨by rw [hkl], hq, hk.trans hk'⟩

/-- The notes that the law drops. -/
def dm (ds : List Int) : List Int := ds.map fun d => pickF d 40

theorem l_at {wz wl w3 : World} {yn c : Nat} {A : Option Addr} {ys : List Zt} (hl : LRow wl wz.heap.size (.slice A yn c) ys) (hy : ys.length = yn) (hk : KeptL (Mid wz wl) wl w3) (i : Nat) (y : Zt) (hi : ys[i]? = some y) :
    ∃ b off, A = some ⟨b, off, none⟩ ∧ b < w3.heap.size ∧ w3.cell? ⟨b, off + i * 2, none⟩ = some (.int .i64 y.1) ∧ w3.cell? ⟨b, off + i * 2 + 1, none⟩ = some y.2.1 ∧ Bs w3 y.2.1 y.2.2 ∧ ∀ k, y.2.1.ownBlock = some k → k < w3.heap.size := by
  subst hy
  have hil := (List.getElem?_eq_some_iff.1 hi).1
  obtain ⟨b, off, c', hv, hb0, hb, _, _, _, hc⟩ := hl.1.full (by omega)
  cases hv
  have hm := List.mem_of_getElem? hi
  have hS : ∀ {j}, Mid wz wl j → ¬ ¬ Mid wz wl j := fun h hn => hn h
  refine ⟨b, off, rfl, Nat.lt_of_lt_of_le hb hk.size, ?_, ?_, (hl.2 y hm).1.1.kp hk (fun j hj => hS ((hl.2 y hm).1.2.1 j hj)), fun k hk' => Nat.lt_of_lt_of_le ((hl.2 y hm).1.2.1 k hk').2 hk.size⟩
  · rw [hk.cell (p := ⟨b, off + i * 2, none⟩) hb (hS ⟨hb0, hb⟩)]
    exact hc _ _ (zt0 hi)
  · rw [Nat.add_assoc, hk.cell (p := ⟨b, off + (i * 2 + 1), none⟩) hb (hS ⟨hb0, hb⟩)]
    exact hc _ _ (zt1 hi)

theorem drop_at {W w4 : World} {A : Option Addr} {ds : List Int} {dn : Nat} (h : 0 < dn → ∃ b off, A = some ⟨b, off, none⟩ ∧ b < W.heap.size ∧ ∀ (i : Nat) (x : Int), ds[i]? = some x → W.cell? ⟨b, off + i, none⟩ = some (.int .i64 x)) (hd : ds.length = dn)
    (hb : Below W.heap.size W w4) (i : Nat) (d : Int) (hi : ds[i]? = some d) : ∃ b off, A = some ⟨b, off, none⟩ ∧ b < w4.heap.size ∧ w4.cell? ⟨b, off + i, none⟩ = some (.int .i64 d) := by
  have hil := (List.getElem?_eq_some_iff.1 hi).1
  obtain ⟨b, off, h1, h2, h3⟩ := h (by omega)
  refine ⟨b, off, h1, Nat.lt_of_lt_of_le h2 hb.size, ?_⟩
  rw [hb.cell (p := ⟨b, off + i, none⟩) h2]
  exact h3 i d hi

theorem gone_snoc {ds : List Int} {i : Nat} {d note : Int} (h : ds[i]? = some d) : decide (note ∈ dm (ds.take (i + 1))) = (decide (note ∈ dm (ds.take i)) || (pickF d 40 == note)) := by
  rw [show ds.take (i + 1) = ds.take i ++ [d] by rw [List.take_add_one, h]; rfl, dm, List.map_append, ← dm]
  simp only [List.map_cons, List.map_nil, List.mem_append, List.mem_singleton, Bool.decide_or]
  congr 1
  rw [Bool.eq_iff_iff]
  simp
  exact eq_comm

theorem keepI_snoc (ns : List Int) (l : List It) (y : It) : keepI ns (l ++ [y]) = keepI ns l ++ (if decide (y.1 ∈ ns) then [] else [y]) := by
  rw [keepI, List.filter_append, ← keepI]
  congr 1
  by_cases h : y.1 ∈ ns <;> simp [h]
theorem keepI_len (ns : List Int) (l : List It) : (keepI ns l).length ≤ l.length := List.length_filter_le _ _
theorem its_snoc {ys : List Zt} {j : Nat} {y : Zt} (h : ys[j]? = some y) : its (ys.take (j + 1)) = its (ys.take j) ++ [(y.1, y.2.2)] := by
  rw [show ys.take (j + 1) = ys.take j ++ [y] by rw [List.take_add_one, h]; rfl, its, List.map_append]
  rfl

/-- No string shares the block that v lies in. -/
def Soft (w : World) (v : Value) : Prop := ∀ k, v.ownBlock = some k → ∀ j, w.frozen? ⟨k, j, none⟩ = false

theorem soft_row {w : World} {B sz n : Nat} {v : Value} {xs : List Value} (h : RowAt w B sz v n xs) : Soft w v := by
  intro k hk j
  rcases h.2 with ⟨rfl, _⟩ | ⟨g, off, cap, rfl, _, _, _, _, _, h2, _⟩
  · cases hk
  · have : g = k := Option.some.inj hk
    subst this
    exact h2 j
theorem Soft.kp {S : Nat → Prop} {w w' : World} {v : Value} (h : Soft w v) (hk : Kp S w w') (hl : ∀ k, v.ownBlock = some k → k < w.heap.size ∧ ¬ S k) : Soft w' v := fun k hk' j => by
  rw [hk.frozen (p := ⟨k, j, none⟩) (hl k hk').1 (hl k hk').2]
  exact h k hk' j

theorem softs_app {w w1 w2 : World} {BL : Nat} {vl : Value} {ys : List Zt} {z : Zt} (h : LRow w BL vl ys) (hs : ∀ y ∈ ys, Soft w y.2.1) (hk : Kp (fun _ => False) w w1) (hz : NewB w1 w.heap.size z.2.1 z.2.2) (hzs : Soft w1 z.2.1)
    (hg : w1.grownBy w2 vl.ownBlock) : ∀ y ∈ ys ++ [z], Soft w2 y.2.1 := by
  have hk12 : Kp (fun k => vl.ownBlock = some k) w1 w2 := Kp.of_grown hg (fun i hi _ => hi)
  intro y hy
  rcases List.mem_append.1 hy with hy | hy
  · exact (hs y hy).kp (hk.no.trans hk12) (fun k hk' => ⟨((h.2 y hy).1.2.1 k hk').2, (h.2 y hy).2 k hk'⟩)
  · simp only [List.mem_singleton] at hy
    subst hy
    exact hzs.kp hk12 (fun k hk' => ⟨(hz.2.1 k hk').2, fun e => by have := (hz.2.1 k hk').1; have := (h.1.lt k e).2; omega⟩)

/-- The law's items while it spoils them: the places are there, and no string shares them. -/
def Spoil (M : Nat → Prop) (b off : Nat) (ys : List Zt) (w : World) : Prop :=
  (∀ j, w.frozen? ⟨b, j, none⟩ = false) ∧ M b ∧ ∀ (i : Nat) (y : Zt), ys[i]? = some y → (∃ n, w.cell? ⟨b, off + i * 2, none⟩ = some n) ∧ w.cell? ⟨b, off + i * 2 + 1, none⟩ = some y.2.1 ∧
    ∃ b' o' c', y.2.1 = .slice (some ⟨b', o', none⟩) y.2.2.length c' ∧ b' ≠ b ∧ M b' ∧ (∀ j, w.frozen? ⟨b', j, none⟩ = false) ∧ ∃ u, w.cell? ⟨b', o', none⟩ = some (.int .u8 u)

theorem spoil_at {wz wl : World} {b off n c : Nat} {ys : List Zt} (hl : LRow wl wz.heap.size (.slice (some ⟨b, off, none⟩) n c) ys) (hs : ∀ y ∈ ys, Soft wl y.2.1) (hf : Fine ys) : Spoil (Mid wz wl) b off ys wl := by
  refine ⟨fun j => soft_row hl.1 b rfl j, hl.1.lt b rfl, fun i y hi => ?_⟩
  have hil := (List.getElem?_eq_some_iff.1 hi).1
  have hm := List.mem_of_getElem? hi
  obtain ⟨b1, o1, c1, hv, _, _, _, _, _, hc⟩ := hl.1.full (by omega)
  cases hv
  obtain ⟨b', o', c', hv, hb', hcell⟩ := (hl.2 y hm).1.1.cell (hf i y hi).2.1
  refine ⟨⟨_, hc _ _ (zt0 hi)⟩, by rw [Nat.add_assoc]; exact hc _ _ (zt1 hi), b', o', c', hv, fun e => (hl.2 y hm).2 b' (by rw [hv]; rfl) (by rw [e]; rfl), (hl.2 y hm).1.2.1 b' (by rw [hv]; rfl), fun j => hs y hm b' (by rw [hv]; rfl) j, _, hcell 0 (hf i y hi).2.1⟩

theorem Spoil.kp {S M : Nat → Prop} {b off : Nat} {ys : List Zt} {w w' : World} (h : Spoil M b off ys w) (hk : Kp S w w') (hM : ∀ k, M k → k < w.heap.size ∧ ¬ S k) : Spoil M b off ys w' := by
  obtain ⟨h1, h2, h3⟩ := h
  have hb := hM b h2
  refine ⟨fun j => by rw [hk.frozen (p := ⟨b, j, none⟩) hb.1 hb.2]; exact h1 j, h2, fun i y hi => ?_⟩
  obtain ⟨⟨n, hn⟩, hd, b', o', c', hv, hne, hm, hfr, u, hu⟩ := h3 i y hi
  have hb' := hM b' hm
  exact ⟨⟨n, by rw [hk.cell (p := ⟨b, _, none⟩) hb.1 hb.2]; exact hn⟩, by rw [hk.cell (p := ⟨b, _, none⟩) hb.1 hb.2]; exact hd, b', o', c', hv, hne, hm, fun j => by rw [hk.frozen (p := ⟨b', j, none⟩) hb'.1 hb'.2]; exact hfr j, u, by rw [hk.cell (p := ⟨b', _, none⟩) hb'.1 hb'.2]; exact hu⟩

theorem cell_set_any {w : World} {a p : Addr} {v u : Value} (h : w.cell? p = some u) : (w.setCell a v).cell? p = some (if a = p then v else u) := by
  by_cases e : a = p
  · subst e
    rw [if_pos rfl, World.cell?_setCell_same' _ _ _ (by rw [h]; rfl)]
  · rw [if_neg e, World.cell?_setCell_other _ _ _ _ e]
    exact h

theorem spoil_set {M : Nat → Prop} {b off b1 o1 i : Nat} {ys : List Zt} {w : World} (h : Spoil M b off ys w) (hne : b1 ≠ b) (u n : Int) :
    Spoil M b off ys ((w.setCell ⟨b1, o1, none⟩ (.int .u8 u)).setCell ⟨b, off + i * 2, none⟩ (.int .i64 n)) := by
  obtain ⟨h1, h2, h3⟩ := h
  refine ⟨fun j => by rw [World.frozen?_setCell, World.frozen?_setCell]; exact h1 j, h2, fun i2 y hi => ?_⟩
  obtain ⟨⟨n2, hn⟩, hd, b', o', c', hv, hne2, hm, hfr, u2, hu⟩ := h3 i2 y hi
  refine ⟨⟨_, cell_set_any (cell_set_any hn)⟩, ?_, b', o', c', hv, hne2, hm, fun j => by rw [World.frozen?_setCell, World.frozen?_setCell]; exact hfr j, ?_⟩
  · rw [World.cell?_setCell_other _ _ _ _ (by intro e; have := congrArg Addr.off e; simp at this; omega), World.cell?_setCell_other _ _ _ _ (by intro e; have := congrArg Addr.block e; simp at this; omega)]
    exact hd
  · refine ⟨if (⟨b1, o1, none⟩ : Addr) = ⟨b', o', none⟩ then u else u2, ?_⟩
    rw [World.cell?_setCell_other _ _ _ _ (by intro e; have := congrArg Addr.block e; simp at this; omega), cell_set_any hu]
    split <;> rfl

theorem keepI_two (x : Int) (ns : List Int) (l : List It) : keepI [x] (keepI ns l) = keepI (ns ++ [x]) l := by
  rw [keepI, keepI, keepI, List.filter_filter]
  congr 1
  funext z
  by_cases h1 : z.1 ∈ ns <;> by_cases h2 : z.1 = x <;> simp [h1, h2]
theorem dm_snoc {ds : List Int} {i : Nat} {d : Int} (h : ds[i]? = some d) : dm (ds.take (i + 1)) = dm (ds.take i) ++ [pickF d 40] := by
  rw [show ds.take (i + 1) = ds.take i ++ [d] by rw [List.take_add_one, h]; rfl, dm, List.map_append]
  rfl

theorem ord_drop {W w : World} {q : Nat} {l : List It} {M : Nat → Prop} (h : QOff W w q l M) (x : Int) :
    Calls Try.prog 28 #[.pointer (some ⟨q, 0, none⟩), .slice (some ⟨w.heap.size, 0, none⟩) 1 1] (w.alloc (.cells #[.int .i64 x] 3)) fun e w' => e = .returned (.int .i64 ((l.length - (keepI [x] l).length : Nat) : Int)) ∧ QOff W w' q (keepI [x] l) M ∧ KeptL M w w' := by
  have hk : Kp (fun _ => False) w (w.alloc (.cells #[.int .i64 x] 3)) := (Kp.refl _ w).alloc _
  have h2 : QOff W (w.alloc (.cells #[.int .i64 x] 3)) q l (fun k => M k ∨ k = w.heap.size) := h.move hk.no (fun k hk' => by
    rcases hk' with hk' | rfl
    · exact ⟨.inl hk', by have := (h.llt k hk').2; simp only [World.size_alloc]; omega⟩
    · exact ⟨.inr (Nat.le_refl _), by simp⟩)
  refine (qo_drop h2 (some ⟨w.heap.size, 0, none⟩) 1 [x] (src_row (encN [x]) (Whole.new _ _ _) rfl (fun u hu => by simp [encN] at hu; rw [hu]; rfl)) (by simp) (fun k hk' => .inl (.inr (by have := Option.some.inj hk'; exact this.symm)))).mono ?_
  rintro e w' ⟨rfl, hq, hk'⟩
  exact ⟨rfl, hq.sub (fun _ h => .inl h), hk.no.trans (hk'.mono (fun k _ hn hm => hn (.inl hm)))⟩

end Go.Proofs.Ytelhnhnbfjamhaa
