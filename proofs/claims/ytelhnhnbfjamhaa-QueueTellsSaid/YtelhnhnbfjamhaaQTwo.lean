/-
  'QueueTells': the law's queue and the reference's, side by side.
-/
import Derived.Test.YtelhnhnbfjamhaaRefQPut
import Derived.Test.YtelhnhnbfjamhaaText
namespace Go.Proofs.Ytelhnhnbfjamhaa
open Go.RowKit

/-- The law's queue q holds the items l, the reference's r the items lr, apart from one another; each item has bytes, and few. -/
def QTwo (W w : World) (q r : Nat) (l lr : List It) : Prop :=
  ∃ v zs, its zs = lr ∧ RAt w r W.heap.size v zs ∧ QOff W w q l (QFoot r v zs) ∧ W.heap.size ≤ r ∧ ∀ x ∈ lr, okI x = true

theorem RAt.foot {w : World} {r B : Nat} {v : Value} {zs : List Zt} (h : RAt w r B v zs) (hr : B ≤ r) {k : Nat} (hk : QFoot r v zs k) : B ≤ k ∧ k < w.heap.size := by
  rcases hk with rfl | hk | ⟨z, hz, hk⟩
  · exact ⟨hr, h.cell.lt⟩
  · exact h.row.lt k hk
  · exact (h.data z hz).1.2.1 k hk

theorem kp_below {w w' : World} (hk : Below w.heap.size w w') : Kp (fun _ => False) w w' := ⟨hk.os, hk.tape, hk.output, hk.size, fun k hk' _ => hk.block k hk'⟩

section
variable {W w w' : World} {q r : Nat} {l lr : List It}
theorem QTwo.below (h : QTwo W w q r l lr) : Below W.heap.size W w := by
  obtain ⟨v, zs, _, _, h3, _⟩ := h
  exact h3.below
theorem QTwo.few (h : QTwo W w q r l lr) : l.length ≤ 32 ∧ lr.length ≤ 32 := by
  obtain ⟨v, zs, rfl, h2, h3, _⟩ := h
  exact ⟨h3.few, by rw [its, List.length_map]; exact h2.few⟩
theorem QTwo.rlt (h : QTwo W w q r l lr) : r < w.heap.size := by
  obtain ⟨v, zs, rfl, h2, h3, _⟩ := h
  exact h2.cell.lt
theorem QTwo.same (h : QTwo W w q r l lr) (hk : Kp (fun _ => False) w w') : QTwo W w' q r l lr := by
  obtain ⟨v, zs, h1, h2, h3, h4, h5⟩ := h
  exact ⟨v, zs, h1, h2.kp hk (fun _ _ h => h), (h3.same hk).1, h4, h5⟩
theorem q_two_new (W : World) : QTwo W ((W.alloc (.cells #[.slice none 0 0] 51)).alloc (.cells #[.slice none 0 0] 64)) W.heap.size (W.heap.size + 1) [] [] := by
  refine ⟨.slice none 0 0, [], rfl, ⟨whole_at _ _ rfl (by simp), RowAt.nil _ _ _, (fun z hz => by cases hz), (fun k hk => by cases hk), by simp⟩, (q_new W).move ((Kp.refl _ _).alloc _) (fun k hk => ?_), by omega, (fun x hx => by cases hx)⟩
  rcases hk with rfl | hk | ⟨z, hz, _⟩
  · exact ⟨.inr (by simp), by simp⟩
  · cases hk
  · cases hz

theorem tw_len (h : QTwo W w q r l lr) : Calls Try.prog 27 #[.pointer (some ⟨q, 0, none⟩)] w fun e w' => e = .returned (.int .i64 l.length) ∧ w = w' := by
  obtain ⟨v, zs, _, _, h3, _⟩ := h
  exact qo_len h3
theorem tw_first_none (h : QTwo W w q r [] lr) : Calls Try.prog 30 #[.pointer (some ⟨q, 0, none⟩)] w fun e w' => e = .returned (.tuple #[.agg #[.int .i64 0, .slice none 0 0], .bool false]) ∧ QTwo W w' q r [] lr := by
  obtain ⟨v, zs, h1, h2, h3, h4, h5⟩ := h
  exact (qo_first_none h3).mono fun _ _ ⟨he, ho, hk⟩ => ⟨he, v, zs, h1, h2.kp hk (fun k hf hn => hn hf), ho, h4, h5⟩
theorem tw_first {x : It} (h : QTwo W w q r (x :: l) lr) : Calls Try.prog 30 #[.pointer (some ⟨q, 0, none⟩)] w fun e w' => ∃ v', e = .returned (.tuple #[.agg #[.int .i64 x.1, v'], .bool true]) ∧ Bs w' v' x.2 ∧ QTwo W w' q r (x :: l) lr := by
  obtain ⟨v, zs, h1, h2, h3, h4, h5⟩ := h
  exact (qo_first h3).mono fun _ _ ⟨v', he, hn, ho, hk⟩ => ⟨v', he, hn.1, v, zs, h1, h2.kp hk (fun k hf hn => hn hf), ho, h4, h5⟩
theorem tw_pop_none (h : QTwo W w q r [] lr) : Calls Try.prog 29 #[.pointer (some ⟨q, 0, none⟩)] w fun e w' => e = .returned (.tuple #[.agg #[.int .i64 0, .slice none 0 0], .bool false]) ∧ QTwo W w' q r [] lr := by
  obtain ⟨v, zs, h1, h2, h3, h4, h5⟩ := h
  exact (qo_pop_none h3).mono fun _ _ ⟨he, ho, hk⟩ => ⟨he, v, zs, h1, h2.kp hk (fun k hf hn => hn hf), ho, h4, h5⟩
theorem tw_pop {x : It} (h : QTwo W w q r (x :: l) lr) : Calls Try.prog 29 #[.pointer (some ⟨q, 0, none⟩)] w fun e w' => ∃ v', e = .returned (.tuple #[.agg #[.int .i64 x.1, v'], .bool true]) ∧ Bs w' v' x.2 ∧ QTwo W w' q r l lr := by
  obtain ⟨v, zs, h1, h2, h3, h4, h5⟩ := h
  exact (qo_pop h3).mono fun _ _ ⟨v', he, hn, ho, hk⟩ => ⟨v', he, hn.1, v, zs, h1, h2.kp hk (fun k hf hn => hn hf), ho, h4, h5⟩

/-- The reference's list, where it is empty. -/
theorem tw_nil (h : QTwo W w q r l []) : ∃ A c, w.cell? ⟨r, 0, none⟩ = some (.slice A 0 c) := by
  obtain ⟨v, zs, h1, h2, _⟩ := h
  obtain rfl : zs = [] := List.map_eq_nil_iff.1 h1
  obtain ⟨A, c, rfl⟩ := h2.row.form
  have := h2.cell.cell 0
  exact ⟨A, c, by simpa using this⟩

/-- The reference's list, its first item, and how it is shortened. -/
theorem tw_head {x : It} (h : QTwo W w q r l (x :: lr)) : ∃ g off c b o cz, w.cell? ⟨r, 0, none⟩ = some (.slice (some ⟨g, off, none⟩) (lr.length + 1) c) ∧ w.frozen? ⟨r, 0, none⟩ = false ∧ g < w.heap.size ∧ lr.length + 1 ≤ c ∧ c ≤ maxLen ∧
    w.cell? ⟨g, off, none⟩ = some (.int .i64 x.1) ∧ w.cell? ⟨g, off + 1, none⟩ = some (.slice (some ⟨b, o, none⟩) x.2.length cz) ∧ Bs w (.slice (some ⟨b, o, none⟩) x.2.length cz) x.2 ∧ 0 < x.2.length ∧
    ∀ w', Kp (fun _ => False) w w' → QTwo W (w'.setCell ⟨r, 0, none⟩ (.slice (some ⟨g, if c = 1 then off else off + 2, none⟩) lr.length (c - 1))) q r l lr := by
  obtain ⟨v, zs, h1, h2, h3, h4, h5⟩ := h
  cases zs with
  | nil => cases h1
  | cons z zs =>
    obtain ⟨rfl, rfl⟩ := List.cons.inj (show (z.1, z.2.2) :: its zs = x :: lr from h1)
    obtain ⟨g, off, c, rfl, hBg, hg, hnc, hcm, hfz, hcells⟩ := h2.row.full (by simp)
    have c0 := h2.cell.cell 0
    have hx := h5 (z.1, z.2.2) (by simp)
    have hx0 : 0 < z.2.2.length := by
      simp only [okI, decide_eq_true_eq] at hx
      exact hx.1
    have hd := (h2.data z (by simp)).1
    obtain ⟨b, o, cz, hz, hb, _⟩ := hd.1.cell hx0
    have e0 : w.cell? ⟨g, off, none⟩ = some (.int .i64 z.1) := hcells 0 _ rfl
    have e1 : w.cell? ⟨g, off + 1, none⟩ = some z.2.1 := hcells 1 _ rfl
    rw [hz] at e1
    have hlz : (its zs).length = zs.length := by rw [its, List.length_map]
    refine ⟨g, off, c, b, o, cz, by rw [hlz]; simpa using c0, h2.cell.frozen 0, hg, by rw [hlz]; simpa using hnc, hcm, e0, e1, hz ▸ hd.1, hx0, fun w' hk => ?_⟩
    have hk2 := h2.kp hk (fun _ _ h => h)
    have hrl := hk2.cell.lt
    have hset : Kp (fun k => k = r) w' (w'.setCell ⟨r, 0, none⟩ (.slice (some ⟨g, if c = 1 then off else off + 2, none⟩) (its zs).length (c - 1))) := kp_set1 _ _ _ (Kp.refl _ w')
    have hgr : g ≠ r := h2.far g rfl
    have hrow := (hk2.row.drop 1 (by simp)).kp hset (fun k hk' e => hgr ((Option.some.inj hk').trans e))
    simp only [Nat.one_mul, List.length_cons, Nat.add_sub_cancel] at hrow
    have hfoot : ∀ k, QFoot r (.slice (some ⟨g, if c = 1 then off else off + 2, none⟩) (its zs).length (c - 1)) zs k → QFoot r (.slice (some ⟨g, off, none⟩) (z :: zs).length c) (z :: zs) k := fun k hk' => by
      rcases hk' with e | e | ⟨y, hy, e⟩
      · exact .inl e
      · exact .inr (.inl e)
      · exact .inr (.inr ⟨y, by simp [hy], e⟩)
    refine ⟨_, zs, rfl, ⟨hk2.cell.set 0 _, by simp only [hlz] at hrow ⊢; exact hrow, fun y hy => ?_, fun k hk' e => hgr ((Option.some.inj hk').trans e), by have := h2.few; simp at this; omega⟩, ?_, h4, fun x hx => h5 x (List.mem_cons_of_mem _ hx)⟩
    · have hy2 := hk2.data y (by simp [hy])
      exact ⟨⟨hy2.1.1.kp hset hy2.2, fun k hk' => by have := hy2.1.2.1 k hk'; simpa using this, hy2.1.2.2⟩, hy2.2⟩
    · refine ((h3.same hk).1.move (hset.mono (fun k _ e => .inl e)) (fun k hk' => ⟨.inl (hfoot k hk'), ?_⟩))
      have := (h2.foot h4 (hfoot k hk')).2
      have := hk.size
      simp only [World.size_setCell]
      omega

/-- The law's Put; the reference's is to come. -/
def QHalf (W w : World) (q r : Nat) (l lr : List It) (N : Nat) (v : Value) (ys : List Zt) : Prop :=
  ∃ vr zs, its zs = lr ∧ RAt w r W.heap.size vr zs ∧ QOff W w q l (QFoot r vr zs) ∧ W.heap.size ≤ r ∧ (∀ x ∈ lr, okI x = true) ∧ (∀ k, QFoot r vr zs k → k < N) ∧ LRow w N v ys

theorem QHalf.size {N : Nat} {v : Value} {ys : List Zt} (h : QHalf W w q r l lr N v ys) : W.heap.size ≤ w.heap.size := by
  obtain ⟨vr, zs, _, _, h3, _⟩ := h
  exact h3.below.size

theorem tw_put {wx : World} {a b : Value} {ys : List Zt} (h : QTwo W wx q r l lr) (hk : Kp (fun _ => False) wx w) (ha : LRow w wx.heap.size a ys) (hb : LRow w wx.heap.size b ys) (hy : ∀ y ∈ ys, y.2.2.length ≤ 140737488355328) (hn : ys.length ≤ 4398046511104) :
    Calls Try.prog 26 #[.pointer (some ⟨q, 0, none⟩), a] w fun e w' => e = .returned (.int .i64 (accept l.length (its ys)).length) ∧ QHalf W w' q r (l ++ accept l.length (its ys)) lr wx.heap.size b ys := by
  obtain ⟨v, zs, h1, h2, h3, h4, h5⟩ := h
  have hq : QOff W w q l (fun k => QFoot r v zs k ∨ (wx.heap.size ≤ k ∧ k < w.heap.size)) := h3.move hk.no (fun k hk' => by
    rcases hk' with hk' | hk'
    · exact ⟨.inl hk', Nat.lt_of_lt_of_le (h2.foot h4 hk').2 hk.size⟩
    · exact ⟨.inr hk'.1, hk'.2⟩)
  refine (qo_put hq a ys (ha.1.src ha.one) (fun y hy' => ⟨(ha.2 y hy').1.1, hy y hy'⟩) (fun k hk' => .inl (.inr (ha.1.lt k hk'))) (fun y hy' k hk' => .inl (.inr ((ha.2 y hy').1.2.1 k hk'))) hn).mono ?_
  rintro e w' ⟨he, ho, hkl⟩
  exact ⟨he, v, zs, h1, (h2.kp hk (fun _ _ h => h)).kp hkl (fun k hf hn => hn (.inl hf)), ho.sub (fun k hk' => .inl hk'), h4, h5, fun k hf => (h2.foot h4 hf).2, hb.kp hkl (fun k h0 h1 hn => hn (.inr ⟨h0, h1⟩))⟩

theorem ok_accept : ∀ (ys : List It) (n : Nat), ∀ x ∈ accept n ys, okI x = true := by
  intro ys
  induction ys with
  | nil => intro n x hx; simp [accept] at hx
  | cons y ys ih =>
    intro n x hx
    rw [accept] at hx
    cases hb : (okI y && Nat.blt n 32) with
    | false => rw [hb, cond_false] at hx; exact ih _ x hx
    | true =>
      rw [hb, cond_true] at hx
      rcases List.mem_cons.1 hx with rfl | hx
      · exact (Bool.and_eq_true_iff.1 hb).1
      · exact ih _ x hx

theorem tw_rput {N : Nat} {b : Value} {ys : List Zt} (h : QHalf W w q r l lr N b ys) (hW : W.heap.size ≤ w.heap.size) (hy : ∀ y ∈ ys, y.2.2.length ≤ 140737488355328) (hn : ys.length ≤ 4398046511104) :
    Calls Try.prog 34 #[.pointer (some ⟨r, 0, none⟩), b] w fun e w' => e = .returned (.int .i64 (accept lr.length (its ys)).length) ∧ QTwo W w' q r l (lr ++ accept lr.length (its ys)) := by
  obtain ⟨v, zs, rfl, h2, h3, h4, h5, h6, h7⟩ := h
  have hrN := h6 r (.inl rfl)
  refine (rq_put h2 hW b ys (h7.1.src h7.one) (fun y hy' => ⟨(h7.2 y hy').1.1, hy y hy'⟩) (fun k hk e => by have := (h7.1.lt k hk).1; omega) (fun y hy' k hk e => by have := ((h7.2 y hy').1.2.1 k hk).1; omega) hn).mono ?_
  rintro e w' ⟨he, v', ns, hns, h8, hk, hv, hnn⟩
  rw [show (its zs).length = zs.length by rw [its, List.length_map]]
  refine ⟨he, v', zs ++ ns, by rw [← hns, its, List.map_append]; rfl, h8, h3.move (hk.mono (fun k _ e => .inl e)) (fun k hk' => ⟨?_, (h8.foot h4 hk').2⟩), h4, fun x hx => ?_⟩
  · rcases hk' with e | e | ⟨y, hy', e⟩
    · exact .inl (.inl e)
    · rcases hv with rfl | hv
      · exact .inl (.inr (.inl e))
      · exact .inr (hv k e)
    · rcases List.mem_append.1 hy' with hy' | hy'
      · exact .inl (.inr (.inr ⟨y, hy', e⟩))
      · exact .inr (hnn y hy' k e)
  · rcases List.mem_append.1 hx with hx | hx
    · exact h5 x hx
    · exact ok_accept _ _ x hx

/-- The law's Drop; the reference's is to come. -/
def QHalfD (W w : World) (q r : Nat) (l lr : List It) (v : Value) (ns : List Int) : Prop :=
  QTwo W w q r l lr ∧ Src w 1 v ns.length (encN ns)

theorem tw_drop {wx : World} {A : Option Addr} {c : Nat} {ns : List Int} (h : QTwo W wx q r l lr) (hk : Kp (fun _ => False) wx w) (ha : RowAt w wx.heap.size 1 (.slice A ns.length c) ns.length (encN ns)) (hn : ns.length ≤ 4611686018427387904) :
    Calls Try.prog 28 #[.pointer (some ⟨q, 0, none⟩), .slice A ns.length c] w fun e w' => e = .returned (.int .i64 ((l.length - (keepI ns l).length : Nat) : Int)) ∧ QHalfD W w' q r (keepI ns l) lr (.slice A ns.length c) ns := by
  obtain ⟨v, zs, h1, h2, h3, h4, h5⟩ := h
  have hq : QOff W w q l (fun k => QFoot r v zs k ∨ (wx.heap.size ≤ k ∧ k < w.heap.size)) := h3.move hk.no (fun k hk' => by
    rcases hk' with hk' | hk'
    · exact ⟨.inl hk', Nat.lt_of_lt_of_le (h2.foot h4 hk').2 hk.size⟩
    · exact ⟨.inr hk'.1, hk'.2⟩)
  have hs : Src w 1 (.slice A ns.length c) ns.length (encN ns) := ha.src (fun u hu => by
    obtain ⟨x, _, rfl⟩ := List.mem_map.1 hu
    rfl)
  refine (qo_drop hq A c ns hs hn (fun k hk' => .inl (.inr (ha.lt k (own_map.trans hk'))))).mono ?_
  rintro e w' ⟨he, ho, hkl⟩
  exact ⟨he, ⟨v, zs, h1, (h2.kp hk (fun _ _ h => h)).kp hkl (fun k hf hn => hn (.inl hf)), ho.sub (fun k hk' => .inl hk'), h4, h5⟩, hkl.src hs (fun k hk' hn => hn (.inr (ha.lt k hk')))⟩

theorem tw_rdrop {A : Option Addr} {c : Nat} {ns : List Int} (h : QHalfD W w q r l lr (.slice A ns.length c) ns) (hn : ns.length ≤ 4611686018427387904) :
    Calls Try.prog 32 #[.pointer (some ⟨r, 0, none⟩), .slice A ns.length c] w fun e w' => e = .returned (.int .i64 ((lr.length - (keepI ns lr).length : Nat) : Int)) ∧ QTwo W w' q r l (keepI ns lr) := by
  obtain ⟨⟨v, zs, rfl, h2, h3, h4, h5⟩, hs⟩ := h
  refine (rq_drop h2 h3.below.size A c ns hs hn).mono ?_
  rintro e w' ⟨he, v', h8, hk, hv⟩
  have hkl : (keepZ ns zs).length ≤ zs.length := List.length_filter_le _ _
  rw [← keep_its, show (its zs).length = zs.length by rw [its, List.length_map], show (its (keepZ ns zs)).length = (keepZ ns zs).length by rw [its, List.length_map]]
  refine ⟨by rw [he]; congr 2; omega, v', keepZ ns zs, rfl, h8, h3.move (hk.mono (fun k _ e => .inl e)) (fun k hk' => ⟨?_, (h8.foot h4 hk').2⟩), h4, fun x hx => h5 x ?_⟩
  · rcases hk' with e | e | ⟨y, hy', e⟩
    · exact .inl (.inl e)
    · exact .inr (hv k e)
    · exact .inl (.inr (.inr ⟨y, (List.mem_filter.1 hy').1, e⟩))
  · obtain ⟨z, hz, rfl⟩ := List.mem_map.1 hx
    exact List.mem_map.2 ⟨z, (List.mem_filter.1 hz).1, rfl⟩

/-- Two lists of the same items, apart. -/
structure L2 (w : World) (BL : Nat) (a b : Value) (ys : List Zt) : Prop where
  one : LRow w BL a ys
  two : LRow w BL b ys
  apart : ∀ k, a.ownBlock = some k → b.ownBlock ≠ some k
theorem L2.nil (w : World) (BL : Nat) : L2 w BL (.slice none 0 0) (.slice none 0 0) [] := ⟨LRow.nil _ _, LRow.nil _ _, fun k hk => by cases hk⟩
theorem L2.kp {BL : Nat} {a b : Value} {ys : List Zt} (h : L2 w BL a b ys) (hk : Kp (fun _ => False) w w') : L2 w' BL a b ys := ⟨h.one.kp hk (fun _ _ _ h => h), h.two.kp hk (fun _ _ _ h => h), h.apart⟩

theorem lrow_app2 {w1 w2 : World} {BL : Nat} {vl v2 : Value} {ys : List Zt} {z : Zt} (h : LRow w1 BL vl ys) (hz : NewB w1 BL z.2.1 z.2.2) (hzv : ∀ k, z.2.1.ownBlock = some k → vl.ownBlock ≠ some k)
    (hr : RowAt w2 BL 2 v2 (ys.length + 1) (encs encZ ys ++ encZ z)) (hg : w1.grownBy w2 vl.ownBlock) (hn : Near w1 vl v2) : LRow w2 BL v2 (ys ++ [z]) ∧ Kp (fun k => vl.ownBlock = some k) w1 w2 ∧ (∀ k, v2.ownBlock = some k → vl.ownBlock = some k ∨ w1.heap.size ≤ k) := by
  have hk12 : Kp (fun k => vl.ownBlock = some k) w1 w2 := Kp.of_grown hg (fun i hi _ => hi)
  have hv2 : ∀ k, v2.ownBlock = some k → vl.ownBlock = some k ∨ w1.heap.size ≤ k := fun k e => by
    rcases hn with hn | hn
    · exact .inl (hn ▸ e)
    · exact .inr (hn k e)
  refine ⟨⟨by rw [List.length_append, encs_append, show encs encZ [z] = encZ z by simp [encs]]; exact hr, fun y hy => ?_⟩, hk12, hv2⟩
  have key : NewB w1 BL y.2.1 y.2.2 ∧ ∀ k, y.2.1.ownBlock = some k → vl.ownBlock ≠ some k := by
    rcases List.mem_append.1 hy with hy | hy
    · exact h.2 y hy
    · simp only [List.mem_singleton] at hy
      subst hy
      exact ⟨hz, hzv⟩
  obtain ⟨⟨d1, d2, d3⟩, d4⟩ := key
  refine ⟨⟨d1.kp hk12 (fun k hk e => d4 k hk e), fun k hk' => by have := d2 k hk'; have := hk12.size; omega, d3⟩, fun k hk' e => ?_⟩
  rcases hv2 k e with e' | e'
  · exact d4 k hk' e'
  · have := d2 k hk'; omega

/-- The first list has got another item, the second has not yet. -/
structure L2a (w : World) (BL : Nat) (a b : Value) (ys : List Zt) (z : Zt) : Prop where
  one : LRow w BL a (ys ++ [z])
  two : LRow w BL b ys
  apart : ∀ k, a.ownBlock = some k → b.ownBlock ≠ some k
  new : NewB w BL z.2.1 z.2.2
  far : ∀ k, z.2.1.ownBlock = some k → b.ownBlock ≠ some k
theorem l2_first {w0 w1 w2 : World} {BL : Nat} {a b a' : Value} {ys : List Zt} {z : Zt} (h : L2 w0 BL a b ys) (hB : BL ≤ w0.heap.size) (hk : Kp (fun _ => False) w0 w1) (hz : NewB w1 w0.heap.size z.2.1 z.2.2)
    (hr : RowAt w2 BL 2 a' (ys.length + 1) (encs encZ ys ++ encZ z)) (hg : w1.grownBy w2 a.ownBlock) (hn : Near w1 a a') : L2a w2 BL a' b ys z := by
  have h1 := h.kp hk
  have hzB : NewB w1 BL z.2.1 z.2.2 := ⟨hz.1, fun k hk' => by have := hz.2.1 k hk'; omega, hz.2.2⟩
  have hza : ∀ k, z.2.1.ownBlock = some k → a.ownBlock ≠ some k := fun k hk' e => by have := (hz.2.1 k hk').1; have := (h.one.1.lt k e).2; omega
  have hzb : ∀ k, z.2.1.ownBlock = some k → b.ownBlock ≠ some k := fun k hk' e => by have := (hz.2.1 k hk').1; have := (h.two.1.lt k e).2; omega
  obtain ⟨h2, hk2, hv2⟩ := lrow_app2 h1.one hzB hza hr hg hn
  refine ⟨h2, ⟨h1.two.1.kp hk2 (fun k hb ha => h1.apart k ha hb), fun y hy => ⟨⟨(h1.two.2 y hy).1.1.kp hk2 (fun k hk' => (h1.one.2 y hy).2 k hk'), fun k hk' => by have := (h1.two.2 y hy).1.2.1 k hk'; have := hk2.size; omega, (h1.two.2 y hy).1.2.2⟩, (h1.two.2 y hy).2⟩⟩, fun k ha hb => ?_, (h2.2 z (by simp)).1, hzb⟩
  rcases hv2 k ha with e | e
  · exact h1.apart k e hb
  · have := (h1.two.1.lt k hb).2; omega
theorem L2a.kp {BL : Nat} {a b : Value} {ys : List Zt} {z : Zt} (h : L2a w BL a b ys z) (hk : Kp (fun _ => False) w w') : L2a w' BL a b ys z :=
  ⟨h.one.kp hk (fun _ _ _ h => h), h.two.kp hk (fun _ _ _ h => h), h.apart, ⟨h.new.1.kp hk (fun _ _ h => h), fun k hk' => by have := h.new.2.1 k hk'; have := hk.size; omega, h.new.2.2⟩, h.far⟩
theorem l2_second {w1 w2 : World} {BL : Nat} {a b b' : Value} {ys : List Zt} {z : Zt} (h : L2a w1 BL a b ys z)
    (hr : RowAt w2 BL 2 b' (ys.length + 1) (encs encZ ys ++ encZ z)) (hg : w1.grownBy w2 b.ownBlock) (hn : Near w1 b b') : L2 w2 BL a b' (ys ++ [z]) := by
  obtain ⟨h2, hk2, hv2⟩ := lrow_app2 h.two h.new h.far hr hg hn
  refine ⟨⟨h.one.1.kp hk2 (fun k ha hb => h.apart k ha hb), fun y hy => ⟨⟨(h.one.2 y hy).1.1.kp hk2 (fun k hk' => ?_), fun k hk' => by have := (h.one.2 y hy).1.2.1 k hk'; have := hk2.size; omega, (h.one.2 y hy).1.2.2⟩, (h.one.2 y hy).2⟩⟩, h2, fun k ha hb => ?_⟩
  · rcases List.mem_append.1 hy with hy | hy
    · exact (h.two.2 y hy).2 k hk'
    · simp only [List.mem_singleton] at hy
      subst hy
      exact h.far k hk'
  · rcases hv2 k hb with e | e
    · exact h.apart k ha e
    · have := (h.one.1.lt k ha).2; omega
end

theorem rawT_rd {W : World} {v : Value} (h : SlArg 61 W v) : RdSl W 56 [RdI, RdSl W 8 [RdI], RdBy W] v := by
  have hB : Try.prog.bytesOf 66 = 56 := by kernel_rfl
  have h8 : Try.prog.bytesOf 3 = 8 := by kernel_rfl
  rw [← hB, ← h8]
  refine h.rd Try.underlying61 fun H enc => fieldSlS Try.underlying61 Try.underlying66 (by kernel_rfl) (by kernel_rfl) (by decide) rfl ?_
  intro j f q hf hq
  match j with
  | 0 => simp at hf hq; subst hf hq; exact fieldI Try.underlying3
  | 1 => simp at hf hq; subst hf hq; exact fieldSl1 Try.underlying58 (by kernel_rfl) (fieldI Try.underlying3)
  | 2 => simp at hf hq; subst hf hq; exact fieldBy Try.underlying53 (by kernel_rfl) (by kernel_rfl) Try.underlying5
  | j + 3 => simp at hf
end Go.Proofs.Ytelhnhnbfjamhaa
