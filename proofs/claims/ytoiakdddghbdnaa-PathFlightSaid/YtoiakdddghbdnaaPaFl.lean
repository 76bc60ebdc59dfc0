/-
  PathFlight: the plain laws; the map of what is under way.
-/
import Derived.Test.YtoiakdddghbdnaaPaA
import Derived.Test.YtoiakdddghbdnaaArgs
import Derived.Maps.OwnSet
import Derived.Maps.Views
namespace Go.Proofs.Ytoiakdddghbdnaa
open Go.RowKit Go.ChangeShapes Go.WideShapes Go.ChangeAt Go.Deep

/-- What a law of sends and losses keeps of a path. -/
structure PInv (s : PS) (i : Nat) : Prop where
  pw : s.zs.Pairwise (fun a b => a.n < b.n)
  num : ∀ z ∈ s.zs, 0 ≤ z.n ∧ z.n < s.next
  sent : ∀ z ∈ s.zs, 0 ≤ z.a ∧ z.a ≤ (i : Int)
  one : ∀ z ∈ s.zs, z.l.length = 1
  len : s.zs.length ≤ i
  nx : 0 ≤ s.next ∧ s.next ≤ (i : Int)
  tp : 0 ≤ s.top ∧ s.top ≤ s.next
  B : 0 ≤ s.r.B ∧ s.r.B ≤ (i : Int)
theorem pinv0 : PInv ps0 0 := ⟨List.Pairwise.nil, fun z hz => (by cases hz), fun z hz => (by cases hz), fun z hz => (by cases hz), Nat.le_refl _, ⟨Int.le_refl _, Int.le_refl _⟩, ⟨Int.le_refl _, Int.le_refl _⟩, ⟨Int.le_refl _, Int.le_refl _⟩⟩
theorem frsK_one : ∀ (zs : List Pk), (∀ z ∈ zs, z.l.length = 1) → (frsK zs).length = zs.length
  | [], _ => rfl
  | z :: zs, h => by
    have h1 := h z (by simp)
    have h2 := frsK_one zs (fun y hy => h y (by simp [hy]))
    have h3 : frsK (z :: zs) = z.l ++ frsK zs := rfl
    rw [h3, List.length_append, h1, h2, List.length_cons]; omega
theorem PInv.frs {s : PS} {i : Nat} (h : PInv s i) (f : Pk → Bool) : (frsK (s.zs.filter f)).length ≤ i := by
  rw [frsK_one _ (fun z hz => h.one z (List.mem_filter.1 hz).1)]
  exact Nat.le_trans (List.length_filter_le _ _) h.len
theorem PInv.frs0 {s : PS} {i : Nat} (h : PInv s i) : (frsK s.zs).length ≤ i := by rw [frsK_one _ h.one]; exact h.len
theorem PInv.part {s s' : PS} {i : Nat} (h : PInv s i) (f : Pk → Bool) (hz : s'.zs = s.zs.filter f) (hn : s'.next = s.next) (ht : 0 ≤ s'.top ∧ s'.top ≤ s.next) (hB : 0 ≤ s'.r.B ∧ s'.r.B ≤ ((i + 1 : Nat) : Int)) : PInv s' (i + 1) := by
  have hm : ∀ z ∈ s'.zs, z ∈ s.zs := fun z hz' => (List.mem_filter.1 (hz ▸ hz')).1
  refine ⟨hz ▸ h.pw.filter _, fun z hz' => by rw [hn]; exact h.num z (hm z hz'), fun z hz' => ?_, fun z hz' => h.one z (hm z hz'), ?_, ?_, ?_, hB⟩
  · have := h.sent z (hm z hz'); omega
  · rw [hz]; have := List.length_filter_le f s.zs; have := h.len; omega
  · rw [hn]; have := h.nx; omega
  · rw [hn]; exact ht
theorem PInv.sent1 {s : PS} {i : Nat} {z : Pk} (h : PInv s i) (h1 : z.n = s.next) (h2 : z.a = ((i + 1 : Nat) : Int)) (h3 : z.l.length = 1) : PInv { s with zs := s.zs ++ [z], next := s.next + 1 } (i + 1) := by
  refine ⟨List.pairwise_append.2 ⟨h.pw, List.pairwise_singleton _ _, fun a ha b hb => ?_⟩, fun y hy => ?_, fun y hy => ?_, fun y hy => ?_, ?_, ?_, ?_, ?_⟩
  · rw [List.mem_singleton.1 hb, h1]; exact (h.num a ha).2
  · dsimp only at hy ⊢
    have hnx := h.nx
    rcases List.mem_append.1 hy with hy | hy
    · have := h.num y hy; omega
    · rw [List.mem_singleton.1 hy, h1]; omega
  · dsimp only at hy
    rcases List.mem_append.1 hy with hy | hy
    · have := h.sent y hy; omega
    · rw [List.mem_singleton.1 hy, h2]; omega
  · dsimp only at hy
    rcases List.mem_append.1 hy with hy | hy
    · exact h.one y hy
    · rw [List.mem_singleton.1 hy, h3]
  · dsimp only; have := h.len; simp; omega
  · dsimp only; have := h.nx; omega
  · dsimp only; have := h.tp; omega
  · dsimp only; have := h.B; omega
theorem sample_B' (r : R4) (x : Int) : (r.sample x).B = 0 := R4.sample_B r x
theorem heardR_B {g : List Pk} {r : R4} {tp now : Int} : (heardR g r tp now).B = r.B ∨ (heardR g r tp now).B = 0 := by
  unfold heardR
  split
  · split
    · exact .inr (sample_B' _ _)
    · exact .inl rfl
  · exact .inl rfl

/-! The map. -/
abbrev KeyL (a : Int) : Lit := .int .i64 a
/-- D tells the numbers of what is under way. -/
structure Und (D : DataW Unit) (zs : List Pk) : Prop where
  tidy : Maps.Tidy D
  has : ∀ a, Maps.has D (KeyL a) = zs.any fun z => z.el && decide (z.n = a)
  size : Maps.size D = cntK zs
theorem und0 : Und (.map []) [] := ⟨Maps.tidy_empty, fun _ => rfl, rfl⟩
theorem key_lit (a : Int) : WideAt.IsKeyLit (KeyL a) := by simp [WideAt.IsKeyLit]
theorem cntK_snoc (zs : List Pk) (z : Pk) : cntK (zs ++ [z]) = cntK zs + (if z.el = true then 1 else 0) := by
  unfold cntK
  rw [List.filter_append, List.length_append]
  cases h : z.el <;> simp [h]
theorem Und.skip {D : DataW Unit} {zs : List Pk} {z : Pk} (h : Und D zs) (hz : z.el = false) : Und D (zs ++ [z]) :=
  ⟨h.tidy, fun a => by rw [h.has, List.any_append]; simp [hz], by rw [h.size, cntK_snoc, hz]; simp⟩
theorem Und.put {D : DataW Unit} {zs : List Pk} {z : Pk} (h : Und D zs) (hz : z.el = true) (hn : ∀ y ∈ zs, y.n < z.n) (d : DataW Unit) : Und (D.put (KeyL z.n) d) (zs ++ [z]) := by
  have hno : Maps.has D (KeyL z.n) = false := by
    rw [h.has, List.any_eq_false]
    intro y hy
    have := hn y hy
    simp; intro _; omega
  refine ⟨h.tidy.put (key_lit _) d, fun a => ?_, ?_⟩
  · by_cases e : a = z.n
    · subst e
      rw [Maps.has_put_same h.tidy.isMap (key_lit _)]
      simp [hz]
    · rw [Maps.has_put_other (by intro h; cases h; exact e rfl), h.has, List.any_append]
      have : ¬ z.n = a := fun h => e h.symm
      simp [this]
  · rw [Maps.size_put h.tidy, hno, h.size, cntK_snoc, hz]; simp
theorem hit_one {a : Int} (ha : 0 ≤ a) (z : Pk) : hitK [(a, a)] z = decide (z.n = a) := by
  unfold hitK hitP
  simp only [List.any_cons, List.any_nil, Bool.or_false]
  by_cases e : z.n = a
  · rw [decide_eq_true ha, decide_eq_true (by omega), decide_eq_true (by omega), decide_eq_true e]; rfl
  · rw [decide_eq_true ha, decide_eq_false e]
    by_cases h1 : a ≤ z.n
    · rw [decide_eq_true h1, decide_eq_false (by omega)]; rfl
    · rw [decide_eq_false h1]; rfl
theorem cnt_strike {a : Int} : ∀ {zs : List Pk}, zs.Pairwise (fun x y => x.n < y.n) → cntK (zs.filter fun z => !decide (z.n = a)) + (if zs.any (fun z => z.el && decide (z.n = a)) then 1 else 0) = cntK zs
  | [], _ => rfl
  | z :: zs, h => by
    obtain ⟨h1, h2⟩ := List.pairwise_cons.1 h
    have ih := cnt_strike (a := a) h2
    unfold cntK at ih ⊢
    by_cases e : z.n = a
    · have hno : zs.any (fun z => z.el && decide (z.n = a)) = false := by
        rw [List.any_eq_false]
        intro y hy
        have := h1 y hy
        simp; intro _; omega
      rw [hno] at ih
      cases hz : z.el <;> simp [e, hz, hno] at ih ⊢ <;> omega
    · cases hz : z.el <;> simp [e, hz] at ih ⊢ <;> omega
theorem Und.del {D : DataW Unit} {zs : List Pk} {a : Int} (h : Und D zs) (ha : 0 ≤ a) (hp : zs.Pairwise (fun x y => x.n < y.n)) : Und (D.del (KeyL a)) (zs.filter fun z => !hitK [(a, a)] z) := by
  have hf : (zs.filter fun z => !hitK [(a, a)] z) = zs.filter fun z => !decide (z.n = a) := by
    congr 1; funext z; rw [hit_one ha]
  rw [hf]
  refine ⟨h.tidy.del _, fun b => ?_, ?_⟩
  · by_cases e : b = a
    · subst e
      rw [Maps.has_del_same]
      symm
      rw [List.any_eq_false]
      intro y hy
      have := (List.mem_filter.1 hy).2
      simp at this
      simp [this]
    · rw [Maps.has_del_other (by intro h; cases h; exact e rfl), h.has, List.any_filter]
      congr 1
      funext z
      by_cases h1 : z.n = b
      · have : ¬ z.n = a := by omega
        simp [this]
      · simp [h1]
  · have h1 := Maps.size_del (k := KeyL a) h.tidy
    have h2 := cnt_strike (a := a) hp
    rw [h.has, h.size] at h1
    omega
theorem cnt_le (zs : List Pk) (f : Pk → Bool) : cntK (zs.filter f) ≤ cntK zs := by
  unfold cntK
  rw [List.filter_filter]
  induction zs with
  | nil => simp
  | cons z zs ih => simp only [List.filter_cons]; cases z.el <;> cases f z <;> simp <;> omega
theorem cnt_split (zs : List Pk) (f : Pk → Bool) : cntK (zs.filter f) + cntK (zs.filter fun z => !f z) = cntK zs := by
  unfold cntK
  induction zs with
  | nil => simp
  | cons z zs ih => cases hf : f z <;> cases hz : z.el <;> simp [hf, hz] at ih ⊢ <;> omega
theorem Und.same {D : DataW Unit} {zs : List Pk} {f : Pk → Bool} (h : Und D zs) (hc : cntK (zs.filter f) = cntK zs) : Und D (zs.filter f) := by
  refine ⟨h.tidy, fun a => ?_, by rw [h.size, hc]⟩
  have hs := cnt_split zs f
  have hno : ∀ z ∈ zs, f z = false → z.el = false := by
    intro z hz hf
    cases he : z.el with
    | false => rfl
    | true =>
      exfalso
      have h0 : cntK (zs.filter fun z => !f z) = 0 := by omega
      unfold cntK at h0
      have := List.eq_nil_of_length_eq_zero h0
      have hm : z ∈ (zs.filter fun z => !f z).filter (fun z => z.el) := List.mem_filter.2 ⟨List.mem_filter.2 ⟨hz, by simp [hf]⟩, he⟩
      rw [this] at hm; cases hm
  rw [h.has, List.any_filter]
  rw [Bool.eq_iff_iff, List.any_eq_true, List.any_eq_true]
  constructor
  · rintro ⟨z, hz, hq⟩
    refine ⟨z, hz, ?_⟩
    cases hf : f z with
    | true => simpa using hq
    | false => rw [hno z hz hf] at hq; simp at hq
  · rintro ⟨z, hz, hq⟩
    exact ⟨z, hz, by simp only [Bool.and_eq_true] at hq; simpa using hq.2⟩
/-- What is late: the window is not greater; where nothing that elicits is lost it is as it was. -/
theorem late_S {g : List Pk} {q : W4} {next : Int} (hq : q.Inv) : (lateQ g q next).S ≤ q.S ∧ (cntK g = 0 → lateQ g q next = q) := by
  obtain ⟨a, b, c, d, e, f⟩ := hq
  unfold lateQ
  constructor
  · split
    · split
      · unfold W4.bad; split
        · exact Int.le_refl _
        · dsimp only; omega
      · exact Int.le_refl _
    · exact Int.le_refl _
  · intro h0
    split
    · rw [if_neg (by omega)]
    · rfl

/-! The map in memory. -/
theorem wf64 (n : Int) (h0 : -9223372036854775808 ≤ n) (h1 : n ≤ 9223372036854775807) : (Lit.int .i64 n).wf = true := by
  have e1 : IntKind.i64.min = -9223372036854775808 := by decide
  have e2 : IntKind.i64.max = 9223372036854775807 := by decide
  simp [Lit.wf, e1, e2]
  omega
theorem keyN : Maps.Keyed Try.prog 3 := Maps.int_keyed Try.underlying3
def UndAt (w : World) (mb n : Nat) (D : DataW Unit) : Prop := w.ownsMap Try.prog 3 (plainElem (H := Unit) Try.prog 4) mb n D
section
variable {w w' : World} {mb n : Nat} {D : DataW Unit}
theorem UndAt.kp {S : Nat → Prop} (h : UndAt w mb n D) (hk : Kp S w w') (hn : ¬ S mb) : UndAt w' mb n D := by
  have hlt := World.ownsMap.lt h
  obtain ⟨es, clock, hb, rest⟩ := h
  exact ⟨es, clock, (hk.block mb hlt hn).trans hb, rest⟩
theorem UndAt.lt (h : UndAt w mb n D) : mb < w.heap.size := World.ownsMap.lt h
theorem UndAt.new (w : World) : UndAt (w.alloc (.map #[] 0)) w.heap.size 0 (.map []) := World.ownsMap_made _ _ _ _
theorem UndAt.len (h : UndAt w mb n D) (N : Nat) (hN : Maps.size D = N) : (Builtin.len_ #[54] 3 #[.map (some mb)]).run Try.prog w = .ok (.int .i64 (N : Nat)) w := by
  have := World.ownsMap.len h Try.underlying54 3
  rw [hN] at this
  exact this
end

/-! The arguments. -/
theorem fieldAny {H : Type} {enc : TypeId × Value → H} {P : Program} {w : World} {base : Nat} {spare : Nat → Bool} {held : Bool} {t e : TypeId} (ht : P.underlying t = some (.slice e)) : FieldOk enc P w base spare held t (fun v => ∃ A n c, v = .slice A n c) := by
  intro n u y h _
  rcases open_slice ht h with ⟨hu, _⟩ | ⟨a, len, cap, m, n', D, Pl, hu, _⟩
  · simp only [List.cons.injEq, and_true] at hu
    exact ⟨_, _, _, hu⟩
  · simp only [List.cons.injEq, and_true] at hu
    exact ⟨_, _, _, hu⟩
theorem raw11_rd {W : World} {v : Value} (h : SlArg 53 W v) : RdSl W 80 [RdI, RdI, RdI, RdI, fun v => ∃ A n c, v = .slice A n c, fun v => ∃ A n c, v = .slice A n c] v := by
  have hB : Try.prog.bytesOf 57 = 80 := by kernel_rfl
  rw [← hB]
  refine h.rd Try.underlying53 fun H enc => fieldSlS Try.underlying53 Try.underlying57 (by kernel_rfl) (by kernel_rfl) (by decide) rfl ?_
  intro j f q hf hq
  match j with
  | 0 => simp at hf hq; subst hf hq; exact fieldI Try.underlying3
  | 1 => simp at hf hq; subst hf hq; exact fieldI Try.underlying3
  | 2 => simp at hf hq; subst hf hq; exact fieldI Try.underlying3
  | 3 => simp at hf hq; subst hf hq; exact fieldI Try.underlying3
  | 4 => simp at hf hq; subst hf hq; exact fieldAny Try.underlying22
  | 5 => simp at hf hq; subst hf hq; exact fieldAny Try.underlying55
  | j + 6 => simp at hf
end Go.Proofs.Ytoiakdddghbdnaa
