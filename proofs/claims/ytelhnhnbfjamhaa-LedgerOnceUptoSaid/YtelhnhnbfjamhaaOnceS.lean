/-
  'LedgerOnce': the ledger beside the map of what was told.
-/
import Derived.Test.YtelhnhnbfjamhaaOnceR
import Derived.Test.YtelhnhnbfjamhaaArgsB
namespace Go.Proofs.Ytelhnhnbfjamhaa
open Go.RowKit

/-- The ledger l, and beside it the map mb of what was told. -/
structure OS (W w : World) (l mb : Nat) (vz : Value) (zs : List St) (T : List Int) (next top : Int) : Prop where
  led : LAt w l W.heap.size vz zs next top
  map : ToldAt w mb T
  kp : Kp (fun k => W.heap.size ≤ k) W w
  ne : l ≠ mb
  hl : W.heap.size ≤ l
  far : ∀ k, vz.ownBlock = some k → k ≠ mb
/-- A row that was told, beside the map. -/
def Got (W w : World) (mb : Nat) (v : Value) (xs : List St) : Prop := RowAt w W.heap.size 4 v xs.length (encs encS xs) ∧ ∀ k, v.ownBlock = some k → k ≠ mb

section
variable {W w w' : World} {l mb : Nat} {vz : Value} {zs : List St} {T : List Int} {next top : Int}
theorem OS.mlt (h : OS W w l mb vz zs T next top) : mb < w.heap.size := World.ownsMap.lt h.map
theorem OS.same (h : OS W w l mb vz zs T next top) (hk : Kp (fun _ => False) w w') : OS W w' l mb vz zs T next top :=
  ⟨h.led.kp hk (fun h => h) (fun _ _ h => h), h.map.kp hk (fun h => h), h.kp.trans hk.no, h.ne, h.hl, h.far⟩
theorem Got.same {v : Value} {xs : List St} (h : Got W w mb v xs) (hk : Kp (fun _ => False) w w') : Got W w' mb v xs := ⟨h.1.kp hk (fun _ _ h => h), h.2⟩
theorem Got.nil (W w : World) (mb : Nat) : Got W w mb (.slice none 0 0) [] := ⟨RowAt.nil _ _ _, fun k hk => by cases hk⟩

theorem os_put {w0 : World} (h : OS W w0 l mb vz zs T next top) (hk : Kp (fun _ => False) w0 w) {lv : Value} {c : Nat} {a : Int} (hr : RowAt w w0.heap.size 4 lv c (encs encS (sentS next c a)))
    (h0 : 0 ≤ next) (h1 : next ≤ 1099511627776) (hc : c ≤ 1048576) (hz : zs.length ≤ 549755813888) :
    Calls Try.prog 36 #[.pointer (some ⟨l, 0, none⟩), lv] w fun e w' => e = .returned (.tuple #[]) ∧ ∃ vz', OS W w' l mb vz' (zs ++ sentS next c a) T (next + c) top := by
  have h2 := h.same hk
  have hlt := h.led.row.lt
  have hll := h.led.cell.lt
  refine (l_put h2.led (Nat.le_trans h.kp.size hk.size) lv (sentS next c a) (by rw [sentS_len]; exact hr.src (encS_one _)) (fun k hk' hs => ?_) (fun i y hy => by rw [sentS_at _ _ _ _ _ hy]) h0 (by rw [sentS_len]; omega) (by rw [sentS_len]; omega)).mono ?_
  · have h3 := (hr.lt k hk').1
    rcases hs with hs | hs
    · omega
    · have := (hlt k hs).2; omega
  · rintro e w' ⟨he, v', hl', hk', hn⟩
    rw [sentS_len] at hl'
    refine ⟨he, v', hl', h2.map.kp hk' (fun hs => ?_), h2.kp.trans (hk'.mono (fun k _ hs => ?_)), h.ne, h.hl, fun k hk'' => ?_⟩
    · rcases hs with hs | hs
      · exact h.ne hs.symm
      · exact h.far mb hs rfl
    · rcases hs with rfl | hs
      · exact h.hl
      · exact (hlt k hs).1
    · rcases hn with hn | hn
      · exact h.far k (hn ▸ hk'')
      · have := hn k hk''; have := h2.mlt; omega

/-- What a part leaves, beside the map. -/
theorem os_parted {W1 : World} {p : St → Bool} {r : Value} {top2 : Int} (h : OS W w l mb vz zs T next top) (hk : Kp (fun k => k = l) w W1) (hp : Parted W1 w' l W.heap.size zs next top2 p r) :
    ∃ A, r = .slice A (zs.filter p).length (zs.filter p).length ∧ Got W w' mb r (zs.filter p) ∧ ∃ vz', OS W w' l mb vz' (zs.filter fun z => !p z) T next top2 := by
  obtain ⟨A, vo, rfl, hr, hl, hk2, hn⟩ := hp
  have hs := hk.size
  have hm := h.mlt
  have hW := h.kp.size
  have hkk : Kp (fun k => k = l) w w' := hk.trans hk2
  refine ⟨A, rfl, ⟨hr.base (by omega), fun k hk' => by have := (hr.lt k hk').1; omega⟩, vo, hl, h.map.kp hkk (fun e => h.ne e.symm), h.kp.trans (hkk.mono (fun k _ e => by rw [e]; exact h.hl)), h.ne, h.hl, fun k hk' => by have := hn k hk'; omega⟩

theorem os_ack (h : OS W w l mb vz zs T next top) {A : Option Addr} {c : Nat} {rs : List Pr} {w0 : World} (hw0 : OS W w0 l mb vz zs T next top) (hx : RowAt w w0.heap.size 2 (.slice A rs.length c) rs.length (encs encP rs)) (hlen : rs.length ≤ 4)
    (h0 : 0 ≤ top) (h1 : top ≤ next) (hn : next ≤ 1099511627776) (hz : zs.length ≤ 549755813888) :
    Calls Try.prog 37 #[.pointer (some ⟨l, 0, none⟩), .slice A rs.length c] w fun e w' => ∃ (r : Value) (en : Int) (p : St → Bool) (top2 : Int), e = .returned (.tuple #[r, .int .i64 en]) ∧ (¬ en = 0 → r = .slice none 0 0 ∧ zs.filter p = []) ∧ (∃ A2 n2, r = .slice A2 (zs.filter p).length n2) ∧ Got W w' mb r (zs.filter p) ∧ 0 ≤ top2 ∧ top2 ≤ next ∧ ∃ vz', OS W w' l mb vz' (zs.filter fun z => !p z) T next top2 := by
  have hs : Src w 2 (.slice A rs.length c) rs.length (encs encP rs) := hx.src (encP_one _)
  cases hb : rs.any (overP next) with
  | true =>
    refine (l_ack_bad h.led hs (by omega) hb).mono ?_
    rintro e w' ⟨he, hk'⟩
    have f0 : zs.filter (fun _ => false) = [] := List.filter_eq_nil_iff.2 (fun _ _ => by simp)
    have f1 : (zs.filter fun _ => !false) = zs := List.filter_eq_self.2 (fun _ _ => rfl)
    refine ⟨_, 2, fun _ => false, top, he, fun _ => ⟨rfl, f0⟩, ⟨none, 0, by rw [f0]; rfl⟩, by rw [f0]; exact Got.nil W w' mb, h0, h1, vz, by rw [f1]; exact h.same hk'⟩
  | false =>
    refine (l_ack h.led h.kp.size hs (fun k hk' e => by have := (hx.lt k hk').1; have := hw0.led.cell.lt; omega) (by omega) hb (by omega) h0 (by omega) (by omega)).mono ?_
    rintro e w' ⟨r, W1, he, hk1, hp⟩
    obtain ⟨A2, hr, hg, vz', ho⟩ := os_parted h hk1 hp
    have htop : ∀ (l : List Pr) (t : Int), (∀ r ∈ l, r.2 < next) → 0 ≤ t → t ≤ next → 0 ≤ topR t l ∧ topR t l ≤ next := by
      intro l
      induction l with
      | nil => intro t _ h0 h1; exact ⟨h0, h1⟩
      | cons r l ih =>
        intro t hr h0 h1
        have hr0 := hr r (by simp)
        simp only [topR, List.foldl_cons]
        refine ih _ (fun y hy => hr y (by simp [hy])) ?_ ?_
        · split <;> omega
        · split <;> omega
    have ht := htop rs top (fun r hr => by
      have := List.any_eq_false.1 hb r hr
      simp [overP] at this
      exact this) h0 h1
    exact ⟨r, 0, hitS rs, topR top rs, he, fun h => absurd rfl h, ⟨A2, _, hr⟩, hg, ht.1, ht.2, vz', ho⟩

theorem os_lose (h : OS W w l mb vz zs T next top) (now late : Int) (h0 : 0 ≤ top) (h1 : top ≤ next) (hn : next ≤ 1099511627776) (h2 : -4611686018427387904 ≤ now - late ∧ now - late ≤ 4611686018427387904) (hz : zs.length ≤ 549755813888) :
    Calls Try.prog 38 #[.pointer (some ⟨l, 0, none⟩), .int .i64 now, .int .i64 late] w fun e w' => ∃ r, e = .returned r ∧ (∃ A2 n2, r = .slice A2 (zs.filter (lostS top now late)).length n2) ∧ Got W w' mb r (zs.filter (lostS top now late)) ∧ ∃ vz', OS W w' l mb vz' (zs.filter fun z => !lostS top now late z) T next top := by
  refine (l_lose h.led h.kp.size now late h0 (by omega) h2 (by omega)).mono ?_
  rintro e w' ⟨r, W1, he, hk1, hp⟩
  obtain ⟨A2, hr, hg, ho⟩ := os_parted h (hk1.mono (fun _ _ h => h.elim)) hp
  exact ⟨r, he, ⟨A2, _, hr⟩, hg, ho⟩
theorem os_take (h : OS W w l mb vz zs T next top) (hz : zs.length ≤ 549755813888) :
    Calls Try.prog 45 #[.pointer (some ⟨l, 0, none⟩)] w fun e w' => ∃ r, e = .returned r ∧ (∃ A2 n2, r = .slice A2 zs.length n2) ∧ Got W w' mb r zs ∧ ∃ vz', OS W w' l mb vz' [] T next top := by
  refine (l_take h.led h.kp.size (by omega)).mono ?_
  rintro e w' ⟨r, he, hp⟩
  obtain ⟨A2, hr, hg, ho⟩ := os_parted h (Kp.refl _ w) hp
  rw [List.filter_eq_self.2 (fun _ _ => rfl)] at hr hg
  rw [List.filter_eq_nil_iff.2 (fun _ _ => by simp)] at ho
  exact ⟨r, he, ⟨A2, _, hr⟩, hg, ho⟩
end

theorem tellS_nodup : ∀ (xs : List St) (T : List Int), T.Nodup → xs.Pairwise (fun a b => a.1 < b.1) → (∀ z ∈ xs, z.1 ∉ T) → (tellS xs T).Nodup := by
  intro xs
  induction xs with
  | nil => intro T h _ _; exact h
  | cons x xs ih =>
    intro T h hp hd
    obtain ⟨h1, h2⟩ := List.pairwise_cons.1 hp
    refine ih _ (List.nodup_cons.2 ⟨hd x (by simp), h⟩) h2 (fun z hz hm => ?_)
    rcases List.mem_cons.1 hm with e | hm
    · have := h1 z hz; omega
    · exact hd z (by simp [hz]) hm

/-- The map has got more, the ledger is as it was. -/
theorem OS.told {W w w' : World} {l mb : Nat} {vz : Value} {zs : List St} {T T' : List Int} {next top : Int} (h : OS W w l mb vz zs T next top) (hW : W.heap.size ≤ mb) (hk : Kp (fun k => k = mb) w w') (hm : ToldAt w' mb T') : OS W w' l mb vz zs T' next top :=
  ⟨h.led.kp hk h.ne h.far, hm, h.kp.trans (hk.mono (fun k _ e => by rw [e]; exact hW)), h.ne, h.hl, h.far⟩

theorem rawL_rd {W : World} {v : Value} (h : SlArgB 89 W v) : RdSlB W [RdI, RdI, RdI, RdI, RdB, RdSlB W [RdI]] v := by
  refine h.rd Try.underlying89 fun H enc => fieldB_SlS Try.underlying89 Try.underlying92 (by kernel_rfl) (by kernel_rfl) (by decide) rfl ?_
  intro j f q hf hq
  match j with
  | 0 => simp at hf hq; subst hf hq; exact fieldB_I Try.underlying3
  | 1 => simp at hf hq; subst hf hq; exact fieldB_I Try.underlying3
  | 2 => simp at hf hq; subst hf hq; exact fieldB_I Try.underlying3
  | 3 => simp at hf hq; subst hf hq; exact fieldB_I Try.underlying3
  | 4 => simp at hf hq; subst hf hq; exact fieldB_B Try.underlying4
  | 5 => simp at hf hq; subst hf hq; exact fieldB_Sl1 Try.underlying58 (by kernel_rfl) (fieldB_I Try.underlying3)
  | j + 6 => simp at hf
end Go.Proofs.Ytelhnhnbfjamhaa
