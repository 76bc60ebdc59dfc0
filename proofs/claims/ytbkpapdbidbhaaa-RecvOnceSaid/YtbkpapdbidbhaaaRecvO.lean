/-
  RecvOnce: plain laws.
-/
import Derived.Test.YtbkpapdbidbhaaaRecvS
namespace Go.Proofs.Ytbkpapdbidbhaaa
open Go.RowKit

/-- A stream that is written from all's n bytes, its end told with the last of them. -/
structure Ow (all : List UInt8) (n : Nat) (s : RS) : Prop where
  ok : s.Ok
  told : s.told = 400
  good : Good2 all s
  top : s.top ≤ n
  len : s.d.length ≤ n
  rng : ∀ j, InL s.L j → 0 ≤ j ∧ j < (n : Int)
  broken : s.broken = false
  end_ : s.ended = true → s.en = n
  low : ∀ j : Nat, j < s.taken → InL s.L j
section
variable {all : List UInt8} {n : Nat} {s : RS}
theorem ow_start : Ow all n rs0 := ⟨rs0_ok, rfl, fun j hj => absurd hj (inl_nil _), Nat.zero_le _, Nat.zero_le _, fun j hj => absurd hj (inl_nil _), rfl, (fun h => by cases h), fun j hj => absurd hj (Nat.not_lt_zero _)⟩
theorem ow_perr (h : Ow all n s) (h4 : n ≤ 400) (o m : Nat) (hto : o + m ≤ n) (fin : Bool) (hf : fin = true → o + m = n) : putErr s (o : Int) fin m = 0 := by
  unfold putErr
  have ht := h.told
  have htp := h.top
  rw [if_neg (by omega), if_neg (by omega), if_neg]
  rintro (⟨h1, h2⟩ | ⟨h1, h2, h3⟩ | ⟨h1, h2⟩)
  · have := h.end_ h1
    omega
  · have := h.end_ h2
    have := hf h1
    omega
  · have := hf h1
    omega
theorem ow_put (h : Ow all n s) (h4 : n ≤ 400) {o : Nat} {fin : Bool} {p : List UInt8} (hto : o + p.length ≤ n) (hf : fin = true → o + p.length = n) (hp : ∀ j, o ≤ j → j < o + p.length → p[j - o]? = all[j]?) (hok : (putS s o fin p).Ok) : Ow all n (putS s o fin p) := by
  have htop : (putS s o fin p).top ≤ n := by
    show (if p.length = 0 ∧ fin = false then s.top else max s.top (o + p.length)) ≤ n
    have := h.top
    split <;> omega
  refine ⟨hok, h.told, good_put h.ok (by omega) h.good (fun j h1 h2 _ => hp j h1 h2), htop, ?_, fun j hj => ?_, h.broken, fun he => ?_, fun j hj => ?_⟩
  · rw [putS_len h.ok (by omega)]
    have := h.len
    omega
  · rcases (putS_in h.ok (by omega) j).1 hj with h1 | h1
    · exact h.rng j h1
    · omega
  · show (if fin = true then o + p.length else s.en) = n
    by_cases hfin : fin = true
    · rw [if_pos hfin]; exact hf hfin
    · rw [if_neg hfin]
      have he' : (s.ended || fin) = true := he
      rw [show fin = false by simpa using hfin, Bool.or_false] at he'
      exact h.end_ he'
  · exact (putS_in h.ok (by omega) j).2 (.inl (h.low j hj))
theorem ow_take (h : Ow all n s) (most : Int) : Ow all n (takeS s (toN s most)) ∧ s.taken ≤ toN s most ∧ toN s most ≤ n := by
  have ht := to_le h.ok most
  have hl := h.len
  refine ⟨⟨takeS_ok h.ok _ ht.2, h.told, h.good, h.top, h.len, h.rng, h.broken, h.end_, fun j hj => ?_⟩, ht.1, by omega⟩
  by_cases hjt : j < s.taken
  · exact h.low j hjt
  · refine far_in h.ok j (by omega) ?_
    have hj' : j < toN s most := hj
    have : toN s most ≤ farN s := by unfold toN; omega
    omega
/-- Where the first number that did not come is known: how far Take goes. -/
theorem ow_to (h : Ow all n s) (first most : Nat) (hf1 : ∀ j : Nat, j < first → InL s.L j) (hf2 : ¬ InL s.L (first : Int)) (hm : most ≤ 1048576) : toN s (most : Int) = min first (s.taken + most) := by
  have hle : s.taken ≤ first := by
    rcases Nat.lt_or_ge first s.taken with h1 | h1
    · exact absurd (h.low first h1) hf2
    · exact h1
  have hf : firstL s.L s.taken = (first : Int) := first_is h.ok.norm (by omega) (fun j h1 h2 => by
    have := hf1 j.toNat (by omega)
    rw [show ((j.toNat : Nat) : Int) = j by omega] at this
    exact this) hf2
  unfold toN farN mostN
  rw [if_neg (by rw [h.broken]; simp), hf]
  omega
theorem ow_over (h : Ow all n s) (t : Nat) (hlast : t = n → s.ended = true) (_ht : t ≤ n) : overN (takeS s t) = if t = n then 1 else 0 := by
  show (if s.broken = true ∧ s.sure ≤ t then 2 else if s.broken = false ∧ s.ended = true ∧ t = s.en then 1 else 0) = _
  rw [if_neg (by rw [h.broken]; simp)]
  by_cases e : t = n
  · rw [if_pos e, if_pos ⟨h.broken, hlast e, by rw [h.end_ (hlast e)]; exact e⟩]
  · rw [if_neg e, if_neg]
    rintro ⟨_, h2, h3⟩
    rw [h.end_ h2] at h3
    exact e h3
/-- The end is told with the last byte. -/
def Et (n : Nat) (s : RS) : Prop := ∀ j : Nat, j + 1 = n → InL s.L (j : Int) → s.ended = true
theorem et_start : Et n rs0 := fun _ _ h => absurd h (inl_nil _)
theorem et_put (h : Ow all n s) (h4 : n ≤ 400) (he : Et n s) {o : Nat} {fin : Bool} {p : List UInt8} (hto : o + p.length ≤ n) (hf : o + p.length = n → fin = true) : Et n (putS s o fin p) ∧ (n = 0 → (putS s o fin p).ended = true) := by
  refine ⟨fun j hj hI => ?_, fun h0 => ?_⟩
  · show (s.ended || fin) = true
    rcases (putS_in h.ok (by omega) j).1 hI with h1 | h1
    · rw [he j hj h1]; rfl
    · rw [hf (by omega)]; simp
  · show (s.ended || fin) = true
    rw [hf (by omega)]; simp
/-- Where all of it was taken the end was told. -/
theorem et_last (h : Ow all n s) (he : Et n s) (h0 : n = 0 → s.ended = true) (most : Int) (ht : toN s most = n) : s.ended = true := by
  rcases Nat.eq_zero_or_pos n with hn | hn
  · exact h0 hn
  · refine he (n - 1) (by omega) ?_
    have := (ow_take h most).1.low (n - 1) (by show n - 1 < toN s most; omega)
    exact this
/-- Which came: a row of what was had. -/
theorem had_put (h : s.Ok) {o : Nat} {fin : Bool} {p : List UInt8} (hto : o + p.length ≤ 10000000) {bs bs' : List Bool} (hI : ∀ j : Nat, InL s.L (j : Int) ↔ bs[j]? = some true) (hb : ∀ j : Nat, bs'[j]? = some true ↔ bs[j]? = some true ∨ (o ≤ j ∧ j < o + p.length)) (j : Nat) : InL (putS s o fin p).L (j : Int) ↔ bs'[j]? = some true := by
  rw [putS_in h hto, hb, hI]
  constructor <;> rintro (h1 | h1)
  · exact .inl h1
  · exact .inr (by omega)
  · exact .inl h1
  · exact .inr (by omega)
theorem had_set {bs bs' : List Bool} {a k : Nat} (hk : k < bs'.length) (hak : a ≤ k) (hb : ∀ j : Nat, bs'[j]? = some true ↔ bs[j]? = some true ∨ (a ≤ j ∧ j < k)) (j : Nat) : (bs'.set k true)[j]? = some true ↔ bs[j]? = some true ∨ (a ≤ j ∧ j < k + 1) := by
  rw [List.getElem?_set]
  by_cases hjk : k = j
  · subst hjk
    rw [if_pos rfl, if_pos hk]
    exact ⟨fun _ => .inr ⟨hak, by omega⟩, fun _ => rfl⟩
  · rw [if_neg hjk, hb]
    constructor <;> rintro (h1 | h1)
    · exact .inl h1
    · exact .inr (by omega)
    · exact .inl h1
    · exact .inr (by omega)
/-- The last piece: all of it. -/
theorem ow_full (h : Ow all n s) (h4 : n ≤ 400) {p : List UInt8} (hp : p.length = n) : (putS s 0 true p).top = n ∧ (putS s 0 true p).ended = true ∧ ∀ j : Nat, j < n → InL (putS s 0 true p).L (j : Int) := by
  refine ⟨?_, ?_, fun j hj => (putS_in h.ok (by omega) j).2 (.inr (by omega))⟩
  · show (if p.length = 0 ∧ true = false then s.top else max s.top (0 + p.length)) = n
    have := h.top
    rw [if_neg (fun h => by cases h.2)]
    omega
  · show (s.ended || true) = true
    simp
/-- How far Take goes behind all of it. -/
theorem ow_end (h : Ow all n s) (hI : ∀ j : Nat, j < n → InL s.L (j : Int)) (most : Nat) (hm : most ≤ 1048576) : toN s (most : Int) = min n (s.taken + most) :=
  ow_to h n most hI (fun h1 => by have := h.rng _ h1; omega) hm
end
end Go.Proofs.Ytbkpapdbidbhaaa
