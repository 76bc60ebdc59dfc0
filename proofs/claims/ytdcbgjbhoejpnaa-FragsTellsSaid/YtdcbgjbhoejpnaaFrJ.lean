/-
  FragsTells: one put on both sides, whatever the head is.
-/
import Derived.Test.YtdcbgjbhoejpnaaFrTP
import Derived.Test.YtdcbgjbhoejpnaaFrag5
import Derived.Test.YtdcbgjbhoejpnaaFragAll
namespace Go.Proofs.Ytdcbgjbhoejpnaa
open Go.RowKit

/-- Is it a piece of this message, in its length? -/
def fitsB (id dl ct : Int) (n : Nat) (id' dl' ct' ix' sz' : Int) (m : Nat) : Bool := decide (id' = id ∧ dl' = dl ∧ ct' = ct ∧ sz' = (n : Int) ∧ 0 ≤ ix' ∧ ix' < ct ∧ (m : Int) = min 80 ((n : Int) - 80 * ix'))
theorem fits_yes {id dl ct : Int} {n : Nat} {id' dl' ct' ix' sz' : Int} {m : Nat} (h : fitsB id dl ct n id' dl' ct' ix' sz' m = true) : id' = id ∧ dl' = dl ∧ ct' = ct ∧ sz' = (n : Int) ∧ 0 ≤ ix' ∧ ix' < ct ∧ (m : Int) = min 80 ((n : Int) - 80 * ix') := of_decide_eq_true h
theorem fits_no {id dl ct : Int} {n : Nat} {id' dl' ct' ix' sz' : Int} {m : Nat} (h : fitsB id dl ct n id' dl' ct' ix' sz' m = false) : ¬ (id' = id ∧ dl' = dl ∧ ct' = ct ∧ sz' = (n : Int) ∧ 0 ≤ ix' ∧ ix' < ct ∧ (m : Int) = min 80 ((n : Int) - 80 * ix')) := of_decide_eq_false h

def PutR (f : Bool) (ct ix : Int) (p : List UInt8) (L : List Pr) (d : List UInt8) (L' : List Pr) (d' : List UInt8) : Prop :=
  (f = true → ∃ k : Nat, ix = (k : Int) ∧ (k : Int) < ct ∧ d' = (if L.any (hasP (k : Int)) = true then d else putD d (k * 80) p) ∧ ∀ j : Int, InL L' j ↔ InL L j ∨ j = (k : Int)) ∧ (f = false → L' = L ∧ d' = d)
def PutQ (f : Bool) (ct ix : Int) (p : List UInt8) (bs : List Bool) (d : List UInt8) (bs' : List Bool) (d' : List UInt8) : Prop :=
  (f = true → ∃ k : Nat, ix = (k : Int) ∧ (k : Int) < ct ∧ ((bs[k]? = some true ∧ bs' = bs ∧ d' = d) ∨ (bs[k]? = some false ∧ bs' = bs.set k true ∧ d' = putD d (k * 80) p))) ∧ (f = false → bs' = bs ∧ d' = d)

theorem jput {w : World} {F : List Nat} {g gb : Nat} {id dl ct : Int} {n : Nat} {L : List Pr} {d : List UInt8} (h : HasFr w F g gb id dl ct n L d) (id' dl' ct' ix' sz' : Int) {A : Option Addr} {m c : Nat} {p : List UInt8} (hp : Src w 1 (.slice A m c) m (encB p)) (hm6 : m ≤ 1000000) :
    Calls Try.prog 28 #[.pointer (some ⟨g, 0, none⟩), .agg #[.int .i64 id', .int .i64 dl', .int .i64 ct', .int .i64 ix', .int .i64 sz'], .slice A m c] w fun e w' => e = .returned (.bool (fitsB id dl ct n id' dl' ct' ix' sz' m)) ∧
      ∃ L' d', HasFr w' F g gb id dl ct n L' d' ∧ PutR (fitsB id dl ct n id' dl' ct' ix' sz' m) ct ix' p L d L' d' ∧ Kp (fun j => j = g ∨ j = gb) w w' := by
  have hr := rightB_iff0.1 h.right
  cases hf : fitsB id dl ct n id' dl' ct' ix' sz' m with
  | true =>
    obtain ⟨rfl, rfl, rfl, rfl, h1, h2, h3⟩ := fits_yes hf
    obtain ⟨k, rfl⟩ : ∃ k : Nat, ix' = (k : Int) := ⟨ix'.toNat, by omega⟩
    have hct : ct' = cntH (n : Int) := hr.2.2.2.2.2.2.1
    unfold cntH at hct
    have hm1 : 1 ≤ m := by omega
    have hA : A ≠ none := by
      rintro rfl
      obtain ⟨_, _, ⟨_, h0⟩ | ⟨a, c', hv, _⟩⟩ := hp
      · omega
      · cases hv
    refine (r_put h k h2 hp h3 hA).mono ?_
    rintro e w' ⟨rfl, L', hF, hI, hk⟩
    exact ⟨rfl, L', _, hF, ⟨fun _ => ⟨k, rfl, h2, rfl, hI⟩, fun h => by cases h⟩, hk⟩
  | false =>
    have hn := fits_no hf
    refine (r_putN h id' dl' ct' ix' sz' A m c hm6 ?_).mono ?_
    · by_cases e : hdB id' dl' ct' 0 sz' id dl ct 0 (n : Int) = false
      · exact .inl e
      · have e2 : hdB id' dl' ct' 0 sz' id dl ct 0 (n : Int) = true := by simpa using e
        unfold hdB at e2
        simp at e2
        right
        omega
    · rintro e w' ⟨rfl, hk⟩
      exact ⟨rfl, L, d, h.no hk, ⟨fun h => (by cases h), fun _ => ⟨rfl, rfl⟩⟩, hk.no⟩

theorem jrput {w : World} {r n : Nat} {id dl ct : Int} {bs : List Bool} {d : List UInt8} (h : RwAt w r id dl ct n bs d) (hr : rightB id dl ct 0 (n : Int) = true) (id' dl' ct' ix' sz' : Int) {A : Option Addr} {m c : Nat} {p : List UInt8} (hp : Src w 1 (.slice A m c) m (encB p)) (hpr : ∀ j, (Value.slice A m c).ownBlock = some j → j ≠ r) (hm6 : m ≤ 1000000) :
    Calls Try.prog 36 #[.pointer (some ⟨r, 0, none⟩), .agg #[.int .i64 id', .int .i64 dl', .int .i64 ct', .int .i64 ix', .int .i64 sz'], .slice A m c] w fun e w' => e = .returned (.bool (fitsB id dl ct n id' dl' ct' ix' sz' m)) ∧
      ∃ bs' d', RwAt w' r id dl ct n bs' d' ∧ PutQ (fitsB id dl ct n id' dl' ct' ix' sz' m) ct ix' p bs d bs' d' ∧ Kp (fun j => j = r) w w' := by
  have hr0 := rightB_iff0.1 hr
  have hct : ct = cntH (n : Int) := hr0.2.2.2.2.2.2.1
  cases hf : fitsB id dl ct n id' dl' ct' ix' sz' m with
  | true =>
    obtain ⟨rfl, rfl, rfl, rfl, h1, h2, h3⟩ := fits_yes hf
    obtain ⟨k, rfl⟩ : ∃ k : Nat, ix' = (k : Int) := ⟨ix'.toNat, by omega⟩
    have hrk : rightB id' dl' ct' (k : Int) (n : Int) = true := rightB_iff0.2 (by omega)
    have hmm : m = min 80 (n - k * 80) := by unfold cntH at hct; omega
    have hk8 : k < bs.length := by rw [h.bl]; unfold cntH at hct; omega
    cases hb : bs[k]'hk8 with
    | true =>
      have hb' : bs[k]? = some true := by rw [List.getElem?_eq_getElem hk8, hb]
      refine (rput_old h k hrk A m c hm6 hmm hb').mono ?_
      rintro e w' ⟨rfl, hR, hk⟩
      exact ⟨rfl, bs, d, hR, ⟨fun _ => ⟨k, rfl, h2, .inl ⟨hb', rfl, rfl⟩⟩, fun h => by cases h⟩, hk⟩
    | false =>
      have hb' : bs[k]? = some false := by rw [List.getElem?_eq_getElem hk8, hb]
      refine (rput_new h k hrk A m c hm6 hmm p hp hpr hb').mono ?_
      rintro e w' ⟨rfl, hR, hk⟩
      exact ⟨rfl, _, _, hR, ⟨fun _ => ⟨k, rfl, h2, .inr ⟨hb', rfl, rfl⟩⟩, fun h => by cases h⟩, hk⟩
  | false =>
    have hn := fits_no hf
    have fin : ∀ (e : Ending) (w' : World), (e = .returned (.bool false) ∧ Kp (fun _ => False) w w') → e = .returned (.bool false) ∧
      ∃ bs' d', RwAt w' r id dl ct n bs' d' ∧ PutQ false ct ix' p bs d bs' d' ∧ Kp (fun j => j = r) w w' := by
      rintro e w' ⟨rfl, hk⟩
      exact ⟨rfl, bs, d, ⟨hk.whole h.cell (fun h => h), h.bl, h.dl6⟩, ⟨fun h => (by cases h), fun _ => ⟨rfl, rfl⟩⟩, hk.no⟩
    by_cases e1 : rightB id' dl' ct' ix' sz' = true
    · by_cases e2 : id' = id ∧ dl' = dl ∧ sz' = (n : Int)
      · obtain ⟨rfl, rfl, rfl⟩ := e2
        have hr1 := rightB_iff0.1 e1
        obtain rfl : ct' = ct := by omega
        obtain ⟨k, rfl⟩ : ∃ k : Nat, ix' = (k : Int) := ⟨ix'.toNat, by omega⟩
        refine (rput_len h k e1 A m c (min 80 (n - k * 80)) hm6 rfl ?_).mono fin
        intro hm
        unfold cntH at hct
        exact hn (by omega)
      · exact (rput_no h id' dl' ct' ix' sz' A m c hm6 (.inr ⟨e1, e2⟩)).mono fin
    · exact (rput_no h id' dl' ct' ix' sz' A m c hm6 (.inl (by simpa using e1))).mono fin

theorem rel_after {f : Bool} {ct ix : Int} {n m : Nat} {p : List UInt8} {L L' : List Pr} {d d' dd dd' : List UInt8} {bs bs' : List Bool} (hR : PutR f ct ix p L d L' d') (hQ : PutQ f ct ix p bs dd bs' dd') (hc : ct ≤ 8) (hbl : bs.length = 8) (hdl : dd.length = 600) (hn : n ≤ 600) (hp : p.length = m)
    (hm : f = true → (m : Int) = min 80 ((n : Int) - 80 * ix)) (hI : ∀ j : Nat, j < 8 → (InL L (j : Int) ↔ bs[j]? = some true)) (hd : d = dd.take n) :
    (∀ j : Nat, j < 8 → (InL L' (j : Int) ↔ bs'[j]? = some true)) ∧ d' = dd'.take n := by
  cases f with
  | false =>
    obtain ⟨rfl, rfl⟩ := hR.2 rfl
    obtain ⟨rfl, rfl⟩ := hQ.2 rfl
    exact ⟨hI, hd⟩
  | true =>
    obtain ⟨k, hk, hkc, hd', hL⟩ := hR.1 rfl
    obtain ⟨k', hk', _, hq⟩ := hQ.1 rfl
    have hm' := hm rfl
    obtain rfl : k' = k := by omega
    have hin := hI k' (by omega)
    rcases hq with ⟨hb, rfl, rfl⟩ | ⟨hb, rfl, rfl⟩
    · have ha : L.any (hasP (k' : Int)) = true := (has_iff L _).2 (hin.2 hb)
      rw [if_pos ha] at hd'
      refine ⟨fun j hj => ?_, hd'.trans hd⟩
      rw [hL, ← hI j hj]
      constructor
      · rintro (h | h)
        · exact h
        · rw [h]; exact hin.2 hb
      · exact .inl
    · have ha : ¬ L.any (hasP (k' : Int)) = true := fun h => by
        rw [hin.1 ((has_iff L _).1 h)] at hb
        cases hb
      rw [if_neg ha] at hd'
      refine ⟨rel_set hbl (by omega) hI hL, ?_⟩
      rw [hd', hd, putD_take (by omega) (by omega)]

/-- What both sides tell as bytes. -/
def tellB (f : Bool) (d : List UInt8) : List UInt8 := if f = true then d else []
theorem jbytes {w : World} {F : List Nat} {g gb : Nat} {id dl ct : Int} {n : Nat} {L : List Pr} {d : List UInt8} (h : HasFr w F g gb id dl ct n L d) (f : Bool) (hf : fullB L ct = f) :
    Calls Try.prog 29 #[.pointer (some ⟨g, 0, none⟩)] w fun e w' => ∃ A m c, e = .returned (.slice A m c) ∧ RowAt w' w.heap.size 1 (.slice A m c) m (encB (tellB f d)) ∧ Hid (m = (tellB f d).length) ∧ Kp (fun _ => False) w w' := by
  cases f with
  | false =>
    refine (r_bytesN h hf).mono ?_
    rintro e w' ⟨rfl, hk⟩
    exact ⟨none, 0, 0, rfl, RowAt.nil w' _ 1, Lib.hid rfl, hk⟩
  | true =>
    refine (r_bytesY h hf).mono ?_
    rintro e w' ⟨A, rfl, hr, hk⟩
    exact ⟨A, n, n, rfl, hr, Lib.hid h.len.symm, hk⟩
theorem jrbytes {w : World} {r n : Nat} {id dl : Int} {ct : Nat} {bs : List Bool} {d : List UInt8} (h : RwAt w r id dl (ct : Int) n bs d) (hct : ct ≤ 8) (hn : n ≤ 600) (f : Bool) (hf : rfullB bs ct = f) :
    Calls Try.prog 39 #[.pointer (some ⟨r, 0, none⟩)] w fun e w' => ∃ A m c, e = .returned (.slice A m c) ∧ RowAt w' w.heap.size 1 (.slice A m c) m (encB (tellB f (d.take n))) ∧ Hid (m = (tellB f (d.take n)).length) ∧ Kp (fun _ => False) w w' := by
  cases f with
  | false =>
    refine (rbytes_no h hct hf).mono ?_
    rintro e w' ⟨rfl, hk⟩
    exact ⟨none, 0, 0, rfl, RowAt.nil w' _ 1, Lib.hid rfl, hk⟩
  | true =>
    refine (rbytes_yes h hct hn hf).mono ?_
    rintro e w' ⟨A, cap, rfl, hr, hk⟩
    exact ⟨A, n, cap, rfl, hr, Lib.hid (by simp [tellB, h.dl6]; omega), hk⟩
theorem wpAnyH_hold {P : Program} {md : Region.Mode} {ops : Array Oper} {Q : Exit → Act → World → Prop} {S S' : World → Prop} (hSS : ∀ w, S' w → S w) :
    ∀ (fuel : Nat) (listed : Array Bool) (a : Act) (w : World), wpAnyH P md ops Q S' fuel listed a w → wpAnyH P md ops Q S fuel listed a w
  | 0, _, _, _, h => h
  | fuel + 1, _, _, _, h => ⟨h.1, fun i hi => wpOp_mono (fun _ _ h' => ⟨hSS _ h'.1, wpAnyH_hold hSS fuel _ _ _ h'.2⟩) (h.2 i hi)⟩
/-- A row of bytes read as a string. -/
theorem conv_any {w : World} {B m c : Nat} {A : Option Addr} {d : List UInt8} (hl : m = d.length) (h : RowAt w B 1 (.slice A m c) m (encB d)) :
    (convert 54 9 (.slice A m c)).run Try.prog w = .ok (.string ⟨d.toArray⟩) w := by
  by_cases h0 : 0 < m
  · exact conv_src hl.symm h0 (h.src (encB_one _))
  · obtain rfl : d = [] := List.eq_nil_of_length_eq_zero (by omega)
    obtain rfl : m = 0 := by omega
    rcases h.2 with ⟨hv, _⟩ | ⟨g, off, cap, hv, _⟩
    · cases hv
      rw [run_convert_bytes_string (P := Try.prog) w 54 9 5 none 0 0 Try.underlying54 Try.underlying5 Try.underlying9]
      simp [Conv.bytesToString]
      rfl
    · cases hv
      exact conv_row (d := []) rfl (fun j u hj => by simp [encB] at hj)
theorem jrfull {w : World} {r n : Nat} {id dl : Int} {ct : Nat} {bs : List Bool} {d : List UInt8} (h : RwAt w r id dl (ct : Int) n bs d) (hct : ct ≤ 8) (f : Bool) (hf : rfullB bs ct = f) :
    Calls Try.prog 38 #[.pointer (some ⟨r, 0, none⟩)] w fun e w' => e = .returned (.bool f) ∧ Kp (fun _ => False) w w' := by
  subst hf
  exact rfull_any h hct
theorem inl_rng {L : List Pr} {n : Int} (h : NormL 8 L) (hn : InL L n) : 0 ≤ n ∧ n < 8 := by
  obtain ⟨r, hr, h1, h2⟩ := hn
  have := h.run r hr
  omega
end Go.Proofs.Ytdcbgjbhoejpnaa
