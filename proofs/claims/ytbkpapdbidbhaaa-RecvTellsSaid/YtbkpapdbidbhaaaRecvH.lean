/-
  recv.Stream beside foreign blocks.
-/
import Derived.Test.YtbkpapdbidbhaaaRecvPut
import Derived.Test.YtbkpapdbidbhaaaRecvTake
import Derived.Test.YtbkpapdbidbhaaaRecvBrk
namespace Go.Proofs.Ytbkpapdbidbhaaa
open Go.RowKit

/-- A stream, none of whose blocks is one of F. -/
def HasSt (w : World) (F : Nat → Prop) (g : Nat) (s : RS) : Prop :=
  ∃ id v bv, StAt w g id v bv s ∧ ¬ F g ∧ (s.L ≠ [] → ∀ k, v.ownBlock = some k → ¬ F k) ∧ (∀ k, bv.ownBlock = some k → ¬ F k) ∧ ∀ k, F k → k < w.heap.size
section
variable {w w' : World} {F : Nat → Prop} {g : Nat} {s : RS}
theorem HasSt.ok (h : HasSt w F g s) : s.Ok := by obtain ⟨_, _, _, h, _⟩ := h; exact h.ok
theorem HasSt.lt (h : HasSt w F g s) : g < w.heap.size ∧ ¬ F g := by obtain ⟨_, _, _, h, h1, _⟩ := h; exact ⟨h.cell.lt, h1⟩
theorem HasSt.old (h : HasSt w F g s) : ∀ k, F k → k < w.heap.size := by obtain ⟨_, _, _, _, _, _, _, h⟩ := h; exact h
theorem HasSt.sub {F' : Nat → Prop} (h : HasSt w F g s) (hF : ∀ k, F' k → F k) : HasSt w F' g s := by
  obtain ⟨id, v, bv, h, h1, h2, h3, h4⟩ := h
  exact ⟨id, v, bv, h, fun e => h1 (hF _ e), fun hL k hk e => h2 hL k hk (hF _ e), fun k hk e => h3 k hk (hF _ e), fun k e => h4 k (hF _ e)⟩
/-- Foreign blocks turned, new ones came: these are foreign too. -/
theorem HasSt.turn (h : HasSt w F g s) (hk : Kp F w w') : HasSt w' (fun k => F k ∨ (w.heap.size ≤ k ∧ k < w'.heap.size)) g s := by
  obtain ⟨id, v, bv, h, h1, h2, h3, h4⟩ := h
  have hs := hk.size
  have hg := h.cell.lt
  refine ⟨id, v, bv, ?_, fun e => ?_, fun hL k hk' e => ?_, fun k hk' e => ?_, fun k e => ?_⟩
  · refine ⟨hk.whole h.cell h1, src_keep h.src hk h2, ownsRow_kp h.row hk h3, fun hL k hk' => ⟨Nat.lt_of_lt_of_le (h.far1 hL k hk').1 hs, (h.far1 hL k hk').2⟩, fun k hk' => ⟨Nat.lt_of_lt_of_le (h.far2 k hk').1 hs, (h.far2 k hk').2⟩, h.ok⟩
  · rcases e with e | e
    · exact h1 e
    · omega
  · rcases e with e | e
    · exact h2 hL k hk' e
    · have := (h.far1 hL k hk').1; omega
  · rcases e with e | e
    · exact h3 k hk' e
    · have := (h.far2 k hk').1; omega
  · rcases e with e | e
    · have := h4 k e; omega
    · exact e.2
theorem HasSt.no (h : HasSt w F g s) (hk : Kp (fun _ => False) w w') : HasSt w' F g s := (h.turn (hk.mono (fun _ _ e => e.elim))).sub (fun _ e => .inl e)
theorem h_new (id : Int) (w : World) (F : Nat → Prop) (hF : ∀ k, F k → k < w.heap.size) : Calls Try.prog 10 #[.int .i64 id] w fun e w' => ∃ g, e = .returned (.pointer (some ⟨g, 0, none⟩)) ∧ HasSt w' F g rs0 ∧ w.heap.size ≤ g ∧ Kp (fun _ => False) w w' := by
  refine (new_any id w).mono ?_
  rintro e w' ⟨g, rfl, h, hg, hk⟩
  exact ⟨g, rfl, ⟨id, _, _, h, fun e => by have := hF g e; omega, fun hL => absurd rfl hL, fun k hk' => (by cases hk'), fun k e => Nat.lt_of_lt_of_le (hF k e) hk.size⟩, hg, hk⟩
theorem h_put_err (h : HasSt w F g s) (off : Int) (l0 : -9223372036854775808 ≤ off) (h0 : off ≤ 9223372036854775807) (fin : Bool) (A : Option Addr) (m c : Nat) (hm : m ≤ 4611686018427387904) (er : Nat) (he : putErr s off fin m = er) (hne : er ≠ 0) :
    Calls Try.prog 13 #[.pointer (some ⟨g, 0, none⟩), .int .i64 off, .bool fin, .slice A m c] w fun e w' => e = .returned (.tuple #[.int .i64 0, .int .i64 (er : Int)]) ∧ w = w' := by
  obtain ⟨_, _, _, h, _⟩ := h
  exact put_err h off l0 h0 fin A m c hm er he hne
theorem h_put0 (h : HasSt w F g s) (hL : s.L.length < 1000000000) (o : Nat) (fin : Bool) {A : Option Addr} {m c : Nat} {p : List UInt8} (hp : Src w 1 (.slice A m c) m (encB p)) (hmc : m ≤ c) (hcm : c ≤ maxLen)
    (hown : 0 < m → ∀ k, (Value.slice A m c).ownBlock = some k → F k) (he : putErr s (o : Int) fin m = 0) :
    Calls Try.prog 13 #[.pointer (some ⟨g, 0, none⟩), .int .i64 (o : Int), .bool fin, .slice A m c] w fun e w' =>
      e = .returned (.tuple #[.int .i64 ((putS s o fin p).top - s.top : Int), .int .i64 0]) ∧ HasSt w' F g (putS s o fin p) ∧ Kp (fun k => ¬ F k) w w' := by
  obtain ⟨id, v, bv, h, h1, h2, h3, h4⟩ := h
  have hto : o + m ≤ s.told := by
    unfold putErr at he
    by_cases e1 : (o : Int) < 0 ∨ 4611686018427387903 - (m : Int) < (o : Int)
    · rw [if_pos e1] at he; cases he
    · rw [if_neg e1] at he
      by_cases e2 : (s.told : Int) < (o : Int) + (m : Int)
      · rw [if_pos e2] at he; cases he
      · omega
  refine (put_ok h o fin hp hmc hcm (fun h0 k hk => ⟨fun e => h1 (e ▸ hown h0 k hk), fun e => h3 k e (hown h0 k hk)⟩) hto he hL).mono ?_
  rintro e w' ⟨rfl, v', bv', hs, hk, hv, hb⟩
  have hpl : p.length = m := by have := hp.1; rw [encB_len] at this; omega
  refine ⟨rfl, ⟨id, v', bv', hs, h1, fun hL k hk' e => ?_, fun k hk' e => ?_, fun k e => Nat.lt_of_lt_of_le (h4 k e) hk.size⟩, hk.mono (fun k _ e1 e2 => e1.elim (fun e => h1 (e ▸ e2)) (fun e => h3 k e e2))⟩
  · rcases hv with hv | hv
    · by_cases hL0 : s.L = []
      · -- the old runs were none: the value v reads as none, the new runs are some
        have h5 := h.src.2.2
        have hpos : 0 < (putS s o fin p).L.length := by cases hq : (putS s o fin p).L with | nil => exact absurd hq hL | cons a b => simp
        obtain ⟨b, off, c', hvv, _, _⟩ := Src.wide hs.src hpos (by omega)
        rw [hL0, ← hv, hvv] at h5
        rcases h5 with ⟨h5, _⟩ | ⟨a, c', h5, _⟩
        · cases h5
        · simp only [Value.slice.injEq, List.length_nil] at h5
          omega
      · rw [hv] at hk'
        exact h2 hL0 k hk' e
    · have := hv k hk'
      have := h4 k e
      omega
  · rcases hb with hb | hb
    · rw [hb] at hk'
      exact h3 k hk' e
    · have := hb k hk'
      have := h4 k e
      omega
theorem h_put (h : HasSt w F g s) (hL : s.L.length < 1000000000) (o : Nat) (fin : Bool) {A : Option Addr} {m c : Nat} {p : List UInt8} (hp : Src w 1 (.slice A m c) m (encB p)) (hmc : m ≤ c) (hcm : c ≤ maxLen)
    (hown : ∀ k, (Value.slice A m c).ownBlock = some k → F k) (he : putErr s (o : Int) fin m = 0) :
    Calls Try.prog 13 #[.pointer (some ⟨g, 0, none⟩), .int .i64 (o : Int), .bool fin, .slice A m c] w fun e w' =>
      e = .returned (.tuple #[.int .i64 ((putS s o fin p).top - s.top : Int), .int .i64 0]) ∧ HasSt w' F g (putS s o fin p) ∧ Kp (fun k => ¬ F k) w w' := h_put0 h hL o fin hp hmc hcm (fun _ => hown) he
theorem h_take (h : HasSt w F g s) (most : Int) (l0 : -9223372036854775808 ≤ most) (h0 : most ≤ 1048576) (t : Nat) (ht : t = toN s most) :
    Calls Try.prog 14 #[.pointer (some ⟨g, 0, none⟩), .int .i64 most] w fun e w' => ∃ vr, e = .returned (.tuple #[vr, .int .i64 (overN (takeS s t) : Int), .int .i64 (codeN (takeS s t) : Int)]) ∧
      RowAt w' w.heap.size 1 vr (t - s.taken) (encB ((s.d.drop s.taken).take (t - s.taken))) ∧ HasSt w' (fun k => F k ∨ (w.heap.size ≤ k ∧ k < w'.heap.size)) g (takeS s t) ∧ Kp (fun k => ¬ F k) w w' := by
  obtain ⟨id, v, bv, h, h1, h2, h3, h4⟩ := h
  refine (take_any h most l0 h0 t ht).mono ?_
  rintro e w' ⟨vr, rfl, hr, hs, hk⟩
  have hsz := hk.size
  have hg := h.cell.lt
  refine ⟨vr, rfl, hr, ⟨id, v, bv, hs, fun e => ?_, fun hL k hk' e => ?_, fun k hk' e => ?_, fun k e => ?_⟩, hk.mono (fun k _ e1 e2 => h1 (e1 ▸ e2))⟩
  · rcases e with e | e
    · exact h1 e
    · omega
  · rcases e with e | e
    · exact h2 hL k hk' e
    · have := (h.far1 hL k hk').1; omega
  · rcases e with e | e
    · exact h3 k hk' e
    · have := (h.far2 k hk').1; omega
  · rcases e with e | e
    · have := h4 k e; omega
    · exact e.2
theorem h_brk_err (h : HasSt w F g s) (code en sure : Int) (er : Nat) (he : brkErr s code en sure = er) (hne : er ≠ 0) :
    Calls Try.prog 19 #[.pointer (some ⟨g, 0, none⟩), .int .i64 code, .int .i64 en, .int .i64 sure] w fun e w' => e = .returned (.tuple #[.int .i64 0, .int .i64 (er : Int)]) ∧ w = w' := by
  obtain ⟨_, _, _, h, _⟩ := h
  exact brk_err h code en sure er he hne
theorem brkS_L (s : RS) (code en sure : Nat) : (brkS s code en sure).L = s.L := by unfold brkS; split; rfl; split <;> rfl
theorem h_brk (h : HasSt w F g s) (code en sure : Nat) (he : brkErr s code en sure = 0) :
    Calls Try.prog 19 #[.pointer (some ⟨g, 0, none⟩), .int .i64 (code : Int), .int .i64 (en : Int), .int .i64 (sure : Int)] w fun e w' => e = .returned (.tuple #[.int .i64 ((brkS s code en sure).top - s.top : Int), .int .i64 0]) ∧ HasSt w' F g (brkS s code en sure) ∧ Kp (fun k => ¬ F k) w w' := by
  obtain ⟨id, v, bv, h, h1, h2, h3, h4⟩ := h
  refine (brk_ok h code en sure he).mono ?_
  rintro e w' ⟨rfl, hs, hk⟩
  exact ⟨rfl, ⟨id, v, bv, hs, h1, fun hL => h2 (by rw [brkS_L] at hL; exact hL), h3, fun k e => Nat.lt_of_lt_of_le (h4 k e) hk.size⟩, hk.mono (fun k _ e1 e2 => h1 (e1 ▸ e2))⟩
theorem h_over (h : HasSt w F g s) : Calls Try.prog 21 #[.pointer (some ⟨g, 0, none⟩)] w fun e w' => e = .returned (.int .i64 (overN s : Int)) ∧ Kp (fun _ => False) w w' := by obtain ⟨_, _, _, h, _⟩ := h; exact over_any h
theorem h_top (h : HasSt w F g s) : Calls Try.prog 18 #[.pointer (some ⟨g, 0, none⟩)] w fun e w' => e = .returned (.int .i64 (s.top : Int)) ∧ w = w' := by obtain ⟨_, _, _, h, _⟩ := h; exact top_any h
theorem h_rest (h : HasSt w F g s) : Calls Try.prog 15 #[.pointer (some ⟨g, 0, none⟩)] w fun e w' => e = .returned (.int .i64 ((s.top : Int) - (s.taken : Int))) ∧ Kp (fun _ => False) w w' := by obtain ⟨_, _, _, h, _⟩ := h; exact rest_any h
theorem h_ended (h : HasSt w F g s) : Calls Try.prog 22 #[.pointer (some ⟨g, 0, none⟩)] w fun e w' => e = .returned (.bool s.ended) ∧ w = w' := by obtain ⟨_, _, _, h, _⟩ := h; exact ended_any h
theorem h_count (h : HasSt w F g s) (n : Int) (hn : countL s.L = n) : Calls Try.prog 20 #[.pointer (some ⟨g, 0, none⟩)] w fun e w' => e = .returned (.int .i64 n) ∧ Kp (fun _ => False) w w' := by
  obtain ⟨_, _, _, h, _⟩ := h
  subst hn
  exact t_count h.set (h.ok.norm.up (by unfold EndS; omega)) h.few
theorem h_cells (h : HasSt w F g s) : w.cell? ⟨g, 2, none⟩ = some (.int .i64 (s.rd : Int)) ∧ w.cell? ⟨g, 3, none⟩ = some (.int .i64 (s.told : Int)) ∧ w.cell? ⟨g, 1, none⟩ = some (.int .i64 400) ∧ w.frozen? ⟨g, 3, none⟩ = false := by
  obtain ⟨_, _, _, h, _⟩ := h
  exact ⟨h.all.2.2.1, h.all.2.2.2.1, h.all.2.1, h.cell.frozen 3⟩
end
end Go.Proofs.Ytbkpapdbidbhaaa
