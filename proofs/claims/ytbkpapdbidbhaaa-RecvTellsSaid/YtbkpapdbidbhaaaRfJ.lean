/-
  argosyref7.Recv beside foreign blocks; Num; RecvTells' calls among the arguments, of small bulk.
-/
import Derived.Test.YtbkpapdbidbhaaaRfPut
import Derived.Test.YtbkpapdbidbhaaaRfBrk
import Derived.Test.YtbkpapdbidbhaaaRfTake
import Derived.Test.YtbkpapdbidbhaaaArgsB
import Derived.Test.YtbkpapdbidbhaaaTxt
namespace Go.Proofs.Ytbkpapdbidbhaaa
open Go.RowKit

/-- The reference's stream, all of whose blocks are among G; its bytes are the stream's. -/
def HasRf (w : World) (G : Nat → Prop) (r : Nat) (s : RS) : Prop :=
  ∃ v bv ov B, RfAt w r v bv s ov B ∧ G r ∧ (s.L ≠ [] → ∀ k, v.ownBlock = some k → G k) ∧ (∀ k, bv.ownBlock = some k → G k) ∧ (∀ k, G k → k < w.heap.size) ∧ (∀ j : Nat, InL s.L (j : Int) → B[j]? = s.d[j]?) ∧ B.length ≤ 225000000000000
/-- The blocks that came. -/
abbrev NewG (w w' : World) (G : Nat → Prop) (k : Nat) : Prop := G k ∨ (w.heap.size ≤ k ∧ k < w'.heap.size)
section
variable {w w' : World} {F G : Nat → Prop} {g r : Nat} {s : RS}
theorem HasRf.old (h : HasRf w G r s) : ∀ k, G k → k < w.heap.size := by obtain ⟨_, _, _, _, _, _, _, _, h, _⟩ := h; exact h
theorem HasRf.lt (h : HasRf w G r s) : r < w.heap.size ∧ G r := by obtain ⟨_, _, _, _, h, h1, _⟩ := h; exact ⟨h.cell.lt, h1⟩
theorem HasRf.kp {S : Nat → Prop} (h : HasRf w G r s) (hk : Kp S w w') (hS : ∀ k, G k → ¬ S k) : HasRf w' G r s := by
  obtain ⟨v, bv, ov, B, h, h1, h2, h3, h4, h5, h6⟩ := h
  exact ⟨v, bv, ov, B, h.kp hk (hS r h1) (fun hL k hk' => hS k (h2 hL k hk')) (fun k hk' => hS k (h3 k hk')), h1, h2, h3, fun k e => Nat.lt_of_lt_of_le (h4 k e) hk.size, h5, h6⟩
theorem HasRf.no (h : HasRf w G r s) (hk : Kp (fun _ => False) w w') : HasRf w' G r s := h.kp hk (fun _ _ h => h)
theorem HasRf.sup {G' : Nat → Prop} (h : HasRf w G r s) (hG : ∀ k, G k → G' k) (hlt : ∀ k, G' k → k < w.heap.size) : HasRf w G' r s := by
  obtain ⟨v, bv, ov, B, h, h1, h2, h3, h4, h5, h6⟩ := h
  exact ⟨v, bv, ov, B, h, hG _ h1, fun hL k hk' => hG _ (h2 hL k hk'), fun k hk' => hG _ (h3 k hk'), hlt, h5, h6⟩
theorem j_new (w : World) : Calls Try.prog 23 #[] w fun e w' => ∃ r, e = .returned (.pointer (some ⟨r, 0, none⟩)) ∧ HasRf w' (fun k => w.heap.size ≤ k ∧ k < w'.heap.size) r rs0 ∧ Kp (fun _ => False) w w' := by
  refine (q_new w).mono ?_
  rintro e w' ⟨r, rfl, h, h1, h2, hk⟩
  exact ⟨r, rfl, ⟨_, _, _, _, h, ⟨h1, h2⟩, fun hL => absurd rfl hL, fun k hk' => (by cases hk'), fun k e => e.2, fun j hj => absurd hj (inl_nil _), by simp⟩, hk⟩
theorem j_put_err (h : HasRf w G r s) (off : Int) (l0 : -9223372036854775808 ≤ off) (h0 : off ≤ 9223372036854775807) (fin : Bool) (A : Option Addr) (m c : Nat) (hm : m ≤ 4611686018427387904) (er : Nat) (he : putErr s off fin m = er) (hne : er ≠ 0) :
    Calls Try.prog 28 #[.pointer (some ⟨r, 0, none⟩), .int .i64 off, .bool fin, .slice A m c] w fun e w' => e = .returned (.tuple #[.int .i64 0, .int .i64 (er : Int)]) ∧ w = w' := by
  obtain ⟨_, _, _, _, h, _⟩ := h
  exact q_put_err h off l0 h0 fin A m c hm er he hne
theorem j_put (h : HasRf w G r s) (hok : s.Ok) (o : Nat) (fin : Bool) {A : Option Addr} {m c : Nat} {p : List UInt8} (hp : Src w 1 (.slice A m c) m (encB p))
    (hown : 0 < m → ∀ k, (Value.slice A m c).ownBlock = some k → k < w.heap.size ∧ ¬ G k) (he : putErr s (o : Int) fin m = 0) :
    Calls Try.prog 28 #[.pointer (some ⟨r, 0, none⟩), .int .i64 (o : Int), .bool fin, .slice A m c] w fun e w' =>
      e = .returned (.tuple #[.int .i64 ((putS s o fin p).top - s.top : Int), .int .i64 0]) ∧ HasRf w' (NewG w w' G) r (putS s o fin p) ∧ Kp G w w' := by
  obtain ⟨v, bv, ov, B, h, h1, h2, h3, h4, h5, h6⟩ := h
  have hto : o + m ≤ 225000000000000 := by
    have := hok.told
    unfold putErr at he
    by_cases e1 : (o : Int) < 0 ∨ 4611686018427387903 - (m : Int) < (o : Int)
    · rw [if_pos e1] at he; cases he
    · rw [if_neg e1] at he
      by_cases e2 : (s.told : Int) < (o : Int) + (m : Int)
      · rw [if_pos e2] at he; cases he
      · omega
  refine (q_put h hok h5 h6 o fin hp (fun h0 k hk => ⟨(hown h0 k hk).1, fun e => (hown h0 k hk).2 (e ▸ h1), fun e => (hown h0 k hk).2 (h3 k e)⟩) he).mono ?_
  rintro e w' ⟨rfl, v', bv', B', hr, hB, hBl, hk, hv, hb⟩
  have hs := hk.size
  refine ⟨rfl, ⟨v', bv', ov, B', hr, .inl h1, fun hL k hk' => ?_, fun k hk' => ?_, fun k e => e.elim (fun e => Nat.lt_of_lt_of_le (h4 k e) hs) (fun e => e.2), hB, by omega⟩, hk.mono (fun k _ e => e.elim (fun e => e ▸ h1) (fun e => h3 k e))⟩
  · rcases hv with rfl | hv
    · by_cases hL0 : s.L = []
      · exact .inr (by
          have h7 := h.src.2.2
          have hpos : 0 < (putS s o fin p).L.length := List.length_pos_iff.2 hL
          obtain ⟨b, off, c', hvv, _, _⟩ := Src.wide hr.src hpos (by omega)
          rw [hL0, hvv] at h7
          rcases h7 with ⟨h7, _⟩ | ⟨a, c', h7, _⟩
          · cases h7
          · simp only [Value.slice.injEq, List.length_nil] at h7
            omega)
      · exact .inl (h2 hL0 k hk')
    · exact .inr ⟨hv k hk', (hr.far1 hL k hk').1⟩
  · rcases hb with hb | hb
    · exact .inl (h3 k (hb ▸ hk'))
    · exact .inr ⟨hb k hk', (hr.far2 k hk').1⟩
theorem j_take (h : HasRf w G r s) (hok : s.Ok) (most : Nat) (h0 : most ≤ 1048576) (t : Nat) (ht : t = toN s (most : Int)) :
    Calls Try.prog 24 #[.pointer (some ⟨r, 0, none⟩), .int .i64 (most : Int)] w fun e w' => ∃ vr, e = .returned (.tuple #[vr, .int .i64 (overN (takeS s t) : Int), .int .i64 (codeN (takeS s t) : Int)]) ∧
      RowAt w' w.heap.size 1 vr (t - s.taken) (encB ((s.d.drop s.taken).take (t - s.taken))) ∧ HasRf w' G r (takeS s t) ∧ Kp G w w' := by
  obtain ⟨v, bv, ov, B, h, h1, h2, h3, h4, h5, h6⟩ := h
  refine (q_take h hok h5 most h0 t ht).mono ?_
  rintro e w' ⟨vr, rfl, hr, hs, hk⟩
  exact ⟨vr, rfl, hr, ⟨v, bv, _, B, hs, h1, h2, h3, fun k e => Nat.lt_of_lt_of_le (h4 k e) hk.size, h5, h6⟩, hk.mono (fun k _ e => e ▸ h1)⟩
theorem j_brk_err (h : HasRf w G r s) (code en sure : Int) (er : Nat) (he : brkErr s code en sure = er) (hne : er ≠ 0) :
    Calls Try.prog 26 #[.pointer (some ⟨r, 0, none⟩), .int .i64 code, .int .i64 en, .int .i64 sure] w fun e w' => e = .returned (.tuple #[.int .i64 0, .int .i64 (er : Int)]) ∧ w = w' := by
  obtain ⟨_, _, _, _, h, _⟩ := h
  exact q_brk_err h code en sure er he hne
theorem j_brk (h : HasRf w G r s) (hok : s.Ok) (code en sure : Nat) (he : brkErr s code en sure = 0) :
    Calls Try.prog 26 #[.pointer (some ⟨r, 0, none⟩), .int .i64 (code : Int), .int .i64 (en : Int), .int .i64 (sure : Int)] w fun e w' => e = .returned (.tuple #[.int .i64 ((brkS s code en sure).top - s.top : Int), .int .i64 0]) ∧ HasRf w' G r (brkS s code en sure) ∧ Kp G w w' := by
  obtain ⟨v, bv, ov, B, h, h1, h2, h3, h4, h5, h6⟩ := h
  refine (q_brk h hok code en sure he).mono ?_
  rintro e w' ⟨rfl, hs, hk⟩
  have hd : (brkS s code en sure).d = s.d := by unfold brkS; split; rfl; split <;> rfl
  exact ⟨rfl, ⟨v, bv, _, B, hs, h1, fun hL => h2 (by rw [brkS_L] at hL; exact hL), h3, fun k e => Nat.lt_of_lt_of_le (h4 k e) hk.size, fun j hj => by rw [hd]; rw [brkS_L] at hj; exact h5 j hj, h6⟩, hk.mono (fun k _ e => e ▸ h1)⟩
theorem j_tell (h : HasRf w G r s) (hok : s.Ok) (t : Nat) (ht : t = max s.told (s.rd + 400)) :
    Calls Try.prog 25 #[.pointer (some ⟨r, 1, none⟩)] w fun e w' => e = .returned (.int .i64 (t : Int)) ∧ HasRf w' G r { s with told := t } ∧ Kp G w w' := by
  obtain ⟨v, bv, ov, B, h, h1, h2, h3, h4, h5, h6⟩ := h
  have hr := hok.rd
  have hr2 := hok.taken
  have hr3 := hok.dl
  have hr4 := hok.told
  have e1 : tellF 400 (s.rd : Int) (s.told : Int) = (t : Int) := by unfold tellF; omega
  have hT := q_tell (w := w) (b := r) (o := 1) (M := 400) (R := (s.rd : Int)) (T := (s.told : Int)) h.all.2.1 h.all.2.2.1 h.all.2.2.2.1 (h.cell.frozen 3) (by omega) (by omega) (by omega) (by omega) (by omega) (by omega)
  rw [e1] at hT
  refine hT.mono ?_
  rintro e w' ⟨rfl, dd, rfl⟩
  have h7 := h.put 3 (.int .i64 (t : Int)) (s' := { s with told := t }) (ov' := ov) rfl rfl
  have hk : Kp (fun k => k = r) w ((w.setCell ⟨r, 1 + 2, none⟩ (.int .i64 (t : Int))).drewN dd) := Kp.drewN h7.2 dd
  exact ⟨rfl, ⟨v, bv, ov, B, h7.1.no ((Kp.refl (fun _ => False) _).drewN dd), h1, h2, h3, fun k e => Nat.lt_of_lt_of_le (h4 k e) hk.size, h5, h6⟩, hk.mono (fun k _ e => e ▸ h1)⟩
theorem j_has (h : HasRf w G r s) (hok : s.Ok) (n : Int) : Calls Try.prog 32 #[.pointer (some ⟨r, 0, none⟩), .int .i64 n] w fun e w' => e = .returned (.bool (s.L.any (hasP n))) ∧ w = w' := by
  obtain ⟨_, _, _, _, h, _⟩ := h
  exact q_has h.inn (by have := hok.lf; omega) n
theorem j_count (h : HasRf w G r s) (hok : s.Ok) : Calls Try.prog 30 #[.pointer (some ⟨r, 0, none⟩)] w fun e w' => e = .returned (.int .i64 (countL s.L)) ∧ Kp (fun _ => False) w w' := by
  obtain ⟨_, _, _, _, h, _⟩ := h
  exact q_count h.inn hok.norm (by have := hok.lf; omega)
theorem j_cells (h : HasRf w G r s) : w.cell? ⟨r, 2, none⟩ = some (.int .i64 (s.rd : Int)) ∧ w.cell? ⟨r, 3, none⟩ = some (.int .i64 (s.told : Int)) ∧ w.cell? ⟨r, 5, none⟩ = some (.int .i64 (s.top : Int)) ∧ w.cell? ⟨r, 6, none⟩ = some (.int .i64 (endI s)) ∧ w.cell? ⟨r, 10, none⟩ = some (.int .i64 (s.taken : Int)) := by
  obtain ⟨_, _, _, _, h, _⟩ := h
  exact ⟨h.all.2.2.1, h.all.2.2.2.1, h.all.2.2.2.2.2.1, h.all.2.2.2.2.2.2.1, h.all.2.2.2.2.2.2.2.2.2.2.1⟩
theorem h_has (h : HasSt w F g s) (n : Int) : Calls Try.prog 31 #[.pointer (some ⟨g, 0, none⟩), .int .i64 n] w fun e w' => e = .returned (.bool (s.L.any (hasP n))) ∧ Kp (fun _ => False) w w' := by
  obtain ⟨_, _, _, h, _⟩ := h
  exact t_has h.set h.few n
end

def numF (n : Int) : Int := if pickF n 9 = 0 then 64 + (pickF (n.tdiv 9) 3 - 1) else if pickF n 9 = 1 then 16384 + (pickF (n.tdiv 9) 3 - 1) else if pickF n 9 = 2 then 1073741824 + (pickF (n.tdiv 9) 3 - 1) else if pickF n 9 = 3 then 4611686018427387903 + (pickF (n.tdiv 9) 3 - 1) else if pickF n 9 = 4 then n else pickF (n.tdiv 9) 500
theorem numF_in (n : Int) (l : -9223372036854775808 ≤ n) (h : n ≤ 9223372036854775807) : -9223372036854775808 ≤ numF n ∧ numF n ≤ 9223372036854775807 := by
  have p0 := pickF_lo (n.tdiv 9) 3 (by omega)
  have p0' := pickF_hi (n.tdiv 9) 3 (by omega)
  have p2 := pickF_lo (n.tdiv 9) 500 (by omega)
  have p2' := pickF_hi (n.tdiv 9) 500 (by omega)
  unfold numF
  repeat' split
  all_goals omega
set_option maxHeartbeats 2000000 in
set_option maxRecDepth 100000 in
theorem num_fix (n : Int) (_l : -9223372036854775808 ≤ n) (_h : n ≤ 9223372036854775807) (w : World) : Calls Try.prog 27 #[.int .i64 n] w fun e w' => e = .returned (.int .i64 (numF n)) ∧ w = w' := by
  have p0 := pickF_lo (n.tdiv 9) 3 (by omega)
  have p0' := pickF_hi (n.tdiv 9) 3 (by omega)
  have p1 := pickF_lo n 9 (by omega)
  have p1' := pickF_hi n 9 (by omega)
  have p2 := pickF_lo (n.tdiv 9) 500 (by omega)
  have p2' := pickF_hi (n.tdiv 9) 500 (by omega)
  have HP1 := Lib.hid (fun w => pick_any (n.tdiv 9) 3 w (by omega) (by omega))
  have HP2 := Lib.hid (fun w => pick_any n 9 w (by omega) (by omega))
  have HP3 := Lib.hid (fun w => pick_any (n.tdiv 9) 500 w (by omega) (by omega))
  obtain ⟨m, hm⟩ : ∃ m, m = numF n := ⟨_, rfl⟩
  rw [← hm]
  unfold numF at hm
  generalize pickF (n.tdiv 9) 3 = k at *
  generalize pickF n 9 = c at *
  generalize pickF (n.tdiv 9) 500 = z at *
  have hc : c = 0 ∨ c = 1 ∨ c = 2 ∨ c = 3 ∨ c = 4 ∨ (c ≠ 0 ∧ c ≠ 1 ∧ c ≠ 2 ∧ c ≠ 3 ∧ c ≠ 4) := by omega
  rcases hc with rfl | rfl | rfl | rfl | rfl | ⟨c0, c1, c2, c3, c4⟩
  · simp only [if_true] at hm
    subst hm
    go_enter Try.func27, Try.ntmps27
    go_wp2_with (first | (with_reducible refine (HP1.out _).mono ?_; rintro e w' ⟨rfl, rfl⟩) | (with_reducible refine (HP2.out _).mono ?_; rintro e w' ⟨rfl, rfl⟩))
    go_ret
    exact ⟨rfl, rfl⟩
  · rw [if_neg (by omega), if_pos rfl] at hm
    subst hm
    go_enter Try.func27, Try.ntmps27
    go_wp2_with (first | (with_reducible refine (HP1.out _).mono ?_; rintro e w' ⟨rfl, rfl⟩) | (with_reducible refine (HP2.out _).mono ?_; rintro e w' ⟨rfl, rfl⟩))
    go_ret
    exact ⟨rfl, rfl⟩
  · rw [if_neg (by omega), if_neg (by omega), if_pos rfl] at hm
    subst hm
    go_enter Try.func27, Try.ntmps27
    go_wp2_with (first | (with_reducible refine (HP1.out _).mono ?_; rintro e w' ⟨rfl, rfl⟩) | (with_reducible refine (HP2.out _).mono ?_; rintro e w' ⟨rfl, rfl⟩))
    go_ret
    exact ⟨rfl, rfl⟩
  · rw [if_neg (by omega), if_neg (by omega), if_neg (by omega), if_pos rfl] at hm
    subst hm
    go_enter Try.func27, Try.ntmps27
    go_wp2_with (first | (with_reducible refine (HP1.out _).mono ?_; rintro e w' ⟨rfl, rfl⟩) | (with_reducible refine (HP2.out _).mono ?_; rintro e w' ⟨rfl, rfl⟩))
    go_ret
    exact ⟨rfl, rfl⟩
  · rw [if_neg (by omega), if_neg (by omega), if_neg (by omega), if_neg (by omega), if_pos rfl] at hm
    subst hm
    go_enter Try.func27, Try.ntmps27
    go_wp2_with (first | (with_reducible refine (HP1.out _).mono ?_; rintro e w' ⟨rfl, rfl⟩) | (with_reducible refine (HP2.out _).mono ?_; rintro e w' ⟨rfl, rfl⟩))
    go_ret
    exact ⟨rfl, rfl⟩
  · rw [if_neg c0, if_neg c1, if_neg c2, if_neg c3, if_neg c4] at hm
    subst hm
    have d0 : (c == 0) = false := by simp; omega
    have d1 : (c == 1) = false := by simp; omega
    have d2 : (c == 2) = false := by simp; omega
    have d3 : (c == 3) = false := by simp; omega
    have d4 : (c == 4) = false := by simp; omega
    go_enter Try.func27, Try.ntmps27
    go_wp2_with (first | (with_reducible refine (HP1.out _).mono ?_; rintro e w' ⟨rfl, rfl⟩) | (with_reducible refine (HP2.out _).mono ?_; rintro e w' ⟨rfl, rfl⟩) | (with_reducible refine (HP3.out _).mono ?_; rintro e w' ⟨rfl, rfl⟩))
    go_ret
    exact ⟨rfl, rfl⟩

/-- A slice of bytes among the arguments, of small bulk. -/
def RdByB (w : World) (v : Value) : Prop := ∃ A d cap, v = .slice A d.length cap ∧ Bs w v d ∧ d.length ≤ cap ∧ cap ≤ maxLen ∧ d.length ≤ 1048576 ∧ (0 < d.length → ∃ b off, A = some ⟨b, off, none⟩ ∧ b < w.heap.size)
theorem byB_of_rd {w : World} {A : Option Addr} {len cap : Nat} (h : RdSlB w [RdU8] (.slice A len cap)) (hA : A = none → cap = 0) : RdByB w (.slice A len cap) := by
  obtain ⟨A', len', cap', hv, hlc, hcm, hr, hc⟩ := h
  cases hv
  rcases hc with rfl | ⟨b, off, rfl, hb, hcell⟩
  · refine ⟨A, [], cap, rfl, ?_, hlc, hcm, by simp, fun h => by simp at h⟩
    cases A with
    | none => rw [hA rfl]; exact Bs.nil _
    | some a => exact ⟨rfl, encB_one _, .inr ⟨a, cap, rfl, fun j u hj => by simp [encB] at hj⟩⟩
  · have hex : ∀ i, ∃ c : UInt8, i < len → w.cell? ⟨b, off + i, none⟩ = some (.int .u8 (c.toNat : Int)) := fun i => by
      by_cases hi : i < len
      · obtain ⟨u, hu, x, rfl, x0, x1⟩ := hcell i hi 0 RdU8 rfl
        refine ⟨UInt8.ofNat x.toNat, fun _ => ?_⟩
        rw [UInt8.toNat_ofNat', Nat.mod_eq_of_lt (by omega), Int.toNat_of_nonneg x0]
        simpa using hu
      · exact ⟨0, fun h => absurd h hi⟩
    have hdl : ((List.range len).map (fun i => (hex i).choose)).length = len := by simp
    refine ⟨some ⟨b, off, none⟩, (List.range len).map (fun i => (hex i).choose), cap, by rw [hdl], ⟨by rw [encB_len, Nat.mul_one], encB_one _, .inr ⟨⟨b, off, none⟩, cap, by rw [hdl], fun j u hj => ?_⟩⟩, by rw [hdl]; exact hlc, hcm, by rw [hdl]; omega, (fun _ => ⟨b, off, rfl, hb⟩)⟩
    have hjl : j < len := by
      have := (List.getElem?_eq_some_iff.1 hj).1
      rw [encB_len, hdl] at this
      exact this
    rw [Addr.add_lit, (hex j).choose_spec hjl, ← hj]
    simp [encB, hjl]
section
open Go.ChangeShapes Go.WideShapes Go.ChangeAt Go.Deep
theorem fieldB_By {H : Type} {enc : TypeId × Value → H} {P : Program} {w : World} {base : Nat} {spare : Nat → Bool} {held : Bool} {t e : TypeId} (ht : P.underlying t = some (.slice e)) (hc : P.cellsOf e = 1) (he : P.underlying e = some (.int .u8)) :
    FieldBd enc P w base spare held t (RdByB w) := by
  intro n u y h hwt
  have hrd := fieldB_Sl1 ht hc (fieldB_U8 he) n u y h hwt
  rcases open_slice1 ht hc h with ⟨hu, _⟩ | ⟨a, len, cap, m, n', V, D, Pl, hu, _⟩
  · simp only [List.cons.injEq, and_true] at hu
    subst hu
    exact byB_of_rd hrd (fun _ => rfl)
  · simp only [List.cons.injEq, and_true] at hu
    subst hu
    exact byB_of_rd hrd (fun h => by cases h)
end
theorem raw14B_rd {W : World} {v : Value} (h : SlArgB 23 W v) : RdSlB W [RdI, RdI, RdI, RdI, RdB, RdByB W] v := by
  refine h.rd Try.underlying23 fun H enc => fieldB_SlS Try.underlying23 Try.underlying31 (by kernel_rfl) (by kernel_rfl) (by decide) rfl ?_
  intro j f q hf hq
  match j with
  | 0 => simp at hf hq; subst hf hq; exact fieldB_I Try.underlying3
  | 1 => simp at hf hq; subst hf hq; exact fieldB_I Try.underlying3
  | 2 => simp at hf hq; subst hf hq; exact fieldB_I Try.underlying3
  | 3 => simp at hf hq; subst hf hq; exact fieldB_I Try.underlying3
  | 4 => simp at hf hq; subst hf hq; exact fieldB_B Try.underlying4
  | 5 => simp at hf hq; subst hf hq; exact fieldB_By Try.underlying22 (by kernel_rfl) Try.underlying5
  | j + 6 => simp at hf
end Go.Proofs.Ytbkpapdbidbhaaa
