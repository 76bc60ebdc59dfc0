/-
  frags: Put.
-/
import Derived.Test.YtdcbgjbhoejpnaaFrag2
import Derived.Laws.CopyOwn
namespace Go.Proofs.Ytdcbgjbhoejpnaa
open Go.RowKit

/-- copy into a block that is known whole: nothing else turns. -/
theorem wpList_copy_at {P : Program} {w : World} {ops : Array Oper} {rest : List Oper} {o : Oper} {a : Act} {Q : Exit → Act → World → Prop} (hgd : o.guard = none) (d s : Operand) (dT sT : TypeId)
    (ho : o.op = .call { callee := .builtin .copy, args := #[d, s], argTypes := #[dT, sT] }) (elem : TypeId) (hu : P.underlying dT = some (.slice elem)) (hsz : (P.info? elem).map (·.size) = some 1)
    (g off dLen dCap : Nat) (ad : Addr) (sLen sCap : Nat) (hd : a.eval d = .slice (some ⟨g, off, none⟩) dLen dCap) (hs : a.eval s = .slice (some ad) sLen sCap)
    (cur : List Value) (t : TypeId) (hg : Whole w g t cur.toArray) (cs : List Value) (hn : cs.length = Nat.min sLen dLen)
    (hsrc : ∀ j v, cs[j]? = some v → w.cell? (ad.add j) = some v) (hfit : off + cs.length ≤ cur.length) (h1 : ∀ v ∈ cs, v.oneCell' = true)
    (h : ∀ w', Hid (Whole w' g t (splice cur off cs).toArray) → Hid (Kp (fun k => k = g) w w') → wpList P ops Q rest (a.put o.dst (goInt cs.length)) w') : wpList P ops Q (o :: rest) a w := by
  refine wpList_copy_own hgd d s dT sT ho elem hu hsz g off dLen dCap ad sLen sCap hd hs cur.toArray t hg cs hn hsrc (by simpa using hfit) h1 ?_
  refine h _ (Lib.hid ?_) (Lib.hid ⟨rfl, rfl, rfl, by simp [World.setRow], fun k hk hne => setRow_other w g k _ hne⟩)
  exact setRow_heap w g _ _ t _ hg

def putD (d : List UInt8) (off : Nat) (p : List UInt8) : List UInt8 := d.take off ++ (p ++ d.drop (off + p.length))
theorem putD_len {d : List UInt8} {off : Nat} {p : List UInt8} (h : off + p.length ≤ d.length) : (putD d off p).length = d.length := by simp [putD]; omega
theorem putD_enc (d : List UInt8) (off : Nat) (p : List UInt8) : splice (encB d) off (encB p) = encB (putD d off p) := by
  simp [splice, putD, encB, List.map_append, List.map_take, List.map_drop]
theorem infoB1 : (Try.prog.info? 5).map (·.size) = some 1 := by kernel_rfl
theorem in_one {L : List Pr} (h : NormL 8 L) {k : Nat} (hk : k < 8) : NormL 8 (addS L (k : Int) ((k : Int) + 1)) ∧ ∀ n, InL (addS L (k : Int) ((k : Int) + 1)) n ↔ InL L n ∨ n = k := by
  obtain ⟨g1, g2⟩ := addS_in h (by unfold EndS; omega) (f := (k : Int)) (t := ((k : Int) + 1)) (by omega) (by omega) (by omega) (by omega)
  exact ⟨g1, fun n => by rw [g2]; constructor <;> (rintro (h | h); exact .inl h; exact .inr (by omega))⟩

set_option maxRecDepth 100000 in
set_option maxHeartbeats 4000000 in
theorem put_yes {w : World} {g gb : Nat} {id dl ct : Int} {n : Nat} {v : Value} {L : List Pr} {d : List UInt8} (h : FrAt w g gb id dl ct n v L d) (k : Nat) (hk : (k : Int) < ct) {A : Option Addr} {m c : Nat} {p : List UInt8} (hp : Src w 1 (.slice A m c) m (encB p)) (hm : (m : Int) = min 80 ((n : Int) - 80 * k)) (hab : A ≠ none) :
    Calls Try.prog 28 #[.pointer (some ⟨g, 0, none⟩), .agg #[.int .i64 id, .int .i64 dl, .int .i64 ct, .int .i64 (k : Int), .int .i64 (n : Int)], .slice A m c] w fun e w' => e = .returned (.bool true) ∧
      ∃ v' L', FrAt w' g gb id dl ct n v' L' (if L.any (hasP (k : Int)) = true then d else putD d (k * 80) p) ∧ (∀ j, InL L' j ↔ InL L j ∨ j = k) ∧ (v' = v ∨ ∀ j, v'.ownBlock = some j → w.heap.size ≤ j) ∧ Kp (fun j => j = g ∨ j = gb) w w' := by
  obtain ⟨dd, hdd⟩ : ∃ dd, dd = (if L.any (hasP (k : Int)) = true then d else putD d (k * 80) p) := ⟨_, rfl⟩
  rw [← hdd]
  have Hdd := Lib.hid hdd
  clear hdd
  have hr := rightB_iff.1 h.right
  have hL := h.norm.few (by omega)
  have hn : n ≤ 600 := by omega
  have hct := cnt_hi (sz := (n : Int)) (by omega)
  have hctv : ct = ((n : Int) + 79) / 80 := hr.2.2.2.2.2.2.1
  have hk8 : k < 8 := by omega
  have hkn : 80 * k < n := by omega
  have hm1 : 1 ≤ m := by omega
  have hmn : 80 * k + m ≤ n := by omega
  have hm80 : m ≤ 80 := by omega
  have hpl : p.length = m := by have := hp.1; simpa [encB] using this
  have hw : Whole (w.alloc (.cells #[.int .i64 id, .int .i64 dl, .int .i64 ct, .int .i64 (k : Int), .int .i64 (n : Int)] 49)) w.heap.size 49 #[.int .i64 id, .int .i64 dl, .int .i64 ct, .int .i64 (k : Int), .int .i64 (n : Int)] := Whole.new _ _ _
  have hka : Kp (fun _ => False) w (w.alloc (.cells #[.int .i64 id, .int .i64 dl, .int .i64 ct, .int .i64 (k : Int), .int .i64 (n : Int)] 49)) := (Kp.refl _ w).alloc _
  have hfr := h.no hka
  have hp2 := hka.src hp (fun _ _ h => h)
  have hgw := h.cell.lt
  have hgbw := h.body.lt
  have hpw : ∀ k, (Value.slice A m c).ownBlock = some k → k < w.heap.size := fun k hk => by
    obtain ⟨b', off', c', hv, hb', _⟩ := Src.wide hp (by omega) (by omega)
    cases hv
    cases hk
    exact hb'
  have hneq := fun w => neq_hd w id dl ct 0 (n : Int) id dl ct 0 (n : Int)
  rw [show hdB id dl ct 0 (n : Int) id dl ct 0 (n : Int) = true by simp [hdB]] at hneq
  simp only [Bool.not_true] at hneq
  have Hneq := Lib.hid hneq
  have Hfr := Lib.hid hfr
  have Hp := Lib.hid hp2
  have Hka := Lib.hid hka
  have Hw := Lib.hid hw
  have Hpw := Lib.hid hpw
  have Hpl := Lib.hid hpl
  have Hnorm := Lib.hid h.norm
  have Hlen := Lib.hid h.len
  have Hright := Lib.hid h.right
  have Hne := Lib.hid h.ne
  have Hfar := Lib.hid h.far
  have Hvlt : Hid (∀ j, v.ownBlock = some j → L.length = 0 ∨ j < w.heap.size) := Lib.hid (fun j hj => by
    by_cases h0 : L.length = 0
    · exact .inl h0
    · obtain ⟨b', off', c', hv, hb', _⟩ := Src.wide h.src (by omega) (by omega)
      rw [hv] at hj
      cases hj
      exact .inr hb')
  have hm2 : (m = 80 ∧ 80 * k + 80 ≤ n) ∨ (m + 80 * k = n ∧ m < 80) := by omega
  clear h hp hka hw hfr hp2 hpw hneq hr hpl hctv hm
  go_enter Try.func28, Try.ntmps28
  go_upto_region 1 with (fail)
  generalize w.alloc (.cells #[.int .i64 id, .int .i64 dl, .int .i64 ct, .int .i64 (k : Int), .int .i64 (n : Int)] 49) = w1 at *
  have hbx : w.heap.size ≠ g ∧ w.heap.size ≠ gb := by omega
  obtain ⟨bx, hbxx⟩ : ∃ b, b = w.heap.size := ⟨_, rfl⟩
  rw [← hbxx] at hbx Hw
  rw [← hbxx]
  have hbxw : w.heap.size ≤ bx := by omega
  clear hbxx
  have hl1 := Hw.out.lt
  have c3 := Hw.out.cell 3
  have f3 := Hw.out.frozen 3
  simp at c3
  have hw4 := Hw.out.set 3 (.int .i64 0)
  have hk4 := Hka.out.set (p := ⟨bx, 3, none⟩) (.inr hbxw) (.int .i64 0)
  have hkx : Kp (fun j => j = bx) w1 (w1.setCell ⟨bx, 3, none⟩ (.int .i64 0)) := Kp.set (S := fun j => j = bx) (Kp.refl _ w1) (p := ⟨bx, 3, none⟩) (.inl rfl) _
  have hfr4 : FrAt (w1.setCell ⟨bx, 3, none⟩ (.int .i64 0)) g gb id dl ct n v L d := by
    refine ⟨hkx.whole Hfr.out.cell (fun e => hbx.1 e.symm), ?_, Hnorm.out, hkx.whole Hfr.out.body (fun e => hbx.2 e.symm), Hlen.out, Hright.out, Hne.out, Hfar.out⟩
    by_cases h0 : L.length = 0
    · obtain rfl := List.eq_nil_of_length_eq_zero h0
      exact ⟨Hfr.out.src.1, Hfr.out.src.2.1, Hfr.out.src.2.2.imp (fun h => h) (fun ⟨a, c, h1, _⟩ => ⟨a, c, h1, fun j u hj => by simp [encs] at hj⟩)⟩
    · exact hkx.src Hfr.out.src (fun j hj e => by rcases Hvlt.out j hj with h | h <;> omega)
  have hp4 := hkx.src Hp.out (fun j hj e => by have := Hpw.out j hj; omega)
  go_upto_region 4 with (fail)
  generalize w1.setCell ⟨bx, 3, none⟩ (.int .i64 0) = w4 at *
  have b0 := hw4.cell 0
  have b1 := hw4.cell 1
  have b2 := hw4.cell 2
  have b3 := hw4.cell 3
  have b4 := hw4.cell 4
  simp at b0 b1 b2 b3 b4
  have hbl4 := hw4.lt
  have g1 := hfr4.c 1 _ (frC_get v id dl ct n gb).2.1
  have g2 := hfr4.c 2 _ (frC_get v id dl ct n gb).2.2.1
  have g3 := hfr4.c 3 _ (frC_get v id dl ct n gb).2.2.2.1
  have g4 := hfr4.c 4 _ (frC_get v id dl ct n gb).2.2.2.2.1
  have g5 := hfr4.c 5 _ (frC_get v id dl ct n gb).2.2.2.2.2.1
  have hgl4 := hfr4.cell.lt
  have Hfr4 := Lib.hid hfr4
  have Hp4 := Lib.hid hp4
  have Hk4 := Lib.hid hk4
  clear hfr4 hp4 hk4 hkx hw4 c3 f3 Hfr Hp Hka Hw
  have hneq4 := Hneq.out
  have t1 : decide ((k : Int) < 0) = false := by simp
  have t2 : decide (ct ≤ (k : Int)) = false := by simp; omega
  have t3 : IntKind.i64.wrap ((n : Int) - (k : Int) * 80) = (n : Int) - (k : Int) * 80 := IntWalk.i64_in _ (by omega)
  go_cut [39] (fun v39 wx => v39 = .bool false ∧ ∃ q, wx = w4.drewN q)
  case first =>
    rcases hm2 with ⟨m1, m2⟩ | ⟨m1, m2⟩
    · have t4 : ((m : Int) != 80) = false := by simp; omega
      have t5 : (80 : Int) ≤ (n : Int) - (k : Int) * 80 := by omega
      have t6 : ¬ (n : Int) - (k : Int) * 80 < 80 := by omega
      clear m1
      go_quiet (fail)
      all_goals
        go_wp2_with fail
        go_meet
        case rel => exact ⟨rfl, _, rfl⟩
    · have t4 : ((m : Int) != (n : Int) - (k : Int) * 80) = false := by simp; omega
      have t5 : (n : Int) - (k : Int) * 80 < 80 := by omega
      have t6 : ¬ 80 ≤ (n : Int) - (k : Int) * 80 := by omega
      clear m1
      go_quiet (fail)
      all_goals
        go_wp2_with fail
        go_meet
        case rel => exact ⟨rfl, _, rfl⟩
  case rest =>
  obtain ⟨rfl, q, rfl⟩ := hcut
  have hkq : Kp (fun _ => False) w4 (w4.drewN q) := (Kp.refl _ w4).drewN q
  have Hfr5 := Lib.hid (Hfr4.out.no hkq)
  have Hp5 := Lib.hid (hkq.src Hp4.out (fun _ _ h => h))
  have Hk5 := Lib.hid (Hk4.out.trans hkq)
  clear hm2 hkq Hfr4 Hp4 Hk4 b0 b1 b2 b3 b4 g1 g2 g3 g4 g5 hneq4 Hneq hbl4 hgl4 t1 t2 t3 hl1
  generalize w4.drewN q = w5 at *
  have hL8 : L.length ≤ 8 := by omega
  have hh := t_has Hfr5.out.set (by omega) (k : Int)
  have hkcast : ((k : Int) * 80).toNat = k * 80 := by omega
  cases hany : L.any (hasP (k : Int)) with
  | true =>
    have hin := (has_iff L (k : Int)).1 hany
    rw [hany] at hh
    rw [hany, if_pos rfl] at Hdd
    have Hh := Lib.hid hh
    have Hin := Lib.hid hin
    clear hh hany hin hkcast
    go_wp2_with fail
    with_reducible refine (Hh.out).mono ?_
    rintro e w6 ⟨rfl, hk6⟩
    have Hfr6 := Lib.hid (Hfr5.out.no hk6)
    have Hk6 := Lib.hid (Hk5.out.trans hk6)
    clear hk6 Hfr5 Hk5 Hp5
    go_wp2_with fail
    go_ret
    exact ⟨rfl, v, L, by rw [Hdd.out]; exact Hfr6.out, fun j => ⟨.inl, fun h => h.elim (fun h => h) (fun h => by rw [h]; exact Hin.out)⟩, .inl rfl, Hk6.out.no⟩
  | false =>
    rw [hany] at hh
    rw [hany, if_neg (by simp)] at Hdd
    have Hh := Lib.hid hh
    clear hh hany
    go_wp2_with fail
    with_reducible refine (Hh.out).mono ?_
    rintro e w6 ⟨rfl, hk6⟩
    have hfr6 := Hfr5.out.no hk6
    have hp6 := hk6.src Hp5.out (fun _ _ h => h)
    have hk6' := Hk5.out.trans hk6
    clear hk6 Hfr5 Hk5 Hp5 Hh
    obtain ⟨pb, poff, pc, hpv, hpb, hpc⟩ := Src.wide hp6 (by omega) (by omega)
    cases hpv
    have g6 := hfr6.c 6 _ (frC_get v id dl ct n gb).2.2.2.2.2.2
    have hgl := hfr6.cell.lt
    have Hfr6 := Lib.hid hfr6
    have Hpc := Lib.hid hpc
    have Hk6 := Lib.hid hk6'
    clear hfr6 hp6 hk6' hpc
    have hnk : ¬ n = k * 80 := by omega
    have hb0 : (0 : Int) ≤ (k : Int) * 80 := by omega
    have hb1 : (k : Int) * 80 ≤ (n : Int) := by omega
    go_wp2_with (with_reducible refine wpList_copy_at rfl (.tmp 51) (.tmp 52) 54 54 rfl 5 Try.underlying54 infoB1 gb (k * 80) (n - k * 80) (n - k * 80) ⟨pb, poff, none⟩ m c ?_ rfl (encB d) 5 Hfr6.out.body (encB p) ?_ ?_ ?_ (encB_one _) ?_)
    · first | rfl | (simp [Act.eval]; done)
    · rw [encB_len, Hpl.out]
      exact (Nat.min_eq_left (by omega)).symm
    · intro j u hj
      rw [Addr.add_lit]
      exact Hpc.out j u hj
    · rw [encB_len, encB_len, Hpl.out, Hlen.out]
      omega
    · intro w7 Hbody Hk7
      rw [putD_enc] at Hbody
      have hfr7 : FrAt w7 g gb id dl ct n v L (putD d (k * 80) p) := by
        refine ⟨Hk7.out.whole Hfr6.out.cell Hne.out, Hk7.out.src Hfr6.out.src (fun j hj e => (Hfar.out j hj).2 e), Hnorm.out, Hbody.out, ?_, Hright.out, Hne.out, Hfar.out⟩
        rw [putD_len (by rw [Hpl.out, Hlen.out]; omega)]
        exact Hlen.out
      have hadd := t_add hfr7.set (by omega) (k : Int) ((k : Int) + 1)
      have Hadd := Lib.hid hadd
      have Hfr7 := Lib.hid hfr7
      have hsz7 := Hk7.out.size
      have hsz6 := Hk6.out.size
      clear hadd hfr7 Hbody Hfr6
      go_wp2_with fail
      with_reducible refine (Hadd.out).mono ?_
      rintro e w8 ⟨rfl, v8, hset8, hk8', hv8⟩
      obtain ⟨n8, i8⟩ := in_one Hnorm.out hk8
      have hfr8 : FrAt w8 g gb id dl ct n v8 (addS L (k : Int) ((k : Int) + 1)) dd := by
        rw [Hdd.out]
        refine ⟨hset8.cell, hset8.src, n8, hk8'.whole Hfr7.out.body (fun e => Hne.out e.symm), Hfr7.out.len, Hright.out, Hne.out, fun j hj => ?_⟩
        rcases hv8 with rfl | hv8
        · exact Hfar.out j hj
        · have := hv8 j hj
          omega
      have Hfresh := Lib.hid (hv8.imp (fun h => h) (fun h j hj => show w.heap.size ≤ j by have := h j hj; omega))
      have Hfr8 := Lib.hid hfr8
      have I8 := Lib.hid i8
      have Hk8 := Lib.hid ((Hk6.out.no.trans (Hk7.out.mono (S' := fun j => j = g ∨ j = gb) (fun j _ e => .inr e))).trans (hk8'.mono (S' := fun j => j = g ∨ j = gb) (fun j _ e => .inl e)))
      clear hfr8 i8 n8 hset8 hk8' hv8 Hfr7 Hk6 Hk7 Hadd
      go_wp2_with fail
      go_ret
      exact ⟨rfl, v8, _, Hfr8.out, I8.out, Hfresh.out, Hk8.out⟩
end Go.Proofs.Ytdcbgjbhoejpnaa
