/-
  head: pieces, Right, Of, bounds.
-/
import Derived.Test.YtdcbgjbhoejpnaaRow4
import Derived.Test.YtdcbgjbhoejpnaaPick
import Derived.Lib.SliceRun
import Derived.Deep.CutBlock
import Derived.Deep.QuietTactic
import Derived.BigQuiet
import Derived.ChangeKeysEq
import Derived.Laws.StructEq
namespace Go.Proofs.Ytdcbgjbhoejpnaa
open Go.RowKit

def cntH (sz : Int) : Int := (sz + 79) / 80
theorem cnt_lo {sz : Int} (h1 : 1 ≤ sz) : 1 ≤ cntH sz := by unfold cntH; omega
theorem cnt_hi {sz : Int} (h2 : sz ≤ 600) : cntH sz ≤ 8 := by unfold cntH; omega
theorem pieces_any (sz : Int) (w : World) (h1 : 0 ≤ sz) (h2 : sz ≤ 100000) :
    Calls Try.prog 46 #[.int .i64 sz] w fun e w' => e = .returned (.int .i64 (cntH sz)) ∧ w = w' := by
  go_enter Try.func46, Try.ntmps46
  go_wp2
  go_ret
  refine ⟨?_, rfl⟩
  unfold cntH
  rw [show sz + 80 - 1 = sz + 79 by omega]
  rfl

def MostH : Int := 4611686018427387903
/-- A head that may be. -/
def rightB (id dl ct ix sz : Int) : Bool := decide (0 ≤ id ∧ id < 40 ∧ 0 ≤ dl ∧ dl ≤ MostH ∧ 1 ≤ sz ∧ sz ≤ 600 ∧ ct = cntH sz ∧ 0 ≤ ix ∧ ix < ct)
abbrev hdV (id dl ct ix sz : Int) : Value := .agg #[.int .i64 id, .int .i64 dl, .int .i64 ct, .int .i64 ix, .int .i64 sz]

set_option maxRecDepth 100000 in
set_option maxHeartbeats 2000000 in
theorem right_any (id dl ct ix sz : Int) (w : World) :
    Calls Try.prog 47 #[.agg #[.int .i64 id, .int .i64 dl, .int .i64 ct, .int .i64 ix, .int .i64 sz]] w fun e w' => e = .returned (.bool (rightB id dl ct ix sz)) ∧ Kp (fun _ => False) w w' := by
  have hw : Whole (w.alloc (.cells #[.int .i64 id, .int .i64 dl, .int .i64 ct, .int .i64 ix, .int .i64 sz] 49)) w.heap.size 49 #[.int .i64 id, .int .i64 dl, .int .i64 ct, .int .i64 ix, .int .i64 sz] := Whole.new _ _ _
  have hk : Kp (fun _ => False) w (w.alloc (.cells #[.int .i64 id, .int .i64 dl, .int .i64 ct, .int .i64 ix, .int .i64 sz] 49)) := (Kp.refl _ w).alloc _
  obtain ⟨res, hres⟩ : ∃ res, res = rightB id dl ct ix sz := ⟨_, rfl⟩
  rw [← hres]
  have Hres := Lib.hid hres
  clear hres
  go_enter Try.func47, Try.ntmps47
  go_upto_region 1 with (fail)
  generalize w.alloc (.cells #[.int .i64 id, .int .i64 dl, .int .i64 ct, .int .i64 ix, .int .i64 sz] 49) = w1 at *
  have hl := hw.lt
  have c0 := hw.cell 0
  have c1 := hw.cell 1
  have c2 := hw.cell 2
  have c3 := hw.cell 3
  have c4 := hw.cell 4
  simp at c0 c1 c2 c3 c4
  have Hk := Lib.hid hk
  clear hw hk
  generalize w.heap.size = b at *
  by_cases p1 : 0 ≤ id ∧ id < 40 ∧ 0 ≤ dl ∧ dl ≤ 4611686018427387903
  · obtain ⟨a1, a2, a3, a4⟩ := p1
    have d1 : decide (id < 0) = false := by simp; omega
    have d2 : decide (40 ≤ id) = false := by simp; omega
    have d3 : decide (dl < 0) = false := by simp; omega
    have d4 : decide (4611686018427387903 < dl) = false := by simp; omega
    by_cases p2 : 1 ≤ sz ∧ sz ≤ 600
    · obtain ⟨a5, a6⟩ := p2
      have d5 : decide (sz < 1) = false := by simp; omega
      have d6 : decide (600 < sz) = false := by simp; omega
      have HP := Lib.hid (pieces_any sz)
      obtain ⟨cn, hcn⟩ : ∃ cn, cn = cntH sz := ⟨_, rfl⟩
      rw [← hcn] at HP
      have Hcn := Lib.hid hcn
      clear hcn
      go_upto_region 3 with (fail)
      by_cases p3 : ct = cn
      · subst p3
        have d7 : ((ct : Int) == ct) = true := by simp
        go_quiet ((go_at_call 46; exact Calls.quiet_of_same ((HP.out _ (by omega) (by omega)).mono fun _ _ ⟨he, hw⟩ => ⟨he, hw.symm⟩)))
        all_goals
          by_cases p4 : 0 ≤ ix
          · by_cases p5 : ix < ct
            · go_wp2_with fail
              go_ret
              refine ⟨?_, Hk.out.drewN _⟩
              rw [Hres.out, rightB, decide_eq_true (by unfold MostH; rw [← Hcn.out]; omega)]; first | rfl | simp
            · go_wp2_with fail
              go_ret
              refine ⟨?_, Hk.out.drewN _⟩
              rw [Hres.out, rightB, decide_eq_false (by omega)]; first | rfl | simp
          · go_wp2_with fail
            go_ret
            refine ⟨?_, Hk.out.drewN _⟩
            rw [Hres.out, rightB, decide_eq_false (by omega)]; first | rfl | simp
      · have d7 : ((ct : Int) == cn) = false := by simpa using p3
        have d8 : ((ct : Int) != cn) = true := by simpa using p3
        go_quiet ((go_at_call 46; exact Calls.quiet_of_same ((HP.out _ (by omega) (by omega)).mono fun _ _ ⟨he, hw⟩ => ⟨he, hw.symm⟩)))
        all_goals
          go_wp2_with fail
          go_ret
          refine ⟨?_, Hk.out.drewN _⟩
          rw [Hres.out, rightB, decide_eq_false (by rw [← Hcn.out]; omega)]; first | rfl | simp
    · go_upto_region 3 with (fail)
      by_cases p3 : sz < 1
      · have d5 : decide (sz < 1) = true := decide_eq_true p3
        go_quiet (fail)
        all_goals
          go_wp2_with fail
          go_ret
          refine ⟨?_, Hk.out.drewN _⟩
          rw [Hres.out, rightB, decide_eq_false (by omega)]; first | rfl | simp
      · have d5 : decide (sz < 1) = false := decide_eq_false p3
        have d6 : decide (600 < sz) = true := decide_eq_true (by omega)
        go_quiet (fail)
        all_goals
          go_wp2_with fail
          go_ret
          refine ⟨?_, Hk.out.drewN _⟩
          rw [Hres.out, rightB, decide_eq_false (by omega)]; first | rfl | simp
  · have hf : rightB id dl ct ix sz = false := by rw [rightB, decide_eq_false (by unfold MostH; omega)]
    rw [hf] at Hres
    by_cases q1 : id < 0
    · go_wp2_with fail
      go_ret
      exact ⟨by rw [Hres.out]; first | rfl | simp, Hk.out⟩
    · by_cases q2 : 40 ≤ id
      · go_wp2_with fail
        go_ret
        exact ⟨by rw [Hres.out]; first | rfl | simp, Hk.out⟩
      · by_cases q3 : dl < 0
        · go_wp2_with fail
          go_ret
          exact ⟨by rw [Hres.out]; first | rfl | simp, Hk.out⟩
        · have q4 : 4611686018427387903 < dl := by omega
          go_wp2_with fail
          go_ret
          exact ⟨by rw [Hres.out]; first | rfl | simp, Hk.out⟩


set_option maxRecDepth 100000 in
theorem eq_hd (w : World) (a1 a2 a3 a4 a5 b1 b2 b3 b4 b5 : Int) : (Op.equalIn 10000 49 (.agg #[.int .i64 a1, .int .i64 a2, .int .i64 a3, .int .i64 a4, .int .i64 a5]) (.agg #[.int .i64 b1, .int .i64 b2, .int .i64 b3, .int .i64 b4, .int .i64 b5])).run Try.prog w = .ok ((a1 == b1) && ((a2 == b2) && ((a3 == b3) && ((a4 == b4) && (a5 == b5))))) w := by
  have hu := Try.underlying3
  have hf : (Try.prog.fieldsOf 49).toList.map (fun f => (f.name, f.type, f.offset)) = [("ID", 3, 0), ("Deadline", 3, 1), ("Count", 3, 2), ("Index", 3, 3), ("Size", 3, 4)] := by kernel_rfl
  rw [show (10000 : Nat) = 9999 + 1 from rfl, run_equalIn_struct (P := Try.prog) w 9999 49 _ _ (by kernel_rfl) (by kernel_rfl)]
  generalize (Try.prog.fieldsOf 49).toList = fs at *
  rcases fs with _ | ⟨f1, fs⟩; · simp at hf
  rcases fs with _ | ⟨f2, fs⟩; · simp at hf
  rcases fs with _ | ⟨f3, fs⟩; · simp at hf
  rcases fs with _ | ⟨f4, fs⟩; · simp at hf
  rcases fs with _ | ⟨f5, fs⟩; · simp at hf
  rcases fs with _ | ⟨f6, fs⟩
  · simp only [List.map_cons, List.map_nil, List.cons.injEq, Prod.mk.injEq, and_true] at hf
    obtain ⟨⟨n1, t1, o1⟩, ⟨n2, t2, o2⟩, ⟨n3, t3, o3⟩, ⟨n4, t4, o4⟩, n5, t5, o5⟩ := hf
    have hp : ∀ (w : World) (xs : Array Value) (i : Nat) (v : Value), xs[i]? = some v → (part 3 xs i).run Try.prog w = .ok v w := fun w xs i v hx => run_part_plain w (by kernel_rfl) hx
    have key : ∀ (i : Nat) (f : Field) (fs : List Field) (xs ys : Array Value) (a b : Int) (w : World), f.name ≠ "_" → f.type = 3 → f.offset = i → xs[i]? = some (.int .i64 a) → ys[i]? = some (.int .i64 b) →
        (Op.eqFields 9999 xs ys (f :: fs)).run Try.prog w = if a == b then (Op.eqFields 9999 xs ys fs).run Try.prog w else .ok false w := fun i f fs xs ys a b w hn ht ho hx hy => by
      subst ho
      have e := run_equalIn_int (P := Try.prog) w 9998 3 .i64 .i64 a b hu
      simp only [Op.eqFields, if_pos hn, Sem.run_bind, ht, hp w xs _ _ hx, hp w ys _ _ hy, Result.andThen_ok, Sem.run_ite]
      rw [show (9999 : Nat) = 9998 + 1 from rfl, e]
      cases hab : a == b <;> simp
    rw [key 0 f1 _ _ _ a1 b1 w (by rw [n1]; decide) t1 o1 rfl rfl, key 1 f2 _ _ _ a2 b2 w (by rw [n2]; decide) t2 o2 rfl rfl, key 2 f3 _ _ _ a3 b3 w (by rw [n3]; decide) t3 o3 rfl rfl, key 3 f4 _ _ _ a4 b4 w (by rw [n4]; decide) t4 o4 rfl rfl, key 4 f5 _ _ _ a5 b5 w (by rw [n5]; decide) t5 o5 rfl rfl]
    cases a1 == b1 <;> cases a2 == b2 <;> cases a3 == b3 <;> cases a4 == b4 <;> cases a5 == b5 <;> simp [Op.eqFields]
  · simp at hf
def hdB (a1 a2 a3 a4 a5 b1 b2 b3 b4 b5 : Int) : Bool := (a1 == b1) && ((a2 == b2) && ((a3 == b3) && ((a4 == b4) && (a5 == b5))))
theorem neq_hd (w : World) (a1 a2 a3 a4 a5 b1 b2 b3 b4 b5 : Int) : (binOp .neq 49 (.agg #[.int .i64 a1, .int .i64 a2, .int .i64 a3, .int .i64 a4, .int .i64 a5]) (.agg #[.int .i64 b1, .int .i64 b2, .int .i64 b3, .int .i64 b4, .int .i64 b5])).run Try.prog w = .ok (.bool (!hdB a1 a2 a3 a4 a5 b1 b2 b3 b4 b5)) w := by
  rw [run_neq_struct, eq_hd]; rfl
theorem eql_hd (w : World) (a1 a2 a3 a4 a5 b1 b2 b3 b4 b5 : Int) : (binOp .eql 49 (.agg #[.int .i64 a1, .int .i64 a2, .int .i64 a3, .int .i64 a4, .int .i64 a5]) (.agg #[.int .i64 b1, .int .i64 b2, .int .i64 b3, .int .i64 b4, .int .i64 b5])).run Try.prog w = .ok (.bool (hdB a1 a2 a3 a4 a5 b1 b2 b3 b4 b5)) w := by
  rw [run_eql_struct, eq_hd]; rfl
end Go.Proofs.Ytdcbgjbhoejpnaa
