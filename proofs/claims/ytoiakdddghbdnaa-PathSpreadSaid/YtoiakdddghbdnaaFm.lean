/-
  Frames and packets as they lie in memory; slices.Clone, Clip of frames, of packets, of runs.
-/
import Derived.Test.YtoiakdddghbdnaaBytes
import Derived.Test.YtoiakdddghbdnaaPick
import Derived.Lib.SliceRun
import Derived.Deep.CutBlock
import Derived.Deep.QuietTactic
import Derived.Deep.DeepAppendWide
import Derived.BigQuiet
import Derived.Outline
namespace Go.Proofs.Ytoiakdddghbdnaa
open Go.RowKit

/-- A run of numbers. -/
abbrev Pr := Int × Int
def encP (r : Pr) : List Value := [.int .i64 r.1, .int .i64 r.2]
abbrev aggP (r : Pr) : Value := .agg #[.int .i64 r.1, .int .i64 r.2]
theorem encP_len (r : Pr) : (encP r).length = 2 := rfl
theorem encP_one (rs : List Pr) : ∀ u ∈ encs encP rs, u.oneCell' = true :=
  encs_one (fun z _ u hu => by
    simp only [encP, List.mem_cons, List.not_mem_nil, or_false] at hu
    rcases hu with rfl | rfl <;> rfl)
theorem pp0 {rs : List Pr} {i : Nat} {z : Pr} (hi : rs[i]? = some z) : (encs encP rs)[i * 2]? = some (.int .i64 z.1) := encs_get encP_len rs i 0 z hi (by omega)
theorem pp1 {rs : List Pr} {i : Nat} {z : Pr} (hi : rs[i]? = some z) : (encs encP rs)[i * 2 + 1]? = some (.int .i64 z.2) := encs_get encP_len rs i 1 z hi (by omega)
theorem encP_app (rs : List Pr) (r : Pr) : encs encP (rs ++ [r]) = encs encP rs ++ encP r := by
  rw [encs_append, show encs encP [r] = encP r by simp [encs]]
theorem infoPr : (Try.prog.info? 37).map (fun i => (i.zero, i.size, i.bytes)) = some (some (.agg #[.int .i64 0, .int .i64 0]), 2, 16) := by kernel_rfl

/-- A frame's numbers. -/
structure Hd where
  k : Int
  i : Int
  o : Int
  a : Int
  b : Int
  n : Int
  fin : Bool
/-- A frame: its numbers, where its bytes and its runs lie, what they are. -/
structure Fr where
  h : Hd
  dA : Option Addr
  dc : Nat
  sA : Option Addr
  sc : Nat
  d : List UInt8
  s : List Pr
def encF (f : Fr) : List Value := [.int .i64 f.h.k, .int .i64 f.h.i, .int .i64 f.h.o, .int .i64 f.h.a, .int .i64 f.h.b, .int .i64 f.h.n, .bool f.h.fin, .slice f.dA f.d.length f.dc, .slice f.sA f.s.length f.sc]
abbrev aggF (f : Fr) : Value := .agg #[.int .i64 f.h.k, .int .i64 f.h.i, .int .i64 f.h.o, .int .i64 f.h.a, .int .i64 f.h.b, .int .i64 f.h.n, .bool f.h.fin, .slice f.dA f.d.length f.dc, .slice f.sA f.s.length f.sc]
theorem encF_len (f : Fr) : (encF f).length = 9 := rfl
theorem encF_one1 (f : Fr) : ∀ u ∈ encF f, u.oneCell' = true := fun u hu => by
  simp only [encF, List.mem_cons, List.not_mem_nil, or_false] at hu
  rcases hu with rfl | rfl | rfl | rfl | rfl | rfl | rfl | rfl | rfl <;> rfl
theorem encF_one (l : List Fr) : ∀ u ∈ encs encF l, u.oneCell' = true := encs_one (fun z _ => encF_one1 z)
theorem infoF : (Try.prog.info? 31).map (fun i => (i.zero, i.size, i.bytes)) = some (some (.agg #[.int .i64 0, .int .i64 0, .int .i64 0, .int .i64 0, .int .i64 0, .int .i64 0, .bool false, .slice none 0 0, .slice none 0 0]), 9, 104) := by kernel_rfl
section
variable {l : List Fr} {i : Nat} {z : Fr}
theorem ff0 (hi : l[i]? = some z) : (encs encF l)[i * 9]? = some (.int .i64 z.h.k) := encs_get encF_len l i 0 z hi (by omega)
theorem ff1 (hi : l[i]? = some z) : (encs encF l)[i * 9 + 1]? = some (.int .i64 z.h.i) := encs_get encF_len l i 1 z hi (by omega)
theorem ff2 (hi : l[i]? = some z) : (encs encF l)[i * 9 + 2]? = some (.int .i64 z.h.o) := encs_get encF_len l i 2 z hi (by omega)
theorem ff3 (hi : l[i]? = some z) : (encs encF l)[i * 9 + 3]? = some (.int .i64 z.h.a) := encs_get encF_len l i 3 z hi (by omega)
theorem ff4 (hi : l[i]? = some z) : (encs encF l)[i * 9 + 4]? = some (.int .i64 z.h.b) := encs_get encF_len l i 4 z hi (by omega)
theorem ff5 (hi : l[i]? = some z) : (encs encF l)[i * 9 + 5]? = some (.int .i64 z.h.n) := encs_get encF_len l i 5 z hi (by omega)
theorem ff6 (hi : l[i]? = some z) : (encs encF l)[i * 9 + 6]? = some (.bool z.h.fin) := encs_get encF_len l i 6 z hi (by omega)
theorem ff7 (hi : l[i]? = some z) : (encs encF l)[i * 9 + 7]? = some (.slice z.dA z.d.length z.dc) := encs_get encF_len l i 7 z hi (by omega)
theorem ff8 (hi : l[i]? = some z) : (encs encF l)[i * 9 + 8]? = some (.slice z.sA z.s.length z.sc) := encs_get encF_len l i 8 z hi (by omega)
end

/-- What a frame's bytes and runs are, in blocks F. -/
structure Reads (w : World) (F : Nat → Prop) (f : Fr) : Prop where
  d : Bs w (.slice f.dA f.d.length f.dc) f.d
  s : Src w 2 (.slice f.sA f.s.length f.sc) f.s.length (encs encP f.s)
  dF : ∀ k, (Value.slice f.dA f.d.length f.dc).ownBlock = some k → F k
  sF : ∀ k, (Value.slice f.sA f.s.length f.sc).ownBlock = some k → F k
theorem Reads.kp {S F : Nat → Prop} {w w' : World} {f : Fr} (h : Reads w F f) (hk : Kp S w w') (hS : ∀ k, F k → ¬ S k) : Reads w' F f :=
  ⟨h.d.kp hk (fun k e => hS k (h.dF k e)), hk.src h.s (fun k e => hS k (h.sF k e)), h.dF, h.sF⟩
theorem Reads.sup {F F' : Nat → Prop} {w : World} {f : Fr} (h : Reads w F f) (hF : ∀ k, F k → F' k) : Reads w F' f :=
  ⟨h.d, h.s, fun k e => hF k (h.dF k e), fun k e => hF k (h.sF k e)⟩

/-- A row of frames that is read, in blocks F. -/
structure FrsR (w : World) (F : Nat → Prop) (v : Value) (l : List Fr) : Prop where
  row : Src w 9 v l.length (encs encF l)
  rF : ∀ k, v.ownBlock = some k → F k
  each : ∀ f ∈ l, Reads w F f
theorem FrsR.kp {S F : Nat → Prop} {w w' : World} {v : Value} {l : List Fr} (h : FrsR w F v l) (hk : Kp S w w') (hS : ∀ k, F k → ¬ S k) : FrsR w' F v l :=
  ⟨hk.src h.row (fun k e => hS k (h.rF k e)), h.rF, fun f hf => (h.each f hf).kp hk hS⟩
theorem FrsR.sup {F F' : Nat → Prop} {w : World} {v : Value} {l : List Fr} (h : FrsR w F v l) (hF : ∀ k, F k → F' k) : FrsR w F' v l :=
  ⟨h.row, fun k e => hF k (h.rF k e), fun f hf => (h.each f hf).sup hF⟩
theorem FrsR.form {w : World} {F : Nat → Prop} {v : Value} {l : List Fr} (h : FrsR w F v l) : ∃ A cap, v = .slice A l.length cap := by
  obtain ⟨_, _, ⟨rfl, h0⟩ | ⟨a, c, rfl, _⟩⟩ := h.row
  · exact ⟨_, _, by rw [h0]⟩
  · exact ⟨_, _, rfl⟩
theorem FrsR.nil (w : World) (F : Nat → Prop) : FrsR w F (.slice none 0 0) [] := ⟨⟨rfl, (fun u hu => by cases hu), .inl ⟨rfl, rfl⟩⟩, fun k hk => (by cases hk), fun f hf => (by cases hf)⟩

/-- A packet: its number, when, whether it elicits, where its frames lie, what they are. -/
structure Pk where
  n : Int
  a : Int
  el : Bool
  A : Option Addr
  c : Nat
  l : List Fr
abbrev Pk.fv (z : Pk) : Value := .slice z.A z.l.length z.c
def encK (z : Pk) : List Value := [.int .i64 z.n, .int .i64 z.a, .bool z.el, .slice z.A z.l.length z.c]
abbrev aggK (z : Pk) : Value := .agg #[.int .i64 z.n, .int .i64 z.a, .bool z.el, .slice z.A z.l.length z.c]
theorem encK_len (z : Pk) : (encK z).length = 4 := rfl
theorem encK_one1 (z : Pk) : ∀ u ∈ encK z, u.oneCell' = true := fun u hu => by
  simp only [encK, List.mem_cons, List.not_mem_nil, or_false] at hu
  rcases hu with rfl | rfl | rfl | rfl <;> rfl
theorem encK_one (zs : List Pk) : ∀ u ∈ encs encK zs, u.oneCell' = true := encs_one (fun z _ => encK_one1 z)
theorem infoK : (Try.prog.info? 66).map (fun i => (i.zero, i.size, i.bytes)) = some (some (.agg #[.int .i64 0, .int .i64 0, .bool false, .slice none 0 0]), 4, 48) := by kernel_rfl
theorem kk0 {zs : List Pk} {i : Nat} {z : Pk} (hi : zs[i]? = some z) : (encs encK zs)[i * 4]? = some (.int .i64 z.n) := encs_get encK_len zs i 0 z hi (by omega)
theorem kk1 {zs : List Pk} {i : Nat} {z : Pk} (hi : zs[i]? = some z) : (encs encK zs)[i * 4 + 1]? = some (.int .i64 z.a) := encs_get encK_len zs i 1 z hi (by omega)
theorem kk2 {zs : List Pk} {i : Nat} {z : Pk} (hi : zs[i]? = some z) : (encs encK zs)[i * 4 + 2]? = some (.bool z.el) := encs_get encK_len zs i 2 z hi (by omega)
theorem kk3 {zs : List Pk} {i : Nat} {z : Pk} (hi : zs[i]? = some z) : (encs encK zs)[i * 4 + 3]? = some (.slice z.A z.l.length z.c) := encs_get encK_len zs i 3 z hi (by omega)

theorem Src.wide {w : World} {sz m : Nat} {v : Value} {xs : List Value} (h : Src w sz v m xs) (hm : 0 < m) (hs : 0 < sz) : ∃ b off c, v = .slice (some ⟨b, off, none⟩) m c ∧ b < w.heap.size ∧ ∀ j u, xs[j]? = some u → w.cell? ⟨b, off + j, none⟩ = some u := by
  obtain ⟨hl, _, ⟨rfl, h0⟩ | ⟨a, c, rfl, hc⟩⟩ := h
  · omega
  · have hpos : 0 < xs.length := by rw [hl]; exact Nat.mul_pos hm hs
    have h00 := hc 0 xs[0] (List.getElem?_eq_getElem hpos)
    have hlt := World.block_lt_of_cell? w _ h00
    have hsp : a.spot = none := by
      unfold World.cell? at h00
      split at h00
      · split at h00
        · cases h00
        · rename_i hsp
          cases a with
          | mk b o sp =>
            cases sp with
            | none => rfl
            | some x => simp [Addr.add] at hsp
      · cases h00
    obtain ⟨b, off, sp⟩ := a
    obtain rfl := hsp
    refine ⟨b, off, c, rfl, ?_, fun j u hj => ?_⟩
    · rw [Addr.add_lit] at hlt; exact hlt
    · have := hc j u hj
      rw [Addr.add_lit] at this
      exact this
/-- A block that holds a row's cells, as a slice that is read. -/
theorem srcW {w : World} {b : Nat} {e : TypeId} {sz n c : Nat} (xs : List Value) (h : Whole w b e xs.toArray) (hl : xs.length = n * sz) (h1 : ∀ u ∈ xs, u.oneCell' = true) : Src w sz (.slice (some ⟨b, 0, none⟩) n c) n xs := by
  refine ⟨hl, h1, .inr ⟨_, _, rfl, fun j u hj => ?_⟩⟩
  rw [Addr.add_lit, Nat.zero_add, h.cell]
  simpa using hj
/-- A row that is cut to its length. -/
theorem RowAt.clip {w : World} {B sz n c : Nat} {A : Option Addr} {xs : List Value} (h : RowAt w B sz (.slice A n c) n xs) : RowAt w B sz (.slice A n n) n xs := by
  refine ⟨h.1, ?_⟩
  rcases h.2 with ⟨h1, h2⟩ | ⟨g, off, cap, h1, h2, h3, h4, h5, h6, h7, h8⟩
  · cases h1
    exact .inl ⟨rfl, rfl⟩
  · cases h1
    exact .inr ⟨g, off, n, rfl, h2, h3, Nat.le_refl _, by omega, fun j hj => h6 j (Nat.lt_of_lt_of_le hj (Nat.mul_le_mul_right _ h4)), h7, h8⟩
theorem row_capL {w : World} {B sz n c : Nat} {A : Option Addr} {xs : List Value} (h : RowAt w B sz (.slice A n c) n xs) : n ≤ c ∧ c ≤ maxLen := by
  rcases h.2 with ⟨hv, rfl⟩ | ⟨g, off, cap, hv, _, _, h1, h2, _⟩
  · cases hv; exact ⟨Nat.le_refl _, Nat.zero_le _⟩
  · cases hv; exact ⟨h1, h2⟩
theorem row_add {w : World} {B sz n c : Nat} {A : Option Addr} {xs : List Value} (h : RowAt w B sz (.slice A n c) n xs) : ∀ a, A = some a → a.add 0 = a := by
  intro a ha
  rcases h.2 with ⟨hv, rfl⟩ | ⟨g, off, cap, hv, _⟩
  · cases hv; cases ha
  · cases hv; cases ha; rw [Addr.add_lit, Nat.add_zero]
theorem filter_snoc {α : Type} (p : α → Bool) (zs : List α) (i : Nat) (z : α) (h : zs[i]? = some z) : (zs.take (i + 1)).filter p = (zs.take i).filter p ++ (bif p z then [z] else []) := by
  rw [List.take_add_one, h, List.filter_append]
  cases hp : p z <;> simp [hp]
theorem takeL {α : Type} {ys : List α} {i : Nat} {y : α} (h : ys[i]? = some y) : ys.take (i + 1) = ys.take i ++ [y] := by rw [List.take_add_one, h]; rfl
theorem near_near {w w' : World} {v v' v2 : Value} (h : Near w v v') (h2 : Near w' v' v2) (hs : w.heap.size ≤ w'.heap.size) : Near w v v2 := by
  rcases h2 with h2 | h2
  · rcases h with h | h
    · exact .inl (h2.trans h)
    · exact .inr (fun k hk => h k (h2 ▸ hk))
  · exact .inr (fun k hk => Nat.le_trans hs (h2 k hk))

set_option maxHeartbeats 400000 in
theorem clip_p {w : World} {A : Option Addr} {n cap : Nat} (h : n ≤ cap) (hA : ∀ a, A = some a → a.add 0 = a) :
    Calls Try.prog 54 #[.slice A n cap] w fun e w' => e = .returned (.slice A n n) ∧ w = w' := by
  cases A with
  | none =>
    go_enter Try.func54, Try.ntmps54
    go_wp2_with fail
    go_ret
    exact ⟨by simp, rfl⟩
  | some a =>
    have ha := hA a rfl
    clear hA
    go_enter Try.func54, Try.ntmps54
    go_wp2_with fail
    go_ret
    exact ⟨by simp, rfl⟩
set_option maxHeartbeats 400000 in
theorem clip_fm {w : World} {A : Option Addr} {n cap : Nat} (h : n ≤ cap) (hA : ∀ a, A = some a → a.add 0 = a) :
    Calls Try.prog 47 #[.slice A n cap] w fun e w' => e = .returned (.slice A n n) ∧ w = w' := by
  cases A with
  | none =>
    go_enter Try.func47, Try.ntmps47
    go_wp2_with fail
    go_ret
    exact ⟨by simp, rfl⟩
  | some a =>
    have ha := hA a rfl
    clear hA
    go_enter Try.func47, Try.ntmps47
    go_wp2_with fail
    go_ret
    exact ⟨by simp, rfl⟩
set_option maxHeartbeats 400000 in
theorem clip_k {w : World} {A : Option Addr} {n cap : Nat} (h : n ≤ cap) (hA : ∀ a, A = some a → a.add 0 = a) :
    Calls Try.prog 58 #[.slice A n cap] w fun e w' => e = .returned (.slice A n n) ∧ w = w' := by
  cases A with
  | none =>
    go_enter Try.func58, Try.ntmps58
    go_wp2_with fail
    go_ret
    exact ⟨by simp, rfl⟩
  | some a =>
    have ha := hA a rfl
    clear hA
    go_enter Try.func58, Try.ntmps58
    go_wp2_with fail
    go_ret
    exact ⟨by simp, rfl⟩

set_option maxRecDepth 100000 in
set_option maxHeartbeats 1000000 in
theorem clone_p {w : World} {A : Option Addr} {n cap : Nat} {xs : List Value} (hx : Src w 2 (.slice A n cap) n xs) (hn : n ≤ 8796093022208) :
    Calls Try.prog 55 #[.slice A n cap] w fun e w' => ∃ A' cap', e = .returned (.slice A' n cap') ∧ RowAt w' w.heap.size 2 (.slice A' n cap') n xs ∧ Kp (fun _ => False) w w' := by
  obtain ⟨i0, hi, hz0, hz1, hz2⟩ := info_parts infoPr
  have q : ∀ (w : World) (a : Option Addr) (n c n' c' : Nat), (binOp .eql 29 (.slice a n c) (.slice none n' c')).run Try.prog w = .ok (.bool a.isNone) w := fun w a n c n' c' => Lib.run_eql_slice_nil w _ _ a n c n' c' Try.underlying29
  cases A with
  | none =>
    obtain ⟨hl, _, ⟨hv, hn0⟩ | ⟨a, c, hv, _⟩⟩ := hx
    · cases hv
      obtain rfl : xs = [] := List.eq_nil_of_length_eq_zero (by simpa using hl)
      go_enter Try.func55, Try.ntmps55
      go_wp2_with fail
      go_ret
      exact ⟨_, _, rfl, RowAt.nil _ _ _, Kp.refl _ _⟩
    · cases hv
  | some a =>
    have HO : Hid (RowAt (w.alloc (.cells #[] 37)) w.heap.size 2 (.slice (some ⟨w.heap.size, 0, none⟩) 0 0) 0 []) := Lib.hid (RowAt.of_own (World.ownsRow_made (base := w.heap.size) (e := 37) (size := 2) w #[] 0 (Nat.le_refl _) (Nat.zero_le _) rfl))
    have Hi := Lib.hid hi
    have Hz0 := Lib.hid hz0
    have Hz1 := Lib.hid hz1
    have Hz2 := Lib.hid hz2
    have HX : Hid (Src (w.alloc (.cells #[] 37)) 2 (.slice (some a) n cap) n xs) := Lib.hid (((Kp.refl (fun _ => False) w).alloc _).src hx (fun _ _ h => h))
    clear hx hi hz0 hz1 hz2
    go_enter Try.func55, Try.ntmps55
    go_wp2_with (at_builtin; refine wpList_row rfl (.tmp 5) (.tmp 6) 29 rfl w.heap.size 37 i0 _ 2 16 Try.underlying29 Hi.out Hz0.out Hz1.out Hz2.out rfl (by decide) _ 0 _ rfl HO.out _ n _ rfl HX.out (by unfold maxLen; omega) (by omega) (by simp) ?_; intro v5 w5 hr5 hg5 hn5; obtain ⟨A5, c5, rfl⟩ := hr5.form; have hk5 : Kp (fun _ => False) w w5 := ((Kp.refl _ w).alloc _).grown hg5 (fun i hi hlt => absurd (HO.out.lt i hi).1 (by omega)); have Hr5 := Lib.hid hr5; have Hk5 := Lib.hid hk5; clear hr5 hg5 hn5 hk5)
    go_ret
    exact ⟨A5, c5, by simp, by simpa using Hr5.out, Hk5.out⟩

set_option maxRecDepth 100000 in
set_option maxHeartbeats 1000000 in
theorem clone_fm {w : World} {A : Option Addr} {n cap : Nat} {xs : List Value} (hx : Src w 9 (.slice A n cap) n xs) (hn : n ≤ 1099511627776) :
    Calls Try.prog 51 #[.slice A n cap] w fun e w' => ∃ A' cap', e = .returned (.slice A' n cap') ∧ RowAt w' w.heap.size 9 (.slice A' n cap') n xs ∧ Kp (fun _ => False) w w' := by
  obtain ⟨i0, hi, hz0, hz1, hz2⟩ := info_parts infoF
  have q : ∀ (w : World) (a : Option Addr) (n c n' c' : Nat), (binOp .eql 26 (.slice a n c) (.slice none n' c')).run Try.prog w = .ok (.bool a.isNone) w := fun w a n c n' c' => Lib.run_eql_slice_nil w _ _ a n c n' c' Try.underlying26
  cases A with
  | none =>
    obtain ⟨hl, _, ⟨hv, hn0⟩ | ⟨a, c, hv, _⟩⟩ := hx
    · cases hv
      obtain rfl : xs = [] := List.eq_nil_of_length_eq_zero (by simpa using hl)
      go_enter Try.func51, Try.ntmps51
      go_wp2_with fail
      go_ret
      exact ⟨_, _, rfl, RowAt.nil _ _ _, Kp.refl _ _⟩
    · cases hv
  | some a =>
    have HO : Hid (RowAt (w.alloc (.cells #[] 31)) w.heap.size 9 (.slice (some ⟨w.heap.size, 0, none⟩) 0 0) 0 []) := Lib.hid (RowAt.of_own (World.ownsRow_made (base := w.heap.size) (e := 31) (size := 9) w #[] 0 (Nat.le_refl _) (Nat.zero_le _) rfl))
    have Hi := Lib.hid hi
    have Hz0 := Lib.hid hz0
    have Hz1 := Lib.hid hz1
    have Hz2 := Lib.hid hz2
    have HX : Hid (Src (w.alloc (.cells #[] 31)) 9 (.slice (some a) n cap) n xs) := Lib.hid (((Kp.refl (fun _ => False) w).alloc _).src hx (fun _ _ h => h))
    clear hx hi hz0 hz1 hz2
    go_enter Try.func51, Try.ntmps51
    go_wp2_with (at_builtin; refine wpList_row rfl (.tmp 5) (.tmp 6) 26 rfl w.heap.size 31 i0 _ 9 104 Try.underlying26 Hi.out Hz0.out Hz1.out Hz2.out rfl (by decide) _ 0 _ rfl HO.out _ n _ rfl HX.out (by unfold maxLen; omega) (by omega) (by simp) ?_; intro v5 w5 hr5 hg5 hn5; obtain ⟨A5, c5, rfl⟩ := hr5.form; have hk5 : Kp (fun _ => False) w w5 := ((Kp.refl _ w).alloc _).grown hg5 (fun i hi hlt => absurd (HO.out.lt i hi).1 (by omega)); have Hr5 := Lib.hid hr5; have Hk5 := Lib.hid hk5; clear hr5 hg5 hn5 hk5)
    go_ret
    exact ⟨A5, c5, by simp, by simpa using Hr5.out, Hk5.out⟩
end Go.Proofs.Ytoiakdddghbdnaa
