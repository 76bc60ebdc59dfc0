/-
  argosylaw3: SpansKnown.
-/
import Derived.Test.YtdcbgjbhoejpnaaSpan9
import Derived.Deep.RegionHeld3
import Derived.Deep.DeepCutAuto
namespace Go.Proofs.Ytdcbgjbhoejpnaa
open Go.RowKit

def kA : List Pr := [(1, 4), (7, 8)]
def kB : List Pr := [(1, 8)]
def kC : List Pr := [(1, 2), (3, 8)]
def kO : List Pr := [(4611686018427387903, 4611686018427387904)]
def kU : List Pr := [(1, 8), (4611686018427387903, 4611686018427387904)]
def kZ : List Pr := [(0, 2)]
def kG : List Pr := [(0, 1), (4, 7), (8, 9)]
def kY : List Pr := [(1, 2)]

/-- Of some numbers that were laid in a block. -/
theorem of_lit {w : World} {b : Nat} (xs : List Int) (n : Nat) (hn : xs.length = n) (hn2 : n ≤ 1048575) (L : List Pr) (hL : ofL xs = L) (hb : ∀ i, (ofL (xs.take i)).length ≤ 1048575) (h : Whole w b 3 (encN xs).toArray) :
    Calls Try.prog 12 #[.slice (some ⟨b, 0, none⟩) n n] w fun e w' => ∃ v, e = .returned (.agg #[v]) ∧ Src w' 2 v L.length (encs encP L) ∧ Kp (fun _ => False) w w' := by
  subst hn hL
  refine (s_of (cap := xs.length) (srcW (encN xs) h (by simp [encN]) (encN_one _)) hb (by omega)).mono ?_
  rintro e w' ⟨v, rfl, h1, _, h3⟩
  exact ⟨v, rfl, h1, h3⟩
theorem of_nil (w : World) : Calls Try.prog 12 #[.slice none 0 0] w fun e w' => ∃ v, e = .returned (.agg #[v]) ∧ Src w' 2 v 0 [] ∧ Kp (fun _ => False) w w' := by
  have h := s_of (w := w) (A := none) (cap := 0) (xs := []) ⟨rfl, (fun u hu => by cases hu), .inl ⟨rfl, rfl⟩⟩ (fun i => by simp [ofL]) (by simp)
  refine h.mono ?_
  rintro e w' ⟨v, rfl, h1, _, h3⟩
  exact ⟨v, rfl, h1, h3⟩
theorem of_take (xs : List Int) (h : xs.length ≤ 1048575) : ∀ i, (ofL (xs.take i)).length ≤ 1048575 := by
  have key : ∀ (ys : List Int) (L : List Pr), (ys.foldl ofStep L).length ≤ L.length + ys.length := by
    intro ys
    induction ys with
    | nil => intro L; simp
    | cons y ys ih =>
      intro L
      have h1 := ih (ofStep L y)
      have h2 : (ofStep L y).length ≤ L.length + 1 := by
        unfold ofStep
        split
        · exact addS_len _ _ _
        · omega
      rw [List.foldl_cons, List.length_cons]
      omega
  intro i
  have := key (xs.take i) []
  rw [List.length_take] at this
  unfold ofL
  simp at this
  omega

theorem kk3 {w w' : World} {s t : Nat} {a b : Value} (hs : s < w.heap.size) (ht : t < w.heap.size) (qs : w.cell? ⟨s, 0, none⟩ = some a) (qt : w.cell? ⟨t, 0, none⟩ = some b) (h : Kp (fun _ => False) w w') :
    w'.cell? ⟨s, 0, none⟩ = some a ∧ w'.cell? ⟨t, 0, none⟩ = some b ∧ Kp (fun _ => False) w w' :=
  ⟨by rw [h.cell (p := ⟨s, 0, none⟩) hs (fun h => h)]; exact qs, by rw [h.cell (p := ⟨t, 0, none⟩) ht (fun h => h)]; exact qt, h⟩

theorem src_alloc {w : World} {sz m : Nat} {v : Value} {xs : List Value} (h : Src w sz v m xs) (o : Obj) : Src (w.alloc o) sz v m xs := Kp.src ((Kp.refl (fun _ => False) w).alloc o) h (fun _ _ h => h)
theorem set_fin {w : World} {b : Nat} {u v : Value} {L : List Pr} (h : Whole w b 27 #[u]) (hs : Src w 2 v L.length (encs encP L)) : HasSet (w.setCell ⟨b, 0, none⟩ v) b L :=
  ⟨v, ⟨h.set 0 v, src_tr hs ((Kp.refl (fun k => k = b) w).set (.inl rfl) v) (fun k e => .inl (by obtain rfl : k = b := e; exact ⟨_, _, h, noPair_one _⟩))⟩⟩
theorem src_form {w : World} {sz m : Nat} {v : Value} {xs : List Value} (h : Src w sz v m xs) : ∃ A c, v = .slice A m c := by
  rcases h.2.2 with ⟨h1, h2⟩ | ⟨a, c, h1, _⟩
  · exact ⟨none, 0, by rw [h1, h2]⟩
  · exact ⟨_, _, h1⟩
theorem union4 {w : World} {b : Nat} {A3 A4 : Option Addr} {c3 c4 : Nat} {v1 v2 : Value} {LA LC LO LU : List Pr} (h : Whole w b 27 #[.slice A3 LA.length c3, .slice A4 LC.length c4, v1, v2])
    (h3 : Src w 2 (.slice A3 LA.length c3) LA.length (encs encP LA)) (h4 : Src w 2 (.slice A4 LC.length c4) LC.length (encs encP LC)) (h1 : Src w 2 v1 0 []) (h2 : Src w 2 v2 LO.length (encs encP LO))
    (hU : unL [LA, LC, [], LO] = LU) (nA : LA.length ≤ 4) (nC : LC.length ≤ 4) (nO : LO.length ≤ 4) :
    Calls Try.prog 14 #[.slice (some ⟨b, 0, none⟩) 4 4] w fun e w' => ∃ A c, e = .returned (.agg #[.slice A LU.length c]) ∧ Src w' 2 (.slice A LU.length c) LU.length (encs encP LU) ∧ Kp (fun _ => False) w w' := by
  subst hU
  have f1 : ∃ A c, v1 = .slice A 0 c := by
    rcases h1.2.2 with ⟨h1, _⟩ | ⟨a, c, h1, _⟩
    · exact ⟨none, 0, h1⟩
    · exact ⟨_, _, h1⟩
  have f2 : ∃ A c, v2 = .slice A LO.length c := by
    rcases h2.2.2 with ⟨h1, h2⟩ | ⟨a, c, h1, _⟩
    · exact ⟨none, 0, by rw [h1, h2]⟩
    · exact ⟨_, _, h1⟩
  obtain ⟨A1, c1, rfl⟩ := f1
  obtain ⟨A2, c2, rfl⟩ := f2
  refine (s_union (cap := 4) (vs := [.slice A3 LA.length c3, .slice A4 LC.length c4, .slice A1 0 c1, .slice A2 LO.length c2]) (Ls := [LA, LC, [], LO]) (srcW _ h rfl ?_) rfl ?_ (by simp; omega) (by simp)).mono ?_
  · intro u hu
    simp only [List.mem_cons, List.not_mem_nil, or_false] at hu
    rcases hu with rfl | rfl | rfl | rfl <;> rfl
  · intro j u M hu hM
    rcases j with _ | _ | _ | _ | j
    · cases hu; cases hM; exact h3
    · cases hu; cases hM; exact h4
    · cases hu; cases hM; exact h1
    · cases hu; cases hM; exact h2
    · simp at hu
  · rintro e w' ⟨v, rfl, h1, _, h3⟩
    obtain ⟨A, c, rfl⟩ := src_form h1
    exact ⟨A, c, rfl, h1, h3⟩

set_option maxRecDepth 100000 in
set_option maxHeartbeats 4000000 in
theorem SpansKnown_any {W : World} : Calls Try.prog 6 #[] W fun e w' => e = .returned (.bool true) ∧ Below W.heap.size W w' := by
  obtain ⟨LA, hLA⟩ : ∃ L, L = kA := ⟨_, rfl⟩
  obtain ⟨LB, hLB⟩ : ∃ L, L = kB := ⟨_, rfl⟩
  obtain ⟨LC, hLC⟩ : ∃ L, L = kC := ⟨_, rfl⟩
  obtain ⟨LO, hLO⟩ : ∃ L, L = kO := ⟨_, rfl⟩
  obtain ⟨LU, hLU⟩ : ∃ L, L = kU := ⟨_, rfl⟩
  have EB : Hid (addS LA 4 7 = LB) := Lib.hid (by subst hLA hLB; decide)
  have EC : Hid (dropS LB 2 3 = LC) := Lib.hid (by subst hLB hLC; decide)
  have EU : Hid (unL [LA, LC, [], LO] = LU) := Lib.hid (by subst hLA hLC hLO hLU; decide)
  have nA : LA.length ≤ 4 := by subst hLA; decide
  have nB : LB.length ≤ 4 := by subst hLB; decide
  have nC : LC.length ≤ 4 := by subst hLC; decide
  have nO : LO.length ≤ 4 := by subst hLO; decide
  have nU : LU.length ≤ 4 := by subst hLU; decide
  have HA := Lib.hid hLA
  have HB := Lib.hid hLB
  have HC := Lib.hid hLC
  have HO := Lib.hid hLO
  have HU := Lib.hid hLU
  have Hof := Lib.hid (of_lit (w := W.alloc (.cells #[.int .i64 3, .int .i64 1, .int .i64 2, .int .i64 7] 3)) [3, 1, 2, 7] 4 rfl (by omega) LA (by subst hLA; exact of_kn) (of_take _ (by simp)) (Whole.new _ _ _))
  clear hLA hLB hLC hLO hLU
  go_enter Try.func6, Try.ntmps6
  go_wp2_with fail
  with_reducible refine (Hof.out).mono ?_
  rintro e w1 ⟨v1, rfl, hs1, hk1⟩
  have hk1 := ((Kp.refl (fun _ => False) W).alloc _).trans hk1
  obtain ⟨A1, c1, rfl⟩ : ∃ A c, v1 = .slice A LA.length c := by
    rcases hs1.2.2 with ⟨h1, h2⟩ | ⟨a, c, h1, _⟩
    · exact ⟨none, 0, by rw [h1, h2]⟩
    · exact ⟨_, _, h1⟩
  have hS := HasSet.copy hs1
  have hk2 := hk1.alloc (.cells #[.slice A1 LA.length c1] 27)
  have hsw := hk1.size
  clear hs1 hk1
  go_upto_region 2 with (fail)
  generalize w1.alloc (.cells #[.slice A1 LA.length c1] 27) = w2 at *
  generalize w1.heap.size = s at *
  obtain ⟨A2, c2, hc2, hs2⟩ := hS.read
  have hsl := hS.lt
  have hT := HasSet.copy hs2
  have hk3 : Kp (fun _ => False) w2 (w2.alloc (.cells #[.slice A2 LA.length c2] 27)) := (Kp.refl _ w2).alloc _
  have hS3 := hS.no hk3
  have Hk3 := Lib.hid (hk2.trans hk3)
  clear hk2 hk3 hS hs2
  go_upto_region 3 with (fail)
  generalize w2.alloc (.cells #[.slice A2 LA.length c2] 27) = w3 at *
  generalize w2.heap.size = t at *
  have htl := hT.lt
  have hst : s ≠ t := by omega
  have hadd := f_add hT (by omega) 4 7
  rw [EB.out] at hadd
  have Hadd := Lib.hid hadd
  have HT := Lib.hid hT
  have HS := Lib.hid hS3
  clear hadd hT hS3
  go_wp2_with fail
  with_reducible refine (Hadd.out).mono ?_
  rintro e w4 ⟨rfl, hT4, hk4⟩
  have hS4 := HS.out.other HT.out hk4 hst
  have hk4' := (Hk3.out.no.trans hk4).mono (S' := fun _ => False) (fun k hk e => by omega)
  have hadd := f_drop hT4 (by omega) 2 3
  rw [EC.out] at hadd
  clear HS HT Hk3 Hadd
  have Hadd := Lib.hid hadd
  have HT := Lib.hid hT4
  have HS := Lib.hid hS4
  have Hk := Lib.hid hk4'
  clear hadd hT4 hS4 hk4 hk4'
  go_wp2_with fail
  with_reducible refine (Hadd.out).mono ?_
  rintro e w5 ⟨rfl, hT5, hk5⟩
  have hS5 := HS.out.other HT.out hk5 hst
  have hk5' := (Hk.out.no.trans hk5).mono (S' := fun _ => False) (fun k hk e => by omega)
  have hsl5 := hS5.lt
  have htl5 := hT5.lt
  obtain ⟨A3, c3, q3, p3⟩ := hS5.read
  obtain ⟨A4, c4, q4, p4⟩ := hT5.read
  clear HS HT Hk Hadd hk5
  have HT := Lib.hid hT5
  have HS := Lib.hid hS5
  have Hk := Lib.hid hk5'
  have P3 := Lib.hid p3
  have P4 := Lib.hid p4
  clear hT5 hS5 hk5' p3 p4 hc2
  go_upto_region 5 with (fail)
  go_cut [3] (fun v3 wx => ∃ b3, v3 = .pointer (some ⟨b3, 0, none⟩) ∧ HasSet wx b3 LU ∧ w5.heap.size ≤ b3 ∧ Kp (fun _ => False) w5 wx)
  case first =>
    have hkr : Kp (fun _ => False) w5 w5.drew := (Kp.refl _ _).drew
    go_region_held3 (fun w' => w'.cell? ⟨s, 0, none⟩ = some (.slice A3 LA.length c3) ∧ w'.cell? ⟨t, 0, none⟩ = some (.slice A4 LC.length c4) ∧ Kp (fun _ => False) w5 w') (exact kk3 hsl5 htl5 q3 q4 (by ((repeat (first | assumption | (with_reducible exact Kp.refl _ _) | with_reducible apply Kp.alloc | with_reducible apply Kp.drew | refine Kp.set ?_ (.inr (by first | (dsimp only; omega) | (simp; done) | (simp; omega))) _)); done)))
      (first
        | (go_at_call 12; (with_reducible refine (of_nil _).mono ?_); rintro e wA ⟨vA, rfl, hsA, hkA⟩; have hkx : Kp (fun _ => False) w5 wA := Kp.trans (by ((repeat (first | assumption | (with_reducible exact Kp.refl _ _) | with_reducible apply Kp.alloc | with_reducible apply Kp.drew)); done)) hkA; have hzA := hkx.size; (first | (have hbx : Whole wA _ 27 #[.slice none 0 0] := hkA.whole (by ((repeat (first | (with_reducible exact Whole.new _ _ _) | (with_reducible exact hbx) | with_reducible apply Whole.alloc | with_reducible apply Whole.drew)); done)) (fun h => h); have hbc := hbx.cell 0; have hbf := hbx.frozen 0; (try simp at hbc); (try simp at hbf)) | skip))
        | (go_at_call 14; refine (union4 (v1 := vA) (v2 := vB) ?_ (Kp.src (by ((repeat (first | assumption | (with_reducible exact Kp.refl _ _) | with_reducible apply Kp.alloc | with_reducible apply Kp.drew)); done)) P3.out (fun _ _ h => h)) (Kp.src (by ((repeat (first | assumption | (with_reducible exact Kp.refl _ _) | with_reducible apply Kp.alloc | with_reducible apply Kp.drew)); done)) P4.out (fun _ _ h => h)) ?_ ?_ EU.out nA nC nO).mono ?_
           · repeat (first | (with_reducible exact whole_at _ _ rfl (by simp)) | with_reducible apply Whole.alloc | with_reducible apply Whole.drew)
           · repeat (first | exact hsA | with_reducible apply src_alloc | refine hkB.src ?_ (fun _ _ h => h))
           · repeat (first | exact hsB | with_reducible apply src_alloc | refine hkA.src ?_ (fun _ _ h => h))
           rintro e wU ⟨AU, cU, rfl, hsU, hkU⟩; have hkx : Kp (fun _ => False) w5 wU := Kp.trans (by ((repeat (first | assumption | (with_reducible exact Kp.refl _ _) | with_reducible apply Kp.alloc | with_reducible apply Kp.drew)); done)) hkU; have hzU := hkx.size; (first | (have hbx : Whole wU _ 27 #[.slice none 0 0] := hkU.whole (by ((repeat (first | (with_reducible exact Whole.new _ _ _) | (with_reducible exact hbx) | with_reducible apply Whole.alloc | with_reducible apply Whole.drew)); done)) (fun h => h); have hbc := hbx.cell 0; have hbf := hbx.frozen 0; (try simp at hbc); (try simp at hbf)) | skip))
        | (go_at_call 12; refine (of_lit [-5, 4611686018427387903, 4611686018427387904] 3 rfl (by omega) LO (by rw [HO.out]; decide) (of_take _ (by simp)) ?_).mono ?_
           · repeat (first | (with_reducible exact whole_at _ _ rfl (by simp)) | with_reducible apply Whole.alloc | with_reducible apply Whole.drew | refine hkA.whole ?_ (fun h => h))
           rintro e wB ⟨vB, rfl, hsB, hkB⟩; have hkx : Kp (fun _ => False) w5 wB := Kp.trans (by ((repeat (first | assumption | (with_reducible exact Kp.refl _ _) | with_reducible apply Kp.alloc | with_reducible apply Kp.drew)); done)) hkB; have hzB := hkx.size; (first | (have hbx : Whole wB _ 27 #[.slice none 0 0] := hkB.whole (by ((repeat (first | (with_reducible exact Whole.new _ _ _) | (with_reducible exact hbx) | with_reducible apply Whole.alloc | with_reducible apply Whole.drew)); done)) (fun h => h); have hbc := hbx.cell 0; have hbf := hbx.frozen 0; (try simp at hbc); (try simp at hbf)) | skip)))
    all_goals
      go_wp2_with fail
      go_meet
      case rel =>
        refine ⟨_, rfl, ?_, ?_, ?_⟩
        · first
            | (with_reducible exact HasSet.copy hsU)
            | (refine set_fin (u := .slice none 0 0) ?_ ?_
               · repeat (first | (with_reducible exact Whole.new _ _ _) | (with_reducible exact hbx) | (simp only [World.size_alloc] at hbx; with_reducible exact hbx) | with_reducible apply Whole.alloc)
               · repeat (first | (with_reducible exact hsU) | with_reducible apply src_alloc))
        · first | omega | (dsimp only; omega) | (simp; done) | (simp; omega)
        · (repeat (first | assumption | (with_reducible exact Kp.refl _ _) | with_reducible apply Kp.alloc | with_reducible apply Kp.drew | refine Kp.set ?_ (.inr (by first | (dsimp only; omega) | (simp; done) | (simp; omega))) _))
  case rest =>
  obtain ⟨b3, rfl, hU5, hb3, hk6⟩ := hcut
  generalize wc = w6 at *
  have hbl := hU5.lt
  have hk6s := hk6.size
  have hS6 := HS.out.no hk6
  have hT6 := HT.out.no hk6
  have hk7 := Hk.out.trans hk6
  have HS6 := Lib.hid hS6
  have HT6 := Lib.hid hT6
  have HU6 := Lib.hid hU5
  have hb3s : s < b3 := by omega
  have hb3t : t < b3 := by omega
  have Hk7 := Lib.hid hk7
  clear hS6 hT6 hU5 hk6 hk7 HS HT Hk P3 P4 q3 q4
  have hZ := HasSet.new w6
  have hk8 : Kp (fun _ => False) w6 (w6.alloc (.cells #[.slice none 0 0] 27)) := (Kp.refl _ w6).alloc _
  have hS7 := HS6.out.no hk8
  have hT7 := HT6.out.no hk8
  have hU7 := HU6.out.no hk8
  have hk9 := Hk7.out.trans hk8
  clear HS6 HT6 HU6 Hk7 hk8
  go_upto_region 7 with (fail)
  generalize w6.alloc (.cells #[.slice none 0 0] 27) = w7 at *
  generalize w6.heap.size = z at *
  have hzl := hZ.lt
  have hzs : s < z := by omega
  have hzt : t < z := by omega
  have hz3 : b3 < z := by omega
  have hzW : W.heap.size ≤ z := by omega
  have NU : Hid (NormL EndS LU) := Lib.hid (by rw [HU.out]; exact ⟨by decide, by decide⟩)
  have GS7 := Lib.hid hS7
  have GT7 := Lib.hid hT7
  have GU7 := Lib.hid hU7
  have GZ7 := Lib.hid hZ
  have GK7 := Lib.hid hk9
  clear hS7 hT7 hU7 hZ hk9
  have hadd := f_add GZ7.out (by decide) 9 9
  rw [show addS [] 9 9 = [] by decide] at hadd
  have Hadd := Lib.hid hadd
  clear hadd
  go_wp2_with fail
  with_reducible refine (Hadd.out).mono ?_
  rintro e w8 ⟨rfl, hZ, hk⟩
  have GS8 := Lib.hid (GS7.out.other GZ7.out hk (by omega))
  have GT8 := Lib.hid (GT7.out.other GZ7.out hk (by omega))
  have GU8 := Lib.hid (GU7.out.other GZ7.out hk (by omega))
  have GK8 := Lib.hid ((GK7.out.no.trans hk).mono (S' := fun _ => False) (fun k hk e => by omega))
  have GZ8 := Lib.hid hZ
  clear hZ hk Hadd GS7 GT7 GU7 GK7 GZ7
  have hadd := f_add GZ8.out (by decide) (-3) 2
  rw [show addS [] (-3) 2 = kZ by decide] at hadd
  have Hadd := Lib.hid hadd
  clear hadd
  go_wp2_with fail
  with_reducible refine (Hadd.out).mono ?_
  rintro e w9 ⟨rfl, hZ, hk⟩
  have GS9 := Lib.hid (GS8.out.other GZ8.out hk (by omega))
  have GT9 := Lib.hid (GT8.out.other GZ8.out hk (by omega))
  have GU9 := Lib.hid (GU8.out.other GZ8.out hk (by omega))
  have GK9 := Lib.hid ((GK8.out.no.trans hk).mono (S' := fun _ => False) (fun k hk e => by omega))
  have GZ9 := Lib.hid hZ
  clear hZ hk Hadd GS8 GT8 GU8 GK8 GZ8
  have hadd := f_drop GZ9.out (by decide) (-9) 1
  rw [show dropS kZ (-9) 1 = kY by decide] at hadd
  have Hadd := Lib.hid hadd
  clear hadd
  go_wp2_with fail
  with_reducible refine (Hadd.out).mono ?_
  rintro e w10 ⟨rfl, hZ, hk⟩
  have GS10 := Lib.hid (GS9.out.other GZ9.out hk (by omega))
  have GT10 := Lib.hid (GT9.out.other GZ9.out hk (by omega))
  have GU10 := Lib.hid (GU9.out.other GZ9.out hk (by omega))
  have GK10 := Lib.hid ((GK9.out.no.trans hk).mono (S' := fun _ => False) (fun k hk e => by omega))
  have GZ10 := Lib.hid hZ
  clear hZ hk Hadd GS9 GT9 GU9 GK9 GZ9
  have hc := known_c w10
  have Hc := Lib.hid hc
  clear hc
  go_wp2_with fail
  with_reducible refine (Hc.out).mono ?_
  rintro e w11 ⟨rfl, hk⟩
  have GS11 := Lib.hid (GS10.out.no hk)
  have GT11 := Lib.hid (GT10.out.no hk)
  have GU11 := Lib.hid (GU10.out.no hk)
  have GZ11 := Lib.hid (GZ10.out.no hk)
  have GK11 := Lib.hid (GK10.out.trans hk)
  clear hk Hc GS10 GT10 GU10 GK10 GZ10
  have hc := f_spans GS11.out (by omega)
  have Hc := Lib.hid hc
  clear hc
  go_wp2_with fail
  with_reducible refine (Hc.out).mono ?_
  rintro e w12 ⟨Asp, rfl, hrsp, hk⟩
  have GS12 := Lib.hid (GS11.out.no hk)
  have GT12 := Lib.hid (GT11.out.no hk)
  have GU12 := Lib.hid (GU11.out.no hk)
  have GZ12 := Lib.hid (GZ11.out.no hk)
  have GK12 := Lib.hid (GK11.out.trans hk)
  clear hk Hc GS11 GT11 GU11 GK11 GZ11
  have hc := same_lit (hrsp.src (encP_one _)) (by omega) [((1 : Int), (4 : Int)), ((7 : Int), (8 : Int))] 2 rfl (by omega) #[.int .i64 1, .int .i64 4, .int .i64 7, .int .i64 8] rfl
  rw [show decide (LA = [((1 : Int), (4 : Int)), ((7 : Int), (8 : Int))]) = true from decide_eq_true HA.out] at hc
  clear hrsp
  have Hc := Lib.hid hc
  clear hc
  go_wp2_with fail
  with_reducible refine (Hc.out).mono ?_
  rintro e w13 ⟨rfl, hk⟩
  have GS13 := Lib.hid (GS12.out.no hk)
  have GT13 := Lib.hid (GT12.out.no hk)
  have GU13 := Lib.hid (GU12.out.no hk)
  have GZ13 := Lib.hid (GZ12.out.no hk)
  have GK13 := Lib.hid (GK12.out.trans hk)
  clear hk Hc GS12 GT12 GU12 GK12 GZ12
  have hc := f_spans GT13.out (by omega)
  have Hc := Lib.hid hc
  clear hc
  go_wp2_with fail
  with_reducible refine (Hc.out).mono ?_
  rintro e w14 ⟨Asp, rfl, hrsp, hk⟩
  have GS14 := Lib.hid (GS13.out.no hk)
  have GT14 := Lib.hid (GT13.out.no hk)
  have GU14 := Lib.hid (GU13.out.no hk)
  have GZ14 := Lib.hid (GZ13.out.no hk)
  have GK14 := Lib.hid (GK13.out.trans hk)
  clear hk Hc GS13 GT13 GU13 GK13 GZ13
  have hc := same_lit (hrsp.src (encP_one _)) (by omega) [((1 : Int), (2 : Int)), ((3 : Int), (8 : Int))] 2 rfl (by omega) #[.int .i64 1, .int .i64 2, .int .i64 3, .int .i64 8] rfl
  rw [show decide (LC = [((1 : Int), (2 : Int)), ((3 : Int), (8 : Int))]) = true from decide_eq_true HC.out] at hc
  clear hrsp
  have Hc := Lib.hid hc
  clear hc
  go_wp2_with fail
  with_reducible refine (Hc.out).mono ?_
  rintro e w15 ⟨rfl, hk⟩
  have GS15 := Lib.hid (GS14.out.no hk)
  have GT15 := Lib.hid (GT14.out.no hk)
  have GU15 := Lib.hid (GU14.out.no hk)
  have GZ15 := Lib.hid (GZ14.out.no hk)
  have GK15 := Lib.hid (GK14.out.trans hk)
  clear hk Hc GS14 GT14 GU14 GK14 GZ14
  have hc := f_spans GU15.out (by omega)
  have Hc := Lib.hid hc
  clear hc
  go_wp2_with fail
  with_reducible refine (Hc.out).mono ?_
  rintro e w16 ⟨Asp, rfl, hrsp, hk⟩
  have GS16 := Lib.hid (GS15.out.no hk)
  have GT16 := Lib.hid (GT15.out.no hk)
  have GU16 := Lib.hid (GU15.out.no hk)
  have GZ16 := Lib.hid (GZ15.out.no hk)
  have GK16 := Lib.hid (GK15.out.trans hk)
  clear hk Hc GS15 GT15 GU15 GK15 GZ15
  have hc := same_lit (hrsp.src (encP_one _)) (by omega) [((1 : Int), (8 : Int)), ((4611686018427387903 : Int), (4611686018427387904 : Int))] 2 rfl (by omega) #[.int .i64 1, .int .i64 8, .int .i64 4611686018427387903, .int .i64 4611686018427387904] rfl
  rw [show decide (LU = [((1 : Int), (8 : Int)), ((4611686018427387903 : Int), (4611686018427387904 : Int))]) = true from decide_eq_true HU.out] at hc
  clear hrsp
  have Hc := Lib.hid hc
  clear hc
  go_wp2_with fail
  with_reducible refine (Hc.out).mono ?_
  rintro e w17 ⟨rfl, hk⟩
  have GS17 := Lib.hid (GS16.out.no hk)
  have GT17 := Lib.hid (GT16.out.no hk)
  have GU17 := Lib.hid (GU16.out.no hk)
  have GZ17 := Lib.hid (GZ16.out.no hk)
  have GK17 := Lib.hid (GK16.out.trans hk)
  clear hk Hc GS16 GT16 GU16 GK16 GZ16
  have hc := f_count GU17.out NU.out (by omega)
  rw [show countL LU = 8 by rw [HU.out]; decide] at hc
  have Hc := Lib.hid hc
  clear hc
  go_wp2_with fail
  with_reducible refine (Hc.out).mono ?_
  rintro e w18 ⟨rfl, hk⟩
  have GS18 := Lib.hid (GS17.out.no hk)
  have GT18 := Lib.hid (GT17.out.no hk)
  have GU18 := Lib.hid (GU17.out.no hk)
  have GZ18 := Lib.hid (GZ17.out.no hk)
  have GK18 := Lib.hid (GK17.out.trans hk)
  clear hk Hc GS17 GT17 GU17 GK17 GZ17
  obtain ⟨LG, hLG⟩ : ∃ L, L = kG := ⟨_, rfl⟩
  have nG : LG.length ≤ 4 := by subst hLG; decide
  have HG := Lib.hid hLG
  clear hLG
  have hc := f_gaps GS18.out (by omega) 0 9
  rw [show gapL LA (bringS 0) (bringS 9) = LG by rw [HA.out, HG.out]; decide] at hc
  have Hc := Lib.hid hc
  clear hc
  go_wp2_with fail
  with_reducible refine (Hc.out).mono ?_
  rintro e w19 ⟨Asp, ng, hng, _, rfl, hrsp, hk⟩
  subst hng
  have GS19 := Lib.hid (GS18.out.no hk)
  have GT19 := Lib.hid (GT18.out.no hk)
  have GU19 := Lib.hid (GU18.out.no hk)
  have GZ19 := Lib.hid (GZ18.out.no hk)
  have GK19 := Lib.hid (GK18.out.trans hk)
  clear hk Hc GS18 GT18 GU18 GK18 GZ18
  have hc := same_lit (hrsp.src (encP_one _)) (by omega) [((0 : Int), (1 : Int)), ((4 : Int), (7 : Int)), ((8 : Int), (9 : Int))] 3 rfl (by omega) #[.int .i64 0, .int .i64 1, .int .i64 4, .int .i64 7, .int .i64 8, .int .i64 9] rfl
  rw [show decide (LG = [((0 : Int), (1 : Int)), ((4 : Int), (7 : Int)), ((8 : Int), (9 : Int))]) = true from decide_eq_true HG.out] at hc
  clear hrsp
  have Hc := Lib.hid hc
  clear hc
  go_wp2_with fail
  with_reducible refine (Hc.out).mono ?_
  rintro e w20 ⟨rfl, hk⟩
  have GS20 := Lib.hid (GS19.out.no hk)
  have GT20 := Lib.hid (GT19.out.no hk)
  have GU20 := Lib.hid (GU19.out.no hk)
  have GZ20 := Lib.hid (GZ19.out.no hk)
  have GK20 := Lib.hid (GK19.out.trans hk)
  clear hk Hc GS19 GT19 GU19 GK19 GZ19
  have hc := f_all GS20.out (by omega) 1 4
  rw [show (gapL LA (bringS 1) (bringS 4)).isEmpty = true by rw [HA.out]; decide] at hc
  have Hc := Lib.hid hc
  clear hc
  go_wp2_with fail
  with_reducible refine (Hc.out).mono ?_
  rintro e w21 ⟨rfl, hk⟩
  have GS21 := Lib.hid (GS20.out.no hk)
  have GT21 := Lib.hid (GT20.out.no hk)
  have GU21 := Lib.hid (GU20.out.no hk)
  have GZ21 := Lib.hid (GZ20.out.no hk)
  have GK21 := Lib.hid (GK20.out.trans hk)
  clear hk Hc GS20 GT20 GU20 GK20 GZ20
  have hc := f_all GS21.out (by omega) 1 5
  rw [show (gapL LA (bringS 1) (bringS 5)).isEmpty = false by rw [HA.out]; decide] at hc
  have Hc := Lib.hid hc
  clear hc
  go_wp2_with fail
  with_reducible refine (Hc.out).mono ?_
  rintro e w22 ⟨rfl, hk⟩
  have GS22 := Lib.hid (GS21.out.no hk)
  have GT22 := Lib.hid (GT21.out.no hk)
  have GU22 := Lib.hid (GU21.out.no hk)
  have GZ22 := Lib.hid (GZ21.out.no hk)
  have GK22 := Lib.hid (GK21.out.trans hk)
  clear hk Hc GS21 GT21 GU21 GK21 GZ21
  have hc := f_all GS22.out (by omega) 5 5
  rw [show (gapL LA (bringS 5) (bringS 5)).isEmpty = true by rw [HA.out]; decide] at hc
  have Hc := Lib.hid hc
  clear hc
  go_wp2_with fail
  with_reducible refine (Hc.out).mono ?_
  rintro e w23 ⟨rfl, hk⟩
  have GS23 := Lib.hid (GS22.out.no hk)
  have GT23 := Lib.hid (GT22.out.no hk)
  have GU23 := Lib.hid (GU22.out.no hk)
  have GZ23 := Lib.hid (GZ22.out.no hk)
  have GK23 := Lib.hid (GK22.out.trans hk)
  clear hk Hc GS22 GT22 GU22 GK22 GZ22
  have hc := f_all GS23.out (by omega) 6 2
  rw [show (gapL LA (bringS 6) (bringS 2)).isEmpty = true by rw [HA.out]; decide] at hc
  have Hc := Lib.hid hc
  clear hc
  go_wp2_with fail
  with_reducible refine (Hc.out).mono ?_
  rintro e w24 ⟨rfl, hk⟩
  have GS24 := Lib.hid (GS23.out.no hk)
  have GT24 := Lib.hid (GT23.out.no hk)
  have GU24 := Lib.hid (GU23.out.no hk)
  have GZ24 := Lib.hid (GZ23.out.no hk)
  have GK24 := Lib.hid (GK23.out.trans hk)
  clear hk Hc GS23 GT23 GU23 GK23 GZ23
  have hc := f_first GS24.out (by omega) (1) 1 (by decide)
  rw [show firstL LA 1 = 4 by rw [HA.out]; decide] at hc
  have Hc := Lib.hid hc
  clear hc
  go_wp2_with fail
  with_reducible refine (Hc.out).mono ?_
  rintro e w25 ⟨rfl, hk⟩
  have GS25 := Lib.hid (GS24.out.no hk)
  have GT25 := Lib.hid (GT24.out.no hk)
  have GU25 := Lib.hid (GU24.out.no hk)
  have GZ25 := Lib.hid (GZ24.out.no hk)
  have GK25 := Lib.hid (GK24.out.trans hk)
  clear hk Hc GS24 GT24 GU24 GK24 GZ24
  have hc := f_first GS25.out (by omega) (4) 4 (by decide)
  rw [show firstL LA 4 = 4 by rw [HA.out]; decide] at hc
  have Hc := Lib.hid hc
  clear hc
  go_wp2_with fail
  with_reducible refine (Hc.out).mono ?_
  rintro e w26 ⟨rfl, hk⟩
  have GS26 := Lib.hid (GS25.out.no hk)
  have GT26 := Lib.hid (GT25.out.no hk)
  have GU26 := Lib.hid (GU25.out.no hk)
  have GZ26 := Lib.hid (GZ25.out.no hk)
  have GK26 := Lib.hid (GK25.out.trans hk)
  clear hk Hc GS25 GT25 GU25 GK25 GZ25
  have hc := f_first GS26.out (by omega) (-2) 0 (by decide)
  rw [show firstL LA 0 = 0 by rw [HA.out]; decide] at hc
  have Hc := Lib.hid hc
  clear hc
  go_wp2_with fail
  with_reducible refine (Hc.out).mono ?_
  rintro e w27 ⟨rfl, hk⟩
  have GS27 := Lib.hid (GS26.out.no hk)
  have GT27 := Lib.hid (GT26.out.no hk)
  have GU27 := Lib.hid (GU26.out.no hk)
  have GZ27 := Lib.hid (GZ26.out.no hk)
  have GK27 := Lib.hid (GK26.out.trans hk)
  clear hk Hc GS26 GT26 GU26 GK26 GZ26
  have hc := f_spans GZ27.out (by decide)
  have Hc := Lib.hid hc
  clear hc
  go_wp2_with fail
  with_reducible refine (Hc.out).mono ?_
  rintro e w28 ⟨Asp, rfl, hrsp, hk⟩
  have GS28 := Lib.hid (GS27.out.no hk)
  have GT28 := Lib.hid (GT27.out.no hk)
  have GU28 := Lib.hid (GU27.out.no hk)
  have GZ28 := Lib.hid (GZ27.out.no hk)
  have GK28 := Lib.hid (GK27.out.trans hk)
  clear hk Hc GS27 GT27 GU27 GK27 GZ27
  have hc := same_lit (hrsp.src (encP_one _)) (by decide) [((1 : Int), (2 : Int))] 1 rfl (by omega) #[.int .i64 1, .int .i64 2] rfl
  rw [show decide (kY = [((1 : Int), (2 : Int))]) = true from decide_eq_true rfl] at hc
  clear hrsp
  have Hc := Lib.hid hc
  clear hc
  go_wp2_with fail
  with_reducible refine (Hc.out).mono ?_
  rintro e w29 ⟨rfl, hk⟩
  have GS29 := Lib.hid (GS28.out.no hk)
  have GT29 := Lib.hid (GT28.out.no hk)
  have GU29 := Lib.hid (GU28.out.no hk)
  have GZ29 := Lib.hid (GZ28.out.no hk)
  have GK29 := Lib.hid (GK28.out.trans hk)
  clear hk Hc GS28 GT28 GU28 GK28 GZ28
  have hc := f_has GZ29.out (by decide) (1)
  rw [show kY.any (hasP (1)) = true by decide] at hc
  have Hc := Lib.hid hc
  clear hc
  go_wp2_with fail
  with_reducible refine (Hc.out).mono ?_
  rintro e w30 ⟨rfl, hk⟩
  have GS30 := Lib.hid (GS29.out.no hk)
  have GT30 := Lib.hid (GT29.out.no hk)
  have GU30 := Lib.hid (GU29.out.no hk)
  have GZ30 := Lib.hid (GZ29.out.no hk)
  have GK30 := Lib.hid (GK29.out.trans hk)
  clear hk Hc GS29 GT29 GU29 GK29 GZ29
  have hc := f_has GZ30.out (by decide) (-1)
  rw [show kY.any (hasP (-1)) = false by decide] at hc
  have Hc := Lib.hid hc
  clear hc
  go_wp2_with fail
  with_reducible refine (Hc.out).mono ?_
  rintro e w31 ⟨rfl, hk⟩
  have GS31 := Lib.hid (GS30.out.no hk)
  have GT31 := Lib.hid (GT30.out.no hk)
  have GU31 := Lib.hid (GU30.out.no hk)
  have GZ31 := Lib.hid (GZ30.out.no hk)
  have GK31 := Lib.hid (GK30.out.trans hk)
  clear hk Hc GS30 GT30 GU30 GK30 GZ30
  go_wp2_with fail
  go_ret
  exact ⟨rfl, GK31.out.below (Nat.le_refl _) (fun _ h => h.elim)⟩
end Go.Proofs.Ytdcbgjbhoejpnaa
