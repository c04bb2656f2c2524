-- Written for this claim by a program of this session (wip/), out of the translation's own print: Lean checks it
import Derived.Test.YtnloofhpdlggnaaPRefcountLargex0
import Derived.WalkSpells
import Derived.Deep.LoopGhost
import Derived.Lib.SliceRun
namespace Go.Proofs.Ytnloofhpdlggnaa.PRefcountLarge
open Go.RowKit Go.Proofs.YtnloofhpdlggnaaW.PrintWords Go.Proofs.YtnloofhpdlggnaaW.PrintLast Go.Proofs.YtnloofhpdlggnaaW.PrintMore
attribute [local go_sem] max2_int min2_int max_two min_two max_three min_three max_four min_four   -- for this text's walks alone
set_option linter.unusedVariables false
set_option linter.unusedSimpArgs false

-- NOT PRINTED: function 44 (api_Extent_bool)

-- MAKES
/-- Does an extent lie in n slots. -/
def okR (n x1 x2 : Int) : Bool := decide (x1 ≥ 1) && decide (x2 ≥ 0) && decide (x2 ≤ n) && decide (x1 ≤ wrap64 (n - x2))
set_option maxHeartbeats 2000000 in
theorem perm_step (g : Nat) (A0 : Option Addr) (m c0 : Nat) (b : Bool) (x0 x1 x2 : Int) (w : World) (hg : g < w.heap.size) (hx : w.cell? ⟨g, 0, none⟩ = some (.slice A0 m c0)) :
  Calls Try.prog 45 #[.bool b, .agg #[.int .i64 x0, .int .i64 x1, .int .i64 x2], .pointer (some ⟨g, 0, none⟩)] w fun e w' => e = .returned (.bool (b && okR (m : Int) x1 x2)) ∧ Below w.heap.size w w' := by
 have hu41 := Try.underlying41
 have hu27 := Try.underlying27
 have hne : ¬ (g = w.heap.size) := by omega
 cases b with
 | false =>
  go_enter Try.func45, Try.ntmps45
  go_wp2
  go_ret
  exact ⟨rfl, (Below.refl _ _).alloc (Nat.le_refl _) _⟩
 | true =>
  rw [Bool.true_and]
  by_cases h1 : x1 ≥ 1
  ·
   by_cases h2 : x2 ≥ 0
   ·
    by_cases h3 : x2 ≤ (m : Int)
    ·
     have e : okR (m : Int) x1 x2 = decide (x1 ≤ wrap64 ((m : Int) - x2)) := by simp [okR, h1, h2, h3]
     rw [e]
     go_enter Try.func45, Try.ntmps45
     go_wp2
     go_ret
     exact ⟨rfl, (Below.refl _ _).alloc (Nat.le_refl _) _⟩
    ·
     have e : okR (m : Int) x1 x2 = false := by simp [okR, h3]
     rw [e]
     go_enter Try.func45, Try.ntmps45
     go_wp2
     go_ret
     exact ⟨rfl, (Below.refl _ _).alloc (Nat.le_refl _) _⟩
   ·
    have e : okR (m : Int) x1 x2 = false := by simp [okR, h2]
    rw [e]
    go_enter Try.func45, Try.ntmps45
    go_wp2
    go_ret
    exact ⟨rfl, (Below.refl _ _).alloc (Nat.le_refl _) _⟩
  ·
   have e : okR (m : Int) x1 x2 = false := by simp [okR, h1]
   rw [e]
   go_enter Try.func45, Try.ntmps45
   go_wp2
   go_ret
   exact ⟨rfl, (Below.refl _ _).alloc (Nat.le_refl _) _⟩
theorem pcells_at {w : World} {A : Option Addr} {n : Nat} {l : List S41} (h : Kd.C k41 w A n l) (hn : n = l.length) : ∀ j (hj : j < l.length), ∃ ad, A = some ad ∧ w.cell? (ad.add (j * 3)) = some (.int .i64 (l[j]).f0) ∧ w.cell? ⟨(ad.add (j * 3)).block, (ad.add (j * 3)).off + 1, none⟩ = some (.int .i64 (l[j]).f1) ∧ w.cell? ⟨(ad.add (j * 3)).block, (ad.add (j * 3)).off + 2, none⟩ = some (.int .i64 (l[j]).f2) := by
 intro j hj
 obtain ⟨ad, e, c0, c1, c2⟩ := at_T41 h (j : Int) (by omega) (by omega)
 have hr : rd_T41 l (j : Int) = l[j] := by unfold rd_T41; rw [List.getD_eq_getElem?_getD, show (j : Int).toNat = j from by omega, List.getElem?_eq_getElem hj]; rfl
 rw [hr, show (j : Int).toNat = j from by omega] at c0 c1 c2
 exact ⟨ad, e, c0, c1, c2⟩
set_option maxHeartbeats 2000000 in
theorem perm_fold (g : Nat) (A0 : Option Addr) (m c0 : Nat) (A : Option Addr) (c : Nat) (l : List S41) (w : World) (hg : g < w.heap.size) (hx : w.cell? ⟨g, 0, none⟩ = some (.slice A0 m c0)) (hC : Kd.C k41 w A l.length l) (hl : l.length ≤ 1000000000) :
  Calls Try.prog 44 #[.slice A l.length c, .bool true, .func (.func 45) #[] #[.pointer (some ⟨g, 0, none⟩)]] w fun e w' => e = .returned (.bool (l.foldl (fun b x => b && okR (m : Int) x.f1 x.f2) true)) ∧ Below w.heap.size w w' := by
 have hu41 := Try.underlying41
 have HC := Aside0.mk hC
 have HG := Aside0.mk hg
 have HX := Aside0.mk hx
 clear hC hg hx
 obtain ⟨n, hn⟩ : ∃ n, n = l.length := ⟨_, rfl⟩
 rw [← hn] at hl ⊢
 have HN := Aside0.mk hn
 clear hn
 obtain ⟨stp, hstp⟩ : ∃ stp : Bool → S41 → Bool, stp = fun b x => b && okR (m : Int) x.f1 x.f2 := ⟨_, rfl⟩
 rw [← hstp]
 have HS := Aside0.mk hstp
 clear hstp
 go_enter Try.func44, Try.ntmps44
 go_wp2
 go_loopg [1, 8, 11] n (fun gg v1 _ v11 wr => ∃ kk : Nat, kk ≤ n ∧ n - kk ≤ gg ∧ v1 = .bool ((l.take kk).foldl stp true) ∧ v11 = .int .i64 kk ∧ Aside0 (Below w.heap.size w wr))
 case atStart => exact ⟨0, Nat.zero_le _, by omega, rfl, rfl, ⟨Below.refl _ w⟩⟩
 case round =>
  obtain ⟨kk, hkk, hgg, rfl, rfl, BW⟩ := hrel
  by_cases hlt : kk < n
  ·
   have hltz : (kk : Int) < (n : Int) := by omega
   have hkl : kk < l.length := by rw [← HN.out]; exact hlt
   have hC1 := Kd.C_below HC.out BW.out
   obtain ⟨ad, e, d0, d1, d2⟩ := pcells_at hC1 rfl kk hkl
   cases e
   have htk : (l.take (kk + 1)).foldl stp true = ((l.take kk).foldl stp true && okR (m : Int) (l[kk]).f1 (l[kk]).f2) := by
    rw [List.take_succ_eq_append_getElem hkl, List.foldl_append, HS.out]
    rfl
   clear hC1
   generalize l[kk] = y at d0 d1 d2 htk
   obtain ⟨y0, y1, y2⟩ := y
   generalize (l.take kk).foldl stp true = r at htk ⊢
   have hg1 : g < wr.heap.size := Nat.lt_of_lt_of_le HG.out BW.out.size
   have hx1 : wr.cell? ⟨g, 0, none⟩ = some (.slice A0 m c0) := (BW.out.cell (p := ⟨g, 0, none⟩) HG.out).trans HX.out
   have HA1 := Aside0.mk (fun o => perm_step g A0 m c0 r y0 y1 y2 (wr.alloc o) (by simp; omega) ((((Below.refl wr.heap.size wr).alloc (Nat.le_refl _) o).cell (p := ⟨g, 0, none⟩) hg1).trans hx1))
   have HTK := Aside0.mk htk
   clear htk hx1
   go_wp2_with fail
   refine (HA1.out _).mono ?_
   clear d0 d1 d2
   rintro e w' ⟨rfl, hb'⟩
   have HBB := Aside0.mk hb'
   clear hb'
   go_wp2_with fail
   go_roundg (n - (kk + 1))
   case measure => omega
   case rel => exact ⟨kk + 1, by omega, by omega, by rw [HTK.out], by go_num, ⟨(BW.out.alloc BW.out.size _).trans (HBB.out.mono (by have := BW.out.size; simp; omega))⟩⟩
  ·
   have hkn : kk = n := by omega
   subst hkn
   have htk : (l.take kk).foldl stp true = l.foldl stp true := by rw [HN.out, List.take_length]
   rw [htk]
   go_wp2
   go_ret
   exact ⟨rfl, BW.out⟩
def refcount_Counts_permitted.f (l0_0 : List Int) (l1 : List S41) : Option Bool := if l1.length ≤ 1000000000 then some (l1.foldl (fun b x => b && okR (l0_0.length : Int) x.f1 x.f2) true) else none
set_option maxHeartbeats 1000000 in
theorem refcount_Counts_permitted.calls (A0_0 : Option Addr) (c0_0 : Nat) (l0_0 : List Int) (A1 : Option Addr) (c1 : Nat) (l1 : List S41) (r : Bool) (w : World) (hr0_0 : Kd.C (Kd.int .i64) w A0_0 l0_0.length l0_0) (hc0_0 : l0_0.length ≤ c0_0) (hr1 : Kd.C k41 w A1 l1.length l1) (hc1 : l1.length ≤ c1) (h : refcount_Counts_permitted.f l0_0 l1 = some r) :
  Calls Try.prog 28 #[.agg #[.slice A0_0 l0_0.length c0_0], .slice A1 l1.length c1] w fun e w' => e = .returned (.bool r) ∧ Below w.heap.size w w' := by
 unfold refcount_Counts_permitted.f at h
 split at h
 ·
  rename_i hl
  obtain rfl := Option.some.inj h
  have hu27 := Try.underlying27
  have HH := Aside0.mk (fun o (he : w.heap.size < (w.alloc o).heap.size ∧ (w.alloc o).cell? ⟨w.heap.size, 0, none⟩ = some (.slice A0_0 l0_0.length c0_0)) => perm_fold w.heap.size A0_0 l0_0.length c0_0 A1 c1 l1 (w.alloc o) he.1 he.2 (Kd.C_alloc hr1 o) hl)
  clear hr0_0 hr1 h hl
  go_enter Try.func28, Try.ntmps28
  go_wp2_with fail
  refine (HH.out _ ⟨by simp, by rw [World.cell?_alloc_new]; rfl⟩).mono ?_
  rintro e w1 ⟨rfl, hb⟩
  have HB := Aside0.mk hb
  clear hb
  go_wp2_with fail
  go_ret
  exact ⟨rfl, ((Below.refl _ _).alloc (Nat.le_refl _) _).trans (HB.out.mono (by simp))⟩
 ·
  cases h

/-! ### refcount_Counts_changed: function 29 -/
mutual
def refcount_Counts_changed.l0 : Nat → Int → List Int → List (S41) → Int → Int → Option (List Int)
 | 0, _, _, _, _, _ => none
 | k + 1, x2, x7, x19, x20, x21 => if x21 < x20 then (if 0 ≤ x21 then (if x21 < (x19.length : Int) then (refcount_Counts_changed.l1 k x2 x7 ((rd_T41 x19 x21).f2) x19 x20 x21 ((rd_T41 x19 x21).f0) ((rd_T41 x19 x21).f1) ((rd_T41 x19 x21).f2)) else (none)) else (none)) else (some x7)
def refcount_Counts_changed.l1 : Nat → Int → List Int → Int → List (S41) → Int → Int → Int → Int → Int → Option (List Int)
 | 0, _, _, _, _, _, _, _, _, _ => none
 | k + 1, x2, x7, x10, x19, x20, x21, x111000, x111001, x111002 => if x10 < (wrap64 (x111002 + x111001)) then (if 0 ≤ x10 then (if x10 < (x7.length : Int) then (refcount_Counts_changed.l1 k x2 (x7.set (x10 : Int).toNat (wrap64 ((rd x7 x10) + x2))) (wrap64 (x10 + 1)) x19 x20 x21 x111000 x111001 x111002) else (none)) else (none)) else (refcount_Counts_changed.l0 k x2 x7 x19 x20 (wrap64 (x21 + 1)))
end
def refcount_Counts_changed.f (k : Nat) (l0_0 : List Int) (l1 : List (S41)) (a2 : Int) : Option (List Int) := (some (([] : List Int) : List Int)).bind fun y103 => (if y103.length + l0_0.length < 17592186044416 then (refcount_Counts_changed.l0 k a2 (y103 ++ l0_0) l1 (l1.length : Int) 0) else (none))
theorem refcount_Counts_changed.mono_l : ∀ k, (∀ y0 y1 y2 y3 y4, LeO (refcount_Counts_changed.l0 k y0 y1 y2 y3 y4) (refcount_Counts_changed.l0 (k + 1) y0 y1 y2 y3 y4)) ∧ (∀ y0 y1 y2 y3 y4 y5 y6 y7 y8, LeO (refcount_Counts_changed.l1 k y0 y1 y2 y3 y4 y5 y6 y7 y8) (refcount_Counts_changed.l1 (k + 1) y0 y1 y2 y3 y4 y5 y6 y7 y8))
 | 0 => ⟨fun _ _ _ _ _ r h => by simp [refcount_Counts_changed.l0] at h, fun _ _ _ _ _ _ _ _ _ r h => by simp [refcount_Counts_changed.l1] at h⟩
 | k + 1 => by
  obtain ⟨ih0, ih1⟩ := refcount_Counts_changed.mono_l k
  refine ⟨?_, ?_⟩
  ·
   intro y0 y1 y2 y3 y4
   unfold refcount_Counts_changed.l0
   repeat' first
   | (with_reducible exact ih0 _ _ _ _ _)
   | (with_reducible exact ih1 _ _ _ _ _ _ _ _ _)
   | (with_reducible exact LeO.refl _)
   | (with_reducible exact LeO.none _)
   | (with_reducible refine LeO.ite ?_ ?_)
   | (with_reducible refine LeO.bind ?_ (fun _ => ?_))
   | exact ih0 _ _ _ _ _
   | exact ih1 _ _ _ _ _ _ _ _ _
   | exact LeO.none _
   | refine LeO.ite ?_ ?_
   | refine LeO.bind ?_ (fun _ => ?_)
  ·
   intro y0 y1 y2 y3 y4 y5 y6 y7 y8
   unfold refcount_Counts_changed.l1
   repeat' first
   | (with_reducible exact ih0 _ _ _ _ _)
   | (with_reducible exact ih1 _ _ _ _ _ _ _ _ _)
   | (with_reducible exact LeO.refl _)
   | (with_reducible exact LeO.none _)
   | (with_reducible refine LeO.ite ?_ ?_)
   | (with_reducible refine LeO.bind ?_ (fun _ => ?_))
   | exact ih0 _ _ _ _ _
   | exact ih1 _ _ _ _ _ _ _ _ _
   | exact LeO.none _
   | refine LeO.ite ?_ ?_
   | refine LeO.bind ?_ (fun _ => ?_)
theorem refcount_Counts_changed.mono : ∀ a0 a1 a2 k, LeO (refcount_Counts_changed.f k a0 a1 a2) (refcount_Counts_changed.f (k + 1) a0 a1 a2) := by
 intro a0 a1 a2 k
 obtain ⟨ih0, ih1⟩ := refcount_Counts_changed.mono_l k
 unfold refcount_Counts_changed.f
 repeat' first
   | (with_reducible exact ih0 _ _ _ _ _)
   | (with_reducible exact ih1 _ _ _ _ _ _ _ _ _)
   | (with_reducible exact LeO.refl _)
   | (with_reducible exact LeO.none _)
   | (with_reducible refine LeO.ite ?_ ?_)
   | (with_reducible refine LeO.bind ?_ (fun _ => ?_))
   | exact ih0 _ _ _ _ _
   | exact ih1 _ _ _ _ _ _ _ _ _
   | exact LeO.none _
   | refine LeO.ite ?_ ?_
   | refine LeO.bind ?_ (fun _ => ?_)
/-- copy of a whole row of numbers onto a row of one's own of the same length, as a run. -/
theorem copy_run {W : World} {base e : Nat} {ok : Nat → Prop} {v : Value} {ys : List Int} {A : Option Addr} (c t ty : Nat) (ht : Try.prog.underlying t = some (.slice e)) (hinfo : (Try.prog.info? e).map (·.size) = some 1)
    (HO : Kd.R (Kd.int .i64) e W base ok v (List.replicate ((ys.length : Int)).toNat 0)) (HR : Kd.C (Kd.int .i64) W A ys.length ys) :
    ∃ w1, (Builtin.copy_ #[t, t] ty #[v, .slice A ys.length c]).run Try.prog W = .ok (goInt ((ys.length : Nat) : Int)) w1 ∧ Kd.R (Kd.int .i64) e w1 base ok v ys ∧ W.grownBy w1 v.ownBlock := by
  have hR := Kd.reads_of_C (d := (0 : Int)) HR
  have hown := Kd.own_of_R HO
  have hz : (List.replicate ((ys.length : Int)).toNat (0 : Int)).length = ys.length := by simp
  rw [hz] at hown
  rcases Nat.eq_zero_or_pos ys.length with h0 | hp
  · have hn : ys = [] := List.eq_nil_of_length_eq_zero h0
    subst hn
    obtain ⟨A', c', hv⟩ := own_slice hown
    refine ⟨W, ?_, HO, World.grownBy.refl W _⟩
    rw [hv]
    exact run_copy_none W t t ty e A' A 0 c' 0 c ht hinfo rfl
  · obtain ⟨ad, hA, hc⟩ := hR.2.2 hp
    rcases hown.2 with ⟨_, hx0⟩ | ⟨g, cap, cur, hv, hb, hh, hnc, hcm, hcs, htake⟩
    · omega
    have hl : (ys.map (Value.int .i64)).length = ys.length := List.length_map _
    have hsrc : ∀ j u, (ys.map (Value.int .i64))[j]? = some u → W.cell? (ad.add j) = some u := by
      intro j u hu
      rw [List.getElem?_map] at hu
      obtain ⟨x, hx, rfl⟩ := Option.map_eq_some_iff.1 hu
      have hj : j < ys.length := by
        rcases Nat.lt_or_ge j ys.length with h | h
        · exact h
        · rw [List.getElem?_eq_none h] at hx; cases hx
      rw [hc j hj, List.getD_eq_getElem?_getD, hx]
      rfl
    have h1 : ∀ u ∈ ys.map (Value.int .i64), u.oneCell' = true := by
      intro u hu
      obtain ⟨x, _, rfl⟩ := List.mem_map.1 hu
      rfl
    have hr := run_copy_cells (P := Try.prog) W t t ty e g 0 ys.length cap ad ys.length c (ys.map (Value.int .i64)) ht hinfo (by rw [hl]; exact (Nat.min_self _).symm) hsrc
      (fun j hj => by rw [cell_of_row W g _ cur e (0, 0) hh]; simp; rw [hl] at hj; omega) (fun j _ => blk_frozen hh _) h1
    obtain ⟨cur', h3, h4, h5⟩ := setCells_row (ys.map (Value.int .i64)) 0 W cur hh (by rw [hl]; omega)
    obtain ⟨s1, s2, s3, s4⟩ := setCells_same g (ys.map (Value.int .i64)) 0 W
    refine ⟨_, by rw [hv, hA, hr, hl], Kd.R_of_own ⟨by simp [encs], .inr ⟨g, cap, cur', hv, hb, h3, hnc, hcm, by rw [h4, hcs], ?_⟩⟩ HO.1, ⟨s1, s2, s3, by rw [s4]; exact Nat.le_refl _, fun k _ hk => setCells_far _ _ k (fun he => hk (by rw [hv, he]; simp [Value.ownBlock]))⟩⟩
    rw [h5, List.take_zero, List.nil_append, Nat.mul_one, List.take_append_of_le_length (by rw [hl]; exact Nat.le_refl _), List.take_of_length_le (by rw [hl]; exact Nat.le_refl _)]
    rfl
set_option maxHeartbeats 8000000 in
set_option maxRecDepth 100000 in
theorem refcount_Counts_changed.calls (k : Nat) (A0_0 : Option Addr) (c0_0 : Nat) (l0_0 : List Int) (A1 : Option Addr) (c1 : Nat) (l1 : List (S41)) (a2 : Int) (r : List Int) (w : World) (hr0_0 : Kd.C (Kd.int .i64) w A0_0 l0_0.length l0_0) (hc0_0 : l0_0.length ≤ c0_0) (hr1 : Kd.C k41 w A1 l1.length l1) (hc1 : l1.length ≤ c1) (h : refcount_Counts_changed.f k l0_0 l1 a2 = some r) :
  Calls Try.prog 29 #[.agg #[.slice A0_0 l0_0.length c0_0], .slice A1 l1.length c1, .int .i64 a2] w fun e w' => ∃ v0_ : Value, e = .returned (.agg #[v0_]) ∧ Kd.R (Kd.int .i64) 3 w' w.heap.size (fun _ => True) v0_ r ∧ Below w.heap.size w w' := by
 have hu27 := Try.underlying27
 have hu41 := Try.underlying41
 have HR0_0 := Aside0.mk hr0_0
 have HC0_0 := Aside0.mk hc0_0
 clear hr0_0 hc0_0
 have HR1 := Aside0.mk hr1
 have HC1 := Aside0.mk hc1
 clear hr1 hc1
 have HB := Aside0.mk (Below.refl w.heap.size w)
 have H : ((some (([] : List Int) : List Int)).bind fun y103 => (if y103.length + l0_0.length < 17592186044416 then (refcount_Counts_changed.l0 k a2 (y103 ++ l0_0) l1 (l1.length : Int) 0) else (none))) = some r := h
 clear h
 obtain ⟨y103, hy103⟩ : ∃ y_ : List Int, y_ = (([] : List Int)) := ⟨_, rfl⟩
 replace H : (if y103.length + l0_0.length < 17592186044416 then (refcount_Counts_changed.l0 k a2 (y103 ++ l0_0) l1 (l1.length : Int) 0) else (none)) = some r := by first | (rw [hy103]; exact H) | exact H
 have Ny103 := Aside0.mk hy103
 clear hy103
 by_cases c4 : y103.length + l0_0.length < 17592186044416
 ·
  rw [if_pos c4] at H
  have LMc4 := Aside0.mk c4
  clear c4
  obtain ⟨y106, hy106⟩ : ∃ y_ : List Int, y_ = (y103 ++ l0_0) := ⟨_, rfl⟩
  replace H : (refcount_Counts_changed.l0 k a2 y106 l1 (l1.length : Int) 0) = some r := by first | (rw [hy106]; exact H) | exact H
  have Ny106 := Aside0.mk hy106
  clear hy106
  have H' := Aside0.mk H
  clear H
  go_enter Try.func29, Try.ntmps29
  go_wp2_with (first | ((with_reducible refine gate_dst (N := 3) rfl ?_); refine box_event ?hg (N := 3) ?hd (cs := #[.slice A0_0 l0_0.length c0_0]) (t := 27) ?hr ?_; (case hd => rfl); (case hg => rfl); (case hr => first | (go_simp; done) | (go_simp; rfl)); intro gb101 hg w5 hbox hb; have BK101 := Aside0.mk (hbox); have GW101 := Aside0.mk ((by rw [hg]; exact (below_size (bU HB.out)) : w.heap.size ≤ gb101)); have GE101 := Aside0.mk ((by rw [hg]; exact (below_size (bU HB.out)) : w.heap.size ≤ gb101)); replace HB := Aside0.mk (below_step (bU HB.out) hb); clear hb hbox hg) | ((with_reducible refine gate_dst (N := 6) rfl ?_); refine box_event ?hg (N := 6) ?hd (cs := #[.slice none 0 0]) (t := 27) ?hr ?_; (case hd => rfl); (case hg => rfl); (case hr => first | (go_simp; done) | (go_simp; rfl)); intro gb102 hg w6 hbox hb; have BK102 := Aside0.mk (hbox); have GW102 := Aside0.mk ((by rw [hg]; exact (below_size (by repeat (first | (with_reducible first | exact HB.out | apply below_alloc | apply pw_below_drewN | apply below_drew1 | refine below_set ?_ GE101.out) | exact HB.out))) : w.heap.size ≤ gb102)); have GE102 := Aside0.mk ((by rw [hg]; exact (below_size (by repeat (first | (with_reducible first | exact HB.out | apply below_alloc | apply pw_below_drewN | apply below_drew1 | refine below_set ?_ GE101.out) | exact HB.out))) : w.heap.size ≤ gb102)); replace HB := Aside0.mk (below_step (by repeat (first | (with_reducible first | exact HB.out | apply below_alloc | apply pw_below_drewN | apply below_drew1 | refine below_set ?_ GE101.out) | exact HB.out)) hb); have NB101_102 := Aside0.mk ((by rw [hg]; exact Nat.ne_of_lt (blk_lt (g := gb101) (o := .cells #[.slice A0_0 l0_0.length c0_0] 27 (0, 0)) (kU BK101.out)) : gb101 ≠ gb102)); have NB102_101 := Aside0.mk ((by rw [hg]; exact Nat.ne_of_gt (blk_lt (g := gb101) (o := .cells #[.slice A0_0 l0_0.length c0_0] 27 (0, 0)) (kU BK101.out)) : gb102 ≠ gb101)); replace BK101 := Aside0.mk (blk_below (g := gb101) (o := .cells #[.slice A0_0 l0_0.length c0_0] 27 (0, 0)) (kU BK101.out) hb); clear hb hbox hg; have hnb7 := NB101_102.out; have hnc7 := NB102_101.out; have hcz8_0 : w6.cell? ⟨gb101, 0, none⟩ = some (.slice A0_0 l0_0.length c0_0) := (blk_cell BK101.out 0).trans rfl; have hfz8_0 := blk_frozen BK101.out 0) | ((with_reducible refine gate_dst (N := 14) rfl ?_); refine Kd.R_make (Kd.int .i64) _ 3 rfl (N := 14) rfl 25 _ _ rfl (l0_0.length : Int) rfl rfl Try.underlying25 (.int .i64 0) 8 info3 rfl (by decide) (by omega) 0 (ok := fun _ => True) (okp := fun _ => True) rfl (fun _ hk => hk) trivial (Int.natCast_nonneg _) (by have := LMc4.out; omega) (Below.refl _ _) (Nat.le_refl _) ?_; intro v104 w9 ho10 hb hg_ hnew_; clear hg_ hnew_; have HO105 := Aside0.mk (Kd.R_lower ho10 (below_size (by repeat (first | (with_reducible first | exact HB.out | apply below_alloc | apply pw_below_drewN | apply below_drew1 | refine below_set ?_ GE101.out | refine below_set ?_ GE102.out) | exact HB.out)))); replace BK101 := Aside0.mk (blk_below (g := gb101) (o := .cells #[.slice A0_0 l0_0.length c0_0] 27 (0, 0)) (kU BK101.out) hb); replace BK102 := Aside0.mk (blk_below (g := gb102) (o := .cells #[.slice none 0 0] 27 (0, 0)) (kU BK102.out) hb); replace HB := Aside0.mk (below_step (by repeat (first | (with_reducible first | exact HB.out | apply below_alloc | apply pw_below_drewN | apply below_drew1 | refine below_set ?_ GE101.out | refine below_set ?_ GE102.out) | exact HB.out)) hb); clear hb ho10; have hcz9c_0 : w9.cell? ⟨gb101, 0, none⟩ = some (.slice A0_0 l0_0.length c0_0) := (blk_cell BK101.out 0).trans rfl; have hfz9c_0 := blk_frozen BK101.out 0))
  obtain ⟨w11, hrun_, ho, hg⟩ := copy_run (W := w9) c0_0 25 3 Try.underlying25 (by kernel_rfl) HO105.out (Kd.C_below HR0_0.out HB.out)
  have hb := HB.out.grown hg (below_size HB.out) (fun k_ hk => own_base (Kd.own_of_R HO105.out) k_ hk)
  have hcp_ : l0_0 = y106 := by rw [Ny106.out, Ny103.out]; rfl
  replace ho := Eq.mp (congrArg (fun x_ => Kd.R (Kd.int .i64) 3 w11 w.heap.size (fun _ => True) v104 x_) hcp_) ho
  clear hcp_
  rw [hrun_]
  clear hrun_
  (have n0_ := Aside0.mk (blk_grown (g := gb101) (o := .cells #[.slice A0_0 l0_0.length c0_0] 27 (0, 0)) (kU BK101.out) hg (Kd.R_ne HO105.out BK101.out (by decide))); have n1_ := Aside0.mk (blk_grown (g := gb102) (o := .cells #[.slice none 0 0] 27 (0, 0)) (kU BK102.out) hg (Kd.R_ne HO105.out BK102.out (by decide))); have n2_ := Aside0.mk (hb); have n3_ := Aside0.mk (ho); clear BK101; clear BK102; clear HB; clear HO105; have BK101 := n0_; have BK102 := n1_; have HB := n2_; have HO108 := n3_; clear n0_ n1_ n2_ n3_; clear ho hb hg; have hcz12_0 : w11.cell? ⟨gb101, 0, none⟩ = some (.slice A0_0 l0_0.length c0_0) := (blk_cell BK101.out 0).trans rfl; have hfz12_0 := blk_frozen BK101.out 0)
  go_wp2
  go_loopg [21] k (fun kq v21 w' => ∃ (x7_1 : List Int) (x21_1 : Int), v21 = .int .i64 x21_1 ∧ Aside0 (refcount_Counts_changed.l0 kq a2 x7_1 l1 (l1.length : Int) x21_1 = some r) ∧ Aside0 (kq ≤ k) ∧ Aside0 (Kd.R (Kd.int .i64) 3 w' w.heap.size (fun _ => True) v104 x7_1) ∧ Aside0 (w'.heap[gb101]? = some (.cells #[(.slice A0_0 l0_0.length c0_0)] 27 (0, 0))) ∧ Aside0 (w'.heap[gb102]? = some (.cells #[(.slice none 0 0)] 27 (0, 0))) ∧ Aside0 (Below w.heap.size w w'))
  case atStart => exact ⟨(y106), (0), (by first | rfl | (simp; done) | (simp [*]; done)), H', ⟨Nat.le_refl _⟩, ⟨rU HO108.out⟩, ⟨by (with_reducible repeat (first | refine blk_drewN ?_ _ | refine blk_drew ?_ | refine blk_alloc ?_ _)); exact BK101.out⟩, ⟨by (with_reducible repeat (first | refine blk_drewN ?_ _ | refine blk_drew ?_ | refine blk_alloc ?_ _)); exact BK102.out⟩, ⟨by repeat (first | (with_reducible first | exact HB.out | apply below_alloc | apply pw_below_drewN | apply below_drew1 | refine below_set ?_ GE101.out | refine below_set ?_ GE102.out) | exact HB.out)⟩⟩
  case round =>
   clear H'
   try clear c1
   try clear c2
   try clear p2
   try clear c4
   try clear c7
   try clear hcz12_0
   try clear hcz8_0
   try clear hfz12_0
   try clear hfz8_0
   obtain ⟨x7_1, x21_1, rfl, HA, HK1, HO_7, BK101, BK102, HB⟩ := hrel
   cases gk with
   | zero => exact absurd HA.out (by simp [refcount_Counts_changed.l0])
   | succ k1 =>
    have H := HA.out
    clear HA
    simp only [refcount_Counts_changed.l0] at H
    by_cases c13 : x21_1 < (l1.length : Int)
    ·
     rw [if_pos c13] at H
     have c13b0 := decide_eq_true c13
     clear c13
     by_cases c14 : 0 ≤ x21_1
     ·
      rw [if_pos c14] at H
      have c14b0 := decide_eq_true c14
      clear c14
      by_cases c15 : x21_1 < (l1.length : Int)
      ·
       rw [if_pos c15] at H
       have c15b0 := decide_eq_true c15
       clear c15
       have H' := Aside0.mk H
       clear H
       have p109 : 0 ≤ (x21_1 : Int) := of_decide_eq_true (by first | (with_reducible assumption) | assumption)
       have q109 : x21_1 < (l1.length : Int) := of_decide_eq_true (by first | (with_reducible assumption) | assumption)
       obtain ⟨ad109, e109, hx109_0, hx109_1, hx109_2⟩ := at_T41 HR1.out x21_1 p109 q109
       cases e109
       replace hx109_0 := (HB.out.cell (World.block_lt_of_cell? w _ hx109_0)).trans hx109_0
       replace hx109_1 := (HB.out.cell (World.block_lt_of_cell? w _ hx109_1)).trans hx109_1
       replace hx109_2 := (HB.out.cell (World.block_lt_of_cell? w _ hx109_2)).trans hx109_2
       replace p109 := eq_true p109
       replace q109 := eq_true q109
       go_wp2_with (first | ((with_reducible refine gate_dst (N := 9) rfl ?_); refine box_event ?hg (N := 9) ?hd (cs := #[.int .i64 0, .int .i64 0, .int .i64 0]) (t := 41) ?hr ?_; (case hd => rfl); (case hg => rfl); (case hr => first | (go_simp; done) | (go_simp; rfl)); intro gb110 hg w16 hbox hb; replace HO_7 := Aside0.mk (Kd.R_below (rU HO_7.out) hb); have BK110 := Aside0.mk (hbox); have GW110 := Aside0.mk ((by rw [hg]; exact (below_size (by repeat (first | (with_reducible first | exact HB.out | apply below_alloc | apply pw_below_drewN | apply below_drew1 | refine below_set ?_ GE101.out | refine below_set ?_ GE102.out) | exact HB.out))) : w.heap.size ≤ gb110)); have GE110 := Aside0.mk ((by rw [hg]; exact (below_size (by repeat (first | (with_reducible first | exact HB.out | apply below_alloc | apply pw_below_drewN | apply below_drew1 | refine below_set ?_ GE101.out | refine below_set ?_ GE102.out) | exact HB.out))) : w.heap.size ≤ gb110)); replace HB := Aside0.mk (below_step (by repeat (first | (with_reducible first | exact HB.out | apply below_alloc | apply pw_below_drewN | apply below_drew1 | refine below_set ?_ GE101.out | refine below_set ?_ GE102.out) | exact HB.out)) hb); have NB101_110 := Aside0.mk ((by rw [hg]; exact Nat.ne_of_lt (blk_lt (g := gb101) (o := .cells #[.slice A0_0 l0_0.length c0_0] 27 (0, 0)) (kU BK101.out)) : gb101 ≠ gb110)); have NB110_101 := Aside0.mk ((by rw [hg]; exact Nat.ne_of_gt (blk_lt (g := gb101) (o := .cells #[.slice A0_0 l0_0.length c0_0] 27 (0, 0)) (kU BK101.out)) : gb110 ≠ gb101)); replace BK101 := Aside0.mk (blk_below (g := gb101) (o := .cells #[.slice A0_0 l0_0.length c0_0] 27 (0, 0)) (kU BK101.out) hb); have NB102_110 := Aside0.mk ((by rw [hg]; exact Nat.ne_of_lt (blk_lt (g := gb102) (o := .cells #[.slice none 0 0] 27 (0, 0)) (kU BK102.out)) : gb102 ≠ gb110)); have NB110_102 := Aside0.mk ((by rw [hg]; exact Nat.ne_of_gt (blk_lt (g := gb102) (o := .cells #[.slice none 0 0] 27 (0, 0)) (kU BK102.out)) : gb110 ≠ gb102)); replace BK102 := Aside0.mk (blk_below (g := gb102) (o := .cells #[.slice none 0 0] 27 (0, 0)) (kU BK102.out) hb); clear hb hbox hg; have hnb17 := NB110_101.out; have hnc17 := NB101_110.out; have hnb18 := NB110_102.out; have hnc18 := NB102_110.out; have hcz19_0 : w16.cell? ⟨gb110, 0, none⟩ = some (.int .i64 0) := (blk_cell BK110.out 0).trans rfl; have hcz19_1 : w16.cell? ⟨gb110, 1, none⟩ = some (.int .i64 0) := (blk_cell BK110.out 1).trans rfl; have hcz19_2 : w16.cell? ⟨gb110, 2, none⟩ = some (.int .i64 0) := (blk_cell BK110.out 2).trans rfl; have hfz19_0 := blk_frozen BK110.out 0; have hfz19_1 := blk_frozen BK110.out 1; have hfz19_2 := blk_frozen BK110.out 2))
       go_loopg [10] k1 (fun kq v10 w' => ∃ (x7_2 : List Int) (x10_2 : Int), v10 = .int .i64 x10_2 ∧ Aside0 (refcount_Counts_changed.l1 kq a2 x7_2 x10_2 l1 (l1.length : Int) x21_1 ((rd_T41 l1 x21_1).f0) ((rd_T41 l1 x21_1).f1) ((rd_T41 l1 x21_1).f2) = some r) ∧ Aside0 (kq ≤ k1) ∧ Aside0 (Kd.R (Kd.int .i64) 3 w' w.heap.size (fun _ => True) v104 x7_2) ∧ Aside0 (w'.heap[gb101]? = some (.cells #[(.slice A0_0 l0_0.length c0_0)] 27 (0, 0))) ∧ Aside0 (w'.heap[gb102]? = some (.cells #[(.slice none 0 0)] 27 (0, 0))) ∧ Aside0 (w'.heap[gb110]? = some (.cells #[.int .i64 ((rd_T41 l1 x21_1).f0), .int .i64 ((rd_T41 l1 x21_1).f1), .int .i64 ((rd_T41 l1 x21_1).f2)] 41 (0, 0))) ∧ Aside0 (Below w.heap.size w w'))
       case atStart => exact ⟨(x7_1), ((rd_T41 l1 x21_1).f2), (by first | rfl | (simp; done) | (simp [*]; done)), H', ⟨Nat.le_refl _⟩, ⟨by (with_reducible repeat (first | apply Kd.R_alloc | apply Kd.R_drewN | apply Kd.R_drew)); exact Kd.R_mono (Kd.R_far (p := ⟨gb110, 2, none⟩) (Kd.R_far (p := ⟨gb110, 1, none⟩) (Kd.R_far (p := ⟨gb110, 0, none⟩) (Kd.R_types HO_7.out BK110.out (by decide)) (fun _ hk => hk.2) (.int .i64 ((rd_T41 l1 x21_1).f0))) (fun _ hk => hk.2) (.int .i64 ((rd_T41 l1 x21_1).f1))) (fun _ hk => hk.2) (.int .i64 ((rd_T41 l1 x21_1).f2))) (fun _ hk => trivial)⟩, ⟨by (with_reducible repeat (first | refine blk_drewN ?_ _ | refine blk_drew ?_ | refine blk_alloc ?_ _)); refine blk_far ?_ NB101_110.out _; (with_reducible repeat (first | refine blk_drewN ?_ _ | refine blk_drew ?_ | refine blk_alloc ?_ _)); refine blk_far ?_ NB101_110.out _; (with_reducible repeat (first | refine blk_drewN ?_ _ | refine blk_drew ?_ | refine blk_alloc ?_ _)); refine blk_far ?_ NB101_110.out _; (with_reducible repeat (first | refine blk_drewN ?_ _ | refine blk_drew ?_ | refine blk_alloc ?_ _)); exact BK101.out⟩, ⟨by (with_reducible repeat (first | refine blk_drewN ?_ _ | refine blk_drew ?_ | refine blk_alloc ?_ _)); refine blk_far ?_ NB102_110.out _; (with_reducible repeat (first | refine blk_drewN ?_ _ | refine blk_drew ?_ | refine blk_alloc ?_ _)); refine blk_far ?_ NB102_110.out _; (with_reducible repeat (first | refine blk_drewN ?_ _ | refine blk_drew ?_ | refine blk_alloc ?_ _)); refine blk_far ?_ NB102_110.out _; (with_reducible repeat (first | refine blk_drewN ?_ _ | refine blk_drew ?_ | refine blk_alloc ?_ _)); exact BK102.out⟩, ⟨by (with_reducible repeat (first | refine blk_drewN ?_ _ | refine blk_drew ?_ | refine blk_alloc ?_ _)); refine blk_put (cs := #[.int .i64 ((rd_T41 l1 x21_1).f0), .int .i64 ((rd_T41 l1 x21_1).f1), .int .i64 0]) ?_ 2 _ rfl; (with_reducible repeat (first | refine blk_drewN ?_ _ | refine blk_drew ?_ | refine blk_alloc ?_ _)); refine blk_put (cs := #[.int .i64 ((rd_T41 l1 x21_1).f0), .int .i64 0, .int .i64 0]) ?_ 1 _ rfl; (with_reducible repeat (first | refine blk_drewN ?_ _ | refine blk_drew ?_ | refine blk_alloc ?_ _)); refine blk_put (cs := #[.int .i64 0, .int .i64 0, .int .i64 0]) ?_ 0 _ rfl; (with_reducible repeat (first | refine blk_drewN ?_ _ | refine blk_drew ?_ | refine blk_alloc ?_ _)); exact BK110.out⟩, ⟨by repeat (first | (with_reducible first | exact HB.out | apply below_alloc | apply pw_below_drewN | apply below_drew1 | refine below_set ?_ GE101.out | refine below_set ?_ GE102.out | refine below_set ?_ GE110.out) | exact HB.out)⟩⟩
       case round =>
        clear H'
        try clear c1
        try clear p1
        try clear q1
        try clear hx1
        try clear c2
        try clear p2
        try clear c4
        try clear c7
        try clear p10
        try clear q10
        try clear hx10
        try clear c13
        try clear c13b0
        try clear c14
        try clear c14b0
        try clear c15
        try clear c15b0
        try clear c17
        try clear c18
        try clear hcz12_0
        try clear hcz19_0
        try clear hcz19_1
        try clear hcz19_2
        try clear hcz8_0
        try clear hfz12_0
        try clear hfz19_0
        try clear hfz19_1
        try clear hfz19_2
        try clear hfz8_0
        try clear hx109_0
        try clear hx109_1
        try clear hx109_2
        try clear p109
        try clear p2
        try clear q109
        obtain ⟨x7_2, x10_2, rfl, HA, HK2, HO_7, BK101, BK102, BK110, HB⟩ := hrel
        cases gk with
        | zero => exact absurd HA.out (by simp [refcount_Counts_changed.l1])
        | succ k2 =>
         have H := HA.out
         clear HA
         simp only [refcount_Counts_changed.l1] at H
         by_cases c20 : x10_2 < (wrap64 (((rd_T41 l1 x21_1).f2) + ((rd_T41 l1 x21_1).f1)))
         ·
          rw [if_pos c20] at H
          have c20b0 := decide_eq_true c20
          clear c20
          by_cases c21 : 0 ≤ x10_2
          ·
           rw [if_pos c21] at H
           have c21b0 := decide_eq_true c21
           clear c21
           by_cases c22 : x10_2 < (x7_2.length : Int)
           ·
            rw [if_pos c22] at H
            have c22b0 := decide_eq_true c22
            clear c22
            obtain ⟨y112, hy112⟩ : ∃ y_ : List Int, y_ = (x7_2.set (x10_2 : Int).toNat (wrap64 ((rd x7_2 x10_2) + a2))) := ⟨_, rfl⟩
            replace H : (refcount_Counts_changed.l1 k2 a2 y112 (wrap64 (x10_2 + 1)) l1 (l1.length : Int) x21_1 ((rd_T41 l1 x21_1).f0) ((rd_T41 l1 x21_1).f1) ((rd_T41 l1 x21_1).f2)) = some r := by first | (rw [hy112]; exact H) | exact H
            have Ny112 := Aside0.mk hy112
            clear hy112
            have H' := Aside0.mk H
            clear H
            have hnb24 := NB110_101.out
            have hnc24 := NB101_110.out
            have hnb25 := NB110_102.out
            have hnc25 := NB102_110.out
            have hcz26_0 : wr.cell? ⟨gb110, 0, none⟩ = some (.int .i64 ((rd_T41 l1 x21_1).f0)) := (blk_cell BK110.out 0).trans rfl
            have hcz26_1 : wr.cell? ⟨gb110, 1, none⟩ = some (.int .i64 ((rd_T41 l1 x21_1).f1)) := (blk_cell BK110.out 1).trans rfl
            have hcz26_2 : wr.cell? ⟨gb110, 2, none⟩ = some (.int .i64 ((rd_T41 l1 x21_1).f2)) := (blk_cell BK110.out 2).trans rfl
            have hfz26_0 := blk_frozen BK110.out 0
            have hfz26_1 := blk_frozen BK110.out 1
            have hfz26_2 := blk_frozen BK110.out 2
            obtain ⟨Ao27, co27, eo27⟩ := Kd.R_slice HO_7.out
            subst eo27
            have p111 : 0 ≤ (x10_2 : Int) := of_decide_eq_true (by first | (with_reducible assumption) | assumption)
            have q111 : x10_2 < (x7_2.length : Int) := of_decide_eq_true (by first | (with_reducible assumption) | assumption)
            obtain ⟨ad111, e111, hx111_0⟩ := Kd.at_int (Kd.R_reads' HO_7.out).2.2 x10_2 p111 q111
            cases e111
            replace p111 := eq_true p111
            replace q111 := eq_true q111
            have p23 : 0 ≤ (x10_2 : Int) := of_decide_eq_true (by first | (with_reducible assumption) | assumption)
            have q23 : (x10_2 : Int) < ((x7_2.length : Int) : Int) := of_decide_eq_true (by first | (with_reducible assumption) | assumption)
            obtain ⟨go23, co23, eo23, gb23, gl23, cl23, HG23⟩ := Kd.R_form HO_7.out (by omega)
            (first | cases eo23 | (injection eo23 with ea_ en_ ec_; (first | subst ea_ | (injection ea_ with ea_; subst ea_)); subst ec_; clear en_))
            have GB23 := Aside0.mk gb23
            have GG23 := Aside0.mk HG23
            clear gb23 gl23 HG23
            (first | simp only [add_plain] at hx111_0 | skip)
            obtain ⟨hx23_0, hf23_0⟩ := Kd.R_celln 0 HO_7.out (x10_2 : Int) p23 q23
            replace p23 := eq_true p23
            replace q23 := eq_true q23
            have HP28 := Kd.R_putg HO_7.out (x10_2 : Int) (wrap64 ((rd x7_2 x10_2) + a2))
            go_wp2_with (first | ((with_reducible refine gate_store (t := 3) (p := 42) rfl ?_); refine store_event (t := 3) (p := 42) (v := ?vo_w29) (w1 := (wr.setCell ⟨go23, (x10_2 : Int).toNat, none⟩ (.int .i64 (wrap64 ((rd x7_2 x10_2) + a2))))) ?hg ?ho ?hn ?hr ?_; (case ho => rfl); (case hg => rfl); (case hn => rfl); (case hr => first | (go_simp; done) | (go_simp; rfl)); intro w29 hw; have hg : wr.grownBy w29 (some go23) := (by rw [hw]; exact HP28.2); have hp_ : Kd.R (Kd.int .i64) 3 w29 w.heap.size (fun _ => True) (.slice (some ⟨go23, 0, none⟩) x7_2.length co27) y112 := (by rw [hw, Ny112.out]; exact HP28.1); clear HP28; replace BK101 := Aside0.mk (blk_grown (g := gb101) (o := .cells #[.slice A0_0 l0_0.length c0_0] 27 (0, 0)) (kU BK101.out) hg (Kd.R_ne HO_7.out BK101.out (by decide))); replace BK102 := Aside0.mk (blk_grown (g := gb102) (o := .cells #[.slice none 0 0] 27 (0, 0)) (kU BK102.out) hg (Kd.R_ne HO_7.out BK102.out (by decide))); replace BK110 := Aside0.mk (blk_grown (g := gb110) (o := .cells #[.int .i64 ((rd_T41 l1 x21_1).f0), .int .i64 ((rd_T41 l1 x21_1).f1), .int .i64 ((rd_T41 l1 x21_1).f2)] 41 (0, 0)) (kU BK110.out) hg (Kd.R_ne HO_7.out BK110.out (by decide))); replace HO_7 := Aside0.mk (hp_); replace HB := Aside0.mk ((by rw [hw]; exact below_set (HB.out) GB23.out : Below w.heap.size w w29)); clear hg hw hp_))
            go_roundg k2
            case measure => have := HK1.out; have := HK2.out; omega
            case rel => exact ⟨(y112), (wrap64 (x10_2 + 1)), (by first | rfl | (simp; done) | (simp [*]; done)), H', ⟨by have := HK1.out; have := HK2.out; omega⟩, ⟨rU HO_7.out⟩, ⟨by (with_reducible repeat (first | refine blk_drewN ?_ _ | refine blk_drew ?_ | refine blk_alloc ?_ _)); exact BK101.out⟩, ⟨by (with_reducible repeat (first | refine blk_drewN ?_ _ | refine blk_drew ?_ | refine blk_alloc ?_ _)); exact BK102.out⟩, ⟨by (with_reducible repeat (first | refine blk_drewN ?_ _ | refine blk_drew ?_ | refine blk_alloc ?_ _)); exact BK110.out⟩, ⟨by repeat (first | (with_reducible first | exact HB.out | apply below_alloc | apply pw_below_drewN | apply below_drew1 | refine below_set ?_ GE101.out | refine below_set ?_ GE102.out | refine below_set ?_ GE110.out) | exact HB.out)⟩⟩
           ·
            rw [if_neg c22] at H
            exact absurd H (by simp)
          ·
           rw [if_neg c21] at H
           exact absurd H (by simp)
         ·
          rw [if_neg c20] at H
          have c20b0 := decide_eq_false c20
          clear c20
          have H' := Aside0.mk H
          clear H
          have hnb30 := NB110_101.out
          have hnc30 := NB101_110.out
          have hnb31 := NB110_102.out
          have hnc31 := NB102_110.out
          have hcz32_0 : wr.cell? ⟨gb110, 0, none⟩ = some (.int .i64 ((rd_T41 l1 x21_1).f0)) := (blk_cell BK110.out 0).trans rfl
          have hcz32_1 : wr.cell? ⟨gb110, 1, none⟩ = some (.int .i64 ((rd_T41 l1 x21_1).f1)) := (blk_cell BK110.out 1).trans rfl
          have hcz32_2 : wr.cell? ⟨gb110, 2, none⟩ = some (.int .i64 ((rd_T41 l1 x21_1).f2)) := (blk_cell BK110.out 2).trans rfl
          have hfz32_0 := blk_frozen BK110.out 0
          have hfz32_1 := blk_frozen BK110.out 1
          have hfz32_2 := blk_frozen BK110.out 2
          go_wp2
          go_roundg k2
          case measure => have := HK1.out; have := HK2.out; omega
          case rel => exact ⟨(x7_2), (wrap64 (x21_1 + 1)), (by first | rfl | (simp; done) | (simp [*]; done)), H', ⟨by have := HK1.out; have := HK2.out; omega⟩, ⟨rU HO_7.out⟩, ⟨by (with_reducible repeat (first | refine blk_drewN ?_ _ | refine blk_drew ?_ | refine blk_alloc ?_ _)); exact BK101.out⟩, ⟨by (with_reducible repeat (first | refine blk_drewN ?_ _ | refine blk_drew ?_ | refine blk_alloc ?_ _)); exact BK102.out⟩, ⟨by repeat (first | (with_reducible first | exact HB.out | apply below_alloc | apply pw_below_drewN | apply below_drew1 | refine below_set ?_ GE101.out | refine below_set ?_ GE102.out | refine below_set ?_ GE110.out) | exact HB.out)⟩⟩
      ·
       rw [if_neg c15] at H
       exact absurd H (by simp)
     ·
      rw [if_neg c14] at H
      exact absurd H (by simp)
    ·
     rw [if_neg c13] at H
     have c13b0 := decide_eq_false c13
     clear c13
     obtain rfl := Option.some.inj H
     obtain ⟨Ao33, co33, eo33⟩ := Kd.R_slice HO_7.out
     subst eo33
     have hnb34 := NB102_101.out
     have hnc34 := NB101_102.out
     have hcz35_0 : wr.cell? ⟨gb102, 0, none⟩ = some (.slice none 0 0) := (blk_cell BK102.out 0).trans rfl
     have hfz35_0 := blk_frozen BK102.out 0
     go_wp2
     refine bodyPost_ret (results_cell_row rfl _ _ gb102 27 #[.slice Ao33 x7_1.length co33] (0, 0) _ rfl (by (with_reducible repeat (first | refine blk_drewN ?_ _ | refine blk_drew ?_ | refine blk_alloc ?_ _)); refine blk_put (cs := #[.slice none 0 0]) ?_ 0 _ rfl; (with_reducible repeat (first | refine blk_drewN ?_ _ | refine blk_drew ?_ | refine blk_alloc ?_ _)); exact BK102.out) Try.underlying27 rfl (by kernel_rfl)) rfl ?_
     exact ⟨_, by first | rfl | (simp [errW_none, errW_some] <;> rfl) | (simp [*, errW_none, errW_some] <;> rfl), by (with_reducible repeat (first | apply Kd.R_alloc | apply Kd.R_drewN | apply Kd.R_drew)); exact Kd.R_mono (Kd.R_far (p := ⟨gb102, 0, none⟩) (Kd.R_types HO_7.out BK102.out (by decide)) (fun _ hk => hk.2) (.slice Ao33 x7_1.length co33)) (fun _ hk => trivial), by repeat (first | (with_reducible first | exact HB.out | apply below_alloc | apply pw_below_drewN | apply below_drew1 | refine below_set ?_ GE101.out | refine below_set ?_ GE102.out) | exact HB.out)⟩
 ·
  rw [if_neg c4] at H
  exact absurd H (by simp)

/-! ### refcount_Counts_Add: function 12 -/
def refcount_Counts_Add.f (k : Nat) (l0_0 : List Int) (l1 : List (S41)) : Option (List Int × Int) := (refcount_Counts_permitted.f l0_0 l1).bind fun t115 => (if t115 = true then ((refcount_Counts_changed.f k l0_0 l1 1).bind fun t116 => (some (t116, 0))) else (some (([] : List Int), 2)))
theorem refcount_Counts_Add.mono : ∀ a0 a1 k, LeO (refcount_Counts_Add.f k a0 a1) (refcount_Counts_Add.f (k + 1) a0 a1) := by
 intro a0 a1 k
 unfold refcount_Counts_Add.f
 repeat' first
   | (with_reducible exact refcount_Counts_changed.mono _ _ _ _)
   | (with_reducible exact LeO.refl _)
   | (with_reducible exact LeO.none _)
   | (with_reducible refine LeO.ite ?_ ?_)
   | (with_reducible refine LeO.bind ?_ (fun _ => ?_))
   | exact refcount_Counts_changed.mono _ _ _ _
   | exact LeO.none _
   | refine LeO.ite ?_ ?_
   | refine LeO.bind ?_ (fun _ => ?_)
set_option maxHeartbeats 8000000 in
set_option maxRecDepth 100000 in
theorem refcount_Counts_Add.calls (k : Nat) (A0_0 : Option Addr) (c0_0 : Nat) (l0_0 : List Int) (A1 : Option Addr) (c1 : Nat) (l1 : List (S41)) (r1 : List Int) (r2 : Int) (w : World) (hr0_0 : Kd.C (Kd.int .i64) w A0_0 l0_0.length l0_0) (hc0_0 : l0_0.length ≤ c0_0) (hr1 : Kd.C k41 w A1 l1.length l1) (hc1 : l1.length ≤ c1) (h : refcount_Counts_Add.f k l0_0 l1 = some (r1, r2)) :
  Calls Try.prog 12 #[.agg #[.slice A0_0 l0_0.length c0_0], .slice A1 l1.length c1] w fun e w' => ∃ v0_ : Value, e = .returned (.tuple #[.agg #[v0_], .int .i64 r2]) ∧ Kd.R (Kd.int .i64) 3 w' w.heap.size (fun _ => True) v0_ r1 ∧ Below w.heap.size w w' := by
 have hu27 := Try.underlying27
 have HR0_0 := Aside0.mk hr0_0
 have HC0_0 := Aside0.mk hc0_0
 clear hr0_0 hc0_0
 have HR1 := Aside0.mk hr1
 have HC1 := Aside0.mk hc1
 clear hr1 hc1
 have HB := Aside0.mk (Below.refl w.heap.size w)
 have H : ((refcount_Counts_permitted.f l0_0 l1).bind fun t115 => (if t115 = true then ((refcount_Counts_changed.f k l0_0 l1 1).bind fun t116 => (some (t116, 0))) else (some (([] : List Int), 2)))) = some (r1, r2) := h
 clear h
 replace H := Option.bind_eq_some_iff.mp H
 obtain ⟨t115, A30, H⟩ := H
 replace H : (if t115 = true then ((refcount_Counts_changed.f k l0_0 l1 1).bind fun t116 => (some (t116, 0))) else (some (([] : List Int), 2))) = some (r1, r2) := H
 have A3 := Aside0.mk A30
 clear A30
 by_cases c4 : t115 = true
 ·
  subst c4
  have H1 : ((refcount_Counts_changed.f k l0_0 l1 1).bind fun t116 => (some (t116, 0))) = some (r1, r2) := by rw [if_pos rfl] at H; exact H
  clear H
  have H := H1
  clear H1
  replace H := Option.bind_eq_some_iff.mp H
  obtain ⟨t116, A50, H⟩ := H
  replace H : (some (t116, 0)) = some (r1, r2) := H
  have A5 := Aside0.mk A50
  clear A50
  simp only [Option.some.injEq, Prod.mk.injEq] at H
  obtain ⟨rfl, rfl⟩ := H
  go_enter Try.func12, Try.ntmps12
  go_wp2_with (first | ((with_reducible refine gate_dst (N := 2) rfl ?_); refine box_event ?hg (N := 2) ?hd (cs := #[.slice A0_0 l0_0.length c0_0]) (t := 27) ?hr ?_; (case hd => rfl); (case hg => rfl); (case hr => first | (go_simp; done) | (go_simp; rfl)); intro gb113 hg w6 hbox hb; have BK113 := Aside0.mk (hbox); have GW113 := Aside0.mk ((by rw [hg]; exact (below_size (bU HB.out)) : w.heap.size ≤ gb113)); have GE113 := Aside0.mk ((by rw [hg]; exact (below_size (bU HB.out)) : w.heap.size ≤ gb113)); replace HB := Aside0.mk (below_step (bU HB.out) hb); clear hb hbox hg) | ((with_reducible refine gate_dst (N := 4) rfl ?_); refine box_event ?hg (N := 4) ?hd (cs := #[.slice none 0 0]) (t := 27) ?hr ?_; (case hd => rfl); (case hg => rfl); (case hr => first | (go_simp; done) | (go_simp; rfl)); intro gb114 hg w7 hbox hb; have BK114 := Aside0.mk (hbox); have GW114 := Aside0.mk ((by rw [hg]; exact (below_size (by repeat (first | (with_reducible first | exact HB.out | apply below_alloc | apply pw_below_drewN | apply below_drew1 | refine below_set ?_ GE113.out) | exact HB.out))) : w.heap.size ≤ gb114)); have GE114 := Aside0.mk ((by rw [hg]; exact (below_size (by repeat (first | (with_reducible first | exact HB.out | apply below_alloc | apply pw_below_drewN | apply below_drew1 | refine below_set ?_ GE113.out) | exact HB.out))) : w.heap.size ≤ gb114)); replace HB := Aside0.mk (below_step (by repeat (first | (with_reducible first | exact HB.out | apply below_alloc | apply pw_below_drewN | apply below_drew1 | refine below_set ?_ GE113.out) | exact HB.out)) hb); have NB113_114 := Aside0.mk ((by rw [hg]; exact Nat.ne_of_lt (blk_lt (g := gb113) (o := .cells #[.slice A0_0 l0_0.length c0_0] 27 (0, 0)) (kU BK113.out)) : gb113 ≠ gb114)); have NB114_113 := Aside0.mk ((by rw [hg]; exact Nat.ne_of_gt (blk_lt (g := gb113) (o := .cells #[.slice A0_0 l0_0.length c0_0] 27 (0, 0)) (kU BK113.out)) : gb114 ≠ gb113)); replace BK113 := Aside0.mk (blk_below (g := gb113) (o := .cells #[.slice A0_0 l0_0.length c0_0] 27 (0, 0)) (kU BK113.out) hb); clear hb hbox hg; have hnb8 := NB113_114.out; have hnc8 := NB114_113.out; have hcz9_0 : w7.cell? ⟨gb113, 0, none⟩ = some (.slice A0_0 l0_0.length c0_0) := (blk_cell BK113.out 0).trans rfl; have hfz9_0 := blk_frozen BK113.out 0) | ((with_reducible refine gate_callee (f := 28) rfl ?_); refine goesL_ (some 8) rfl rfl Try.func28 (by kernel_rfl) rfl #[.agg #[.slice A0_0 l0_0.length c0_0], .slice A1 l1.length c1] rfl (by (try simp only [List.map_toArray, List.map_cons, List.map_nil]); first | done | rfl | (simp only [List.length_drop, List.length_take]; rfl)) ?_; (with_reducible refine (refcount_Counts_permitted.calls _ _ l0_0 _ _ l1 true _ ?side1 ?side2 ?side3 ?side4 A3.out).mono ?_); (case side1 => exact cU (Kd.C_below HR0_0.out HB.out)); (case side2 => exact HC0_0.out); (case side3 => exact cU (Kd.C_below HR1.out HB.out)); (case side4 => exact HC1.out); rintro e w10 ⟨rfl, hb⟩; refine ⟨_, rfl, ?_⟩; replace BK113 := Aside0.mk (blk_below (g := gb113) (o := .cells #[.slice A0_0 l0_0.length c0_0] 27 (0, 0)) (kU BK113.out) hb); replace BK114 := Aside0.mk (blk_below (g := gb114) (o := .cells #[.slice none 0 0] 27 (0, 0)) (kU BK114.out) hb); replace HB := Aside0.mk (below_step (by repeat (first | (with_reducible first | exact HB.out | apply below_alloc | apply pw_below_drewN | apply below_drew1 | refine below_set ?_ GE113.out | refine below_set ?_ GE114.out) | exact HB.out)) hb); (try clear hb); have hcz11_0 : w10.cell? ⟨gb113, 0, none⟩ = some (.slice A0_0 l0_0.length c0_0) := (blk_cell BK113.out 0).trans rfl; have hfz11_0 := blk_frozen BK113.out 0) | ((with_reducible refine gate_callee (f := 29) rfl ?_); refine goesL_ (some 13) rfl rfl Try.func29 (by kernel_rfl) rfl #[.agg #[.slice A0_0 l0_0.length c0_0], .slice A1 l1.length c1, .int .i64 1] rfl (by (try simp only [List.map_toArray, List.map_cons, List.map_nil]); first | done | rfl | (simp only [List.length_drop, List.length_take]; rfl)) ?_; (with_reducible refine (refcount_Counts_changed.calls k _ _ l0_0 _ _ l1 1 t116 _ ?side1 ?side2 ?side3 ?side4 A5.out).mono ?_); (case side1 => exact cU (Kd.C_below HR0_0.out HB.out)); (case side2 => exact HC0_0.out); (case side3 => exact cU (Kd.C_below HR1.out HB.out)); (case side4 => exact HC1.out); rintro e w12 ⟨v117, rfl, ho0, hb⟩; refine ⟨_, rfl, ?_⟩; have HO118 := Aside0.mk (Kd.R_lower ho0 (below_size (by repeat (first | (with_reducible first | exact HB.out | apply below_alloc | apply pw_below_drewN | apply below_drew1 | refine below_set ?_ GE113.out | refine below_set ?_ GE114.out) | exact HB.out)))); replace BK113 := Aside0.mk (blk_below (g := gb113) (o := .cells #[.slice A0_0 l0_0.length c0_0] 27 (0, 0)) (kU BK113.out) hb); replace BK114 := Aside0.mk (blk_below (g := gb114) (o := .cells #[.slice none 0 0] 27 (0, 0)) (kU BK114.out) hb); replace HB := Aside0.mk (below_step (by repeat (first | (with_reducible first | exact HB.out | apply below_alloc | apply pw_below_drewN | apply below_drew1 | refine below_set ?_ GE113.out | refine below_set ?_ GE114.out) | exact HB.out)) hb); (try clear hb); (try clear ho0); obtain ⟨Ao13, co13, eo13⟩ := Kd.R_slice HO118.out; subst eo13; have hcz14_0 : w12.cell? ⟨gb114, 0, none⟩ = some (.slice none 0 0) := (blk_cell BK114.out 0).trans rfl; have hfz14_0 := blk_frozen BK114.out 0))
  refine bodyPost_ret (results_ct rfl _ _ gb114 27 #[.slice Ao13 t116.length co13] (0, 0) _ rfl (by (with_reducible repeat (first | refine blk_drewN ?_ _ | refine blk_drew ?_ | refine blk_alloc ?_ _)); refine blk_put (cs := #[.slice none 0 0]) ?_ 0 _ rfl; (with_reducible repeat (first | refine blk_drewN ?_ _ | refine blk_drew ?_ | refine blk_alloc ?_ _)); exact BK114.out) Try.underlying27 rfl (by kernel_rfl)) rfl ?_
  exact ⟨_, by first | rfl | (simp [errW_none, errW_some] <;> rfl) | (simp [*, errW_none, errW_some] <;> rfl), by (with_reducible repeat (first | apply Kd.R_alloc | apply Kd.R_drewN | apply Kd.R_drew)); exact Kd.R_mono (Kd.R_far (p := ⟨gb114, 0, none⟩) (Kd.R_types HO118.out BK114.out (by decide)) (fun _ hk => hk.2) (.slice Ao13 t116.length co13)) (fun _ hk => trivial), by repeat (first | (with_reducible first | exact HB.out | apply below_alloc | apply pw_below_drewN | apply below_drew1 | refine below_set ?_ GE113.out | refine below_set ?_ GE114.out) | exact HB.out)⟩
 ·
  replace c4 := Bool.eq_false_iff.mpr c4
  subst c4
  have H1 : (some (([] : List Int), 2)) = some (r1, r2) := by rw [if_neg (show ¬ (false = true) by decide)] at H; exact H
  clear H
  have H := H1
  clear H1
  simp only [Option.some.injEq, Prod.mk.injEq] at H
  obtain ⟨rfl, rfl⟩ := H
  go_enter Try.func12, Try.ntmps12
  go_wp2_with (first | ((with_reducible refine gate_dst (N := 2) rfl ?_); refine box_event ?hg (N := 2) ?hd (cs := #[.slice A0_0 l0_0.length c0_0]) (t := 27) ?hr ?_; (case hd => rfl); (case hg => rfl); (case hr => first | (go_simp; done) | (go_simp; rfl)); intro gb113 hg w15 hbox hb; have BK113 := Aside0.mk (hbox); have GW113 := Aside0.mk ((by rw [hg]; exact (below_size (bU HB.out)) : w.heap.size ≤ gb113)); have GE113 := Aside0.mk ((by rw [hg]; exact (below_size (bU HB.out)) : w.heap.size ≤ gb113)); replace HB := Aside0.mk (below_step (bU HB.out) hb); clear hb hbox hg) | ((with_reducible refine gate_dst (N := 4) rfl ?_); refine box_event ?hg (N := 4) ?hd (cs := #[.slice none 0 0]) (t := 27) ?hr ?_; (case hd => rfl); (case hg => rfl); (case hr => first | (go_simp; done) | (go_simp; rfl)); intro gb114 hg w16 hbox hb; have BK114 := Aside0.mk (hbox); have GW114 := Aside0.mk ((by rw [hg]; exact (below_size (by repeat (first | (with_reducible first | exact HB.out | apply below_alloc | apply pw_below_drewN | apply below_drew1 | refine below_set ?_ GE113.out) | exact HB.out))) : w.heap.size ≤ gb114)); have GE114 := Aside0.mk ((by rw [hg]; exact (below_size (by repeat (first | (with_reducible first | exact HB.out | apply below_alloc | apply pw_below_drewN | apply below_drew1 | refine below_set ?_ GE113.out) | exact HB.out))) : w.heap.size ≤ gb114)); replace HB := Aside0.mk (below_step (by repeat (first | (with_reducible first | exact HB.out | apply below_alloc | apply pw_below_drewN | apply below_drew1 | refine below_set ?_ GE113.out) | exact HB.out)) hb); have NB113_114 := Aside0.mk ((by rw [hg]; exact Nat.ne_of_lt (blk_lt (g := gb113) (o := .cells #[.slice A0_0 l0_0.length c0_0] 27 (0, 0)) (kU BK113.out)) : gb113 ≠ gb114)); have NB114_113 := Aside0.mk ((by rw [hg]; exact Nat.ne_of_gt (blk_lt (g := gb113) (o := .cells #[.slice A0_0 l0_0.length c0_0] 27 (0, 0)) (kU BK113.out)) : gb114 ≠ gb113)); replace BK113 := Aside0.mk (blk_below (g := gb113) (o := .cells #[.slice A0_0 l0_0.length c0_0] 27 (0, 0)) (kU BK113.out) hb); clear hb hbox hg; have hnb17 := NB113_114.out; have hnc17 := NB114_113.out; have hcz18_0 : w16.cell? ⟨gb113, 0, none⟩ = some (.slice A0_0 l0_0.length c0_0) := (blk_cell BK113.out 0).trans rfl; have hfz18_0 := blk_frozen BK113.out 0) | ((with_reducible refine gate_callee (f := 28) rfl ?_); refine goesL_ (some 8) rfl rfl Try.func28 (by kernel_rfl) rfl #[.agg #[.slice A0_0 l0_0.length c0_0], .slice A1 l1.length c1] rfl (by (try simp only [List.map_toArray, List.map_cons, List.map_nil]); first | done | rfl | (simp only [List.length_drop, List.length_take]; rfl)) ?_; (with_reducible refine (refcount_Counts_permitted.calls _ _ l0_0 _ _ l1 false _ ?side1 ?side2 ?side3 ?side4 A3.out).mono ?_); (case side1 => exact cU (Kd.C_below HR0_0.out HB.out)); (case side2 => exact HC0_0.out); (case side3 => exact cU (Kd.C_below HR1.out HB.out)); (case side4 => exact HC1.out); rintro e w19 ⟨rfl, hb⟩; refine ⟨_, rfl, ?_⟩; replace BK113 := Aside0.mk (blk_below (g := gb113) (o := .cells #[.slice A0_0 l0_0.length c0_0] 27 (0, 0)) (kU BK113.out) hb); replace BK114 := Aside0.mk (blk_below (g := gb114) (o := .cells #[.slice none 0 0] 27 (0, 0)) (kU BK114.out) hb); replace HB := Aside0.mk (below_step (by repeat (first | (with_reducible first | exact HB.out | apply below_alloc | apply pw_below_drewN | apply below_drew1 | refine below_set ?_ GE113.out | refine below_set ?_ GE114.out) | exact HB.out)) hb); (try clear hb); have hcz20_0 : w19.cell? ⟨gb114, 0, none⟩ = some (.slice none 0 0) := (blk_cell BK114.out 0).trans rfl; have hfz20_0 := blk_frozen BK114.out 0))
  refine bodyPost_ret (results_ct rfl _ _ gb114 27 #[.slice none 0 0] (0, 0) _ rfl (by (with_reducible repeat (first | refine blk_drewN ?_ _ | refine blk_drew ?_ | refine blk_alloc ?_ _)); refine blk_put (cs := #[.slice none 0 0]) ?_ 0 _ rfl; (with_reducible repeat (first | refine blk_drewN ?_ _ | refine blk_drew ?_ | refine blk_alloc ?_ _)); exact BK114.out) Try.underlying27 rfl (by kernel_rfl)) rfl ?_
  exact ⟨_, by first | rfl | (simp [errW_none, errW_some] <;> rfl) | (simp [*, errW_none, errW_some] <;> rfl), by first | exact Kd.R_nil _ _ _ _ _ | exact Kd.N_nil _ _ _ _ _ | exact Kd.V_nil _ _ _ _ _ | exact Kd.Q_nil _ _ _ _ _ | exact Kd.S_nil _ _ _ _ _, by repeat (first | (with_reducible first | exact HB.out | apply below_alloc | apply pw_below_drewN | apply below_drew1 | refine below_set ?_ GE113.out | refine below_set ?_ GE114.out) | exact HB.out)⟩

-- NOT PRINTED: function 46 (slices_IndexFunc_int_int)

-- MAKES
set_option maxHeartbeats 1000000 in
theorem neg_calls (x : Int) (w : World) : Calls Try.prog 33 #[.int .i64 x] w fun e w' => e = .returned (.bool (decide (x < 0))) ∧ Below w.heap.size w w' := by
 go_enter Try.func33, Try.ntmps33
 go_wp2
 go_ret
 exact ⟨rfl, Below.refl _ _⟩
set_option maxHeartbeats 2000000 in
theorem index_neg (A : Option Addr) (c : Nat) (l : List Int) (w : World) (hC : Kd.C (Kd.int .i64) w A l.length l) (hl : l.length ≤ 1000000000) :
  Calls Try.prog 46 #[.slice A l.length c, .func (.func 33) #[] #[]] w fun e w' => ∃ i : Int, e = .returned (.int .i64 i) ∧ decide (i ≥ 0) = l.any (fun x => decide (x < 0)) ∧ Below w.heap.size w w' := by
 have hu25 := Try.underlying25
 have HC := Aside0.mk hC
 clear hC
 obtain ⟨n, hn⟩ : ∃ n, n = l.length := ⟨_, rfl⟩
 rw [← hn] at hl ⊢
 have HN := Aside0.mk hn
 clear hn
 go_enter Try.func46, Try.ntmps46
 go_wp2
 go_loopg [5, 8] n (fun gg _ s8 wr => ∃ kk : Nat, kk ≤ n ∧ n - kk ≤ gg ∧ s8 = .int .i64 kk ∧ Aside0 ((l.take kk).any (fun x => decide (x < 0)) = false) ∧ Aside0 (Below w.heap.size w wr))
 case atStart => exact ⟨0, Nat.zero_le _, by omega, rfl, ⟨rfl⟩, ⟨Below.refl _ w⟩⟩
 case round =>
  obtain ⟨kk, hkk, hg, rfl, NO, BW⟩ := hrel
  by_cases hlt : kk < n
  ·
   have hltz : (kk : Int) < (n : Int) := by omega
   have hkl : kk < l.length := by rw [← HN.out]; exact hlt
   have hC1 := Kd.C_below HC.out BW.out
   obtain ⟨ad, e, hx0⟩ := Kd.at_int hC1 (kk : Int) (by omega) (by omega)
   cases e
   replace hx0 : wr.cell? (ad.add kk) = some (.int .i64 l[kk]) := by simpa [rd, List.getD_eq_getElem?_getD, List.getElem?_eq_getElem hkl] using hx0
   have hany : (l.take (kk + 1)).any (fun x => decide (x < 0)) = decide (l[kk] < 0) := by
    rw [List.take_succ_eq_append_getElem hkl, List.any_append, NO.out]; simp
   have hmem : l[kk] ∈ l := List.getElem_mem hkl
   clear hC1
   generalize l[kk] = y at hx0 hany hmem
   have HANY := Aside0.mk hany
   have HMEM := Aside0.mk hmem
   clear hany hmem
   by_cases hy : y < 0
   ·
    have hcall := neg_calls y wr
    rw [decide_eq_true hy] at hcall
    have HY := Aside0.mk hy
    have HH := Aside0.mk hcall
    clear hcall hy
    go_wp2_with fail
    refine HH.out.mono ?_
    clear hx0
    rintro e w' ⟨rfl, hb'⟩
    have HBB := Aside0.mk hb'
    clear hb'
    go_wp2_with fail
    go_ret
    exact ⟨_, rfl, by rw [decide_eq_true (by omega), eq_comm, List.any_eq_true]; exact ⟨y, HMEM.out, decide_eq_true HY.out⟩, BW.out.trans (HBB.out.mono BW.out.size)⟩
   ·
    have hcall := neg_calls y wr
    rw [decide_eq_false hy] at hcall HANY
    have HH := Aside0.mk hcall
    clear hcall hy
    go_wp2_with fail
    refine HH.out.mono ?_
    clear hx0
    rintro e w' ⟨rfl, hb'⟩
    have HBB := Aside0.mk hb'
    clear hb'
    go_wp2_with fail
    go_roundg (n - (kk + 1))
    case measure => omega
    case rel => exact ⟨kk + 1, by omega, by omega, by go_num, HANY, ⟨BW.out.trans (HBB.out.mono BW.out.size)⟩⟩
  ·
   have hkn : kk = n := by omega
   subst hkn
   go_wp2
   go_ret
   exact ⟨_, rfl, by have := NO.out; rw [HN.out, List.take_length] at this; rw [this]; rfl, BW.out⟩
def slices_ContainsFunc_int_int.f (l : List Int) : Option Bool := if l.length ≤ 1000000000 then some (l.any (fun x => decide (x < 0))) else none
set_option maxHeartbeats 1000000 in
theorem slices_ContainsFunc_int_int.calls (A0 : Option Addr) (c0 : Nat) (l0 : List Int) (r : Bool) (w : World) (hr0 : Kd.C (Kd.int .i64) w A0 l0.length l0) (hc0 : l0.length ≤ c0) (h : slices_ContainsFunc_int_int.f l0 = some r) :
  Calls Try.prog 32 #[.slice A0 l0.length c0, .func (.func 33) #[] #[]] w fun e w' => e = .returned (.bool r) ∧ Below w.heap.size w w' := by
 unfold slices_ContainsFunc_int_int.f at h
 split at h
 ·
  rename_i hl
  obtain rfl := Option.some.inj h
  have HH := Aside0.mk (index_neg A0 c0 l0 w hr0 hl)
  clear hr0 h hl
  go_enter Try.func32, Try.ntmps32
  go_wp2_with fail
  refine HH.out.mono ?_
  rintro e w1 ⟨i, rfl, hi, hb⟩
  have HB := Aside0.mk hb
  have HI := Aside0.mk hi
  clear hb hi
  go_wp2_with fail
  go_ret
  exact ⟨by rw [← HI.out]; rfl, HB.out⟩
 ·
  cases h

-- MAKES
/-- The cells of a list of extents. -/
def encE (x : S41) : List Value := [.int .i64 x.f0, .int .i64 x.f1, .int .i64 x.f2]
theorem encE_len (l : List S41) : (l.flatMap encE).length = l.length * 3 := by
 induction l with
 | nil => rfl
 | cons x l ih => simp only [List.flatMap_cons, List.length_append, ih, encE, List.length_cons, List.length_nil]; omega
theorem encE_one (l : List S41) : ∀ v ∈ l.flatMap encE, v.oneCell' = true := by
 intro v hv
 obtain ⟨x, _, hx⟩ := List.mem_flatMap.1 hv
 simp [encE] at hx
 rcases hx with rfl | rfl | rfl <;> rfl
theorem encE_take (l : List S41) (i : Nat) : (l.flatMap encE).take (i * 3) = (l.take i).flatMap encE := by
 induction l generalizing i with
 | nil => simp
 | cons x l ih =>
  cases i with
  | zero => simp
  | succ i => rw [List.flatMap_cons, show (i + 1) * 3 = (encE x).length + i * 3 by simp [encE]; omega, List.take_length_add_append, ih]; rfl
theorem encE_drop (l : List S41) (i : Nat) : (l.flatMap encE).drop (i * 3) = (l.drop i).flatMap encE := by
 induction l generalizing i with
 | nil => simp
 | cons x l ih =>
  cases i with
  | zero => simp
  | succ i => rw [List.flatMap_cons, show (i + 1) * 3 = (encE x).length + i * 3 by simp [encE]; omega, List.drop_length_add_append, ih]; rfl
theorem reps_enc {w : World} {b : Nat} {ok : Nat → Prop} : ∀ {ps : List S41} {cs : List Value}, Reps (k41.M w b ok) 3 ps cs → cs = ps.flatMap encE
 | [], cs, h => by have := h.1; simp at this; simpa using this
 | p :: ps, cs, h => by
  have h0 := h.2 0 p rfl
  have h0' := k41_openM h0
  have hl := h.1
  simp only [List.length_cons] at hl
  have hd : Reps (k41.M w b ok) 3 ps (cs.drop 3) := ⟨by rw [List.length_drop]; omega, fun j q hq => by
   have := h.2 (j + 1) q hq
   rw [List.drop_drop, show 3 + j * 3 = (j + 1) * 3 by omega]
   exact this⟩
  have ih := reps_enc hd
  rw [List.flatMap_cons, ← ih]
  simp only [Nat.zero_mul, List.drop_zero] at h0'
  have := List.take_append_drop 3 cs
  rw [h0'] at this
  exact this.symm
theorem enc_reps {w : World} {b : Nat} {ok : Nat → Prop} (ps : List S41) : Reps (k41.M w b ok) 3 ps (ps.flatMap encE) := by
 refine ⟨encE_len ps, fun j p hp => ?_⟩
 have hj := (List.getElem?_eq_some_iff.1 hp).1
 rw [encE_drop, List.drop_eq_getElem_cons hj, List.flatMap_cons, show 3 = (encE ps[j]).length by rfl, List.take_left]
 have hpj : ps[j] = p := (List.getElem?_eq_some_iff.1 hp).2
 rw [hpj]
 exact k41_mkM w b ok p
/-- The cells of a list of extents in a row. -/
theorem cells_at {w : World} {A : Option Addr} {n : Nat} {l : List S41} (h : Kd.C k41 w A n l) (hn : n = l.length) : ∀ j (hj : j < l.length), ∃ ad, A = some ad ∧ ad.block < w.heap.size ∧ w.cell? (ad.add (j * 3)) = some (.int .i64 (l[j]).f0) ∧ w.cell? ⟨(ad.add (j * 3)).block, (ad.add (j * 3)).off + 1, none⟩ = some (.int .i64 (l[j]).f1) ∧ w.cell? ⟨(ad.add (j * 3)).block, (ad.add (j * 3)).off + 2, none⟩ = some (.int .i64 (l[j]).f2) := by
 intro j hj
 obtain ⟨ad, e, c0, c1, c2⟩ := at_T41 h (j : Int) (by omega) (by omega)
 have hr : rd_T41 l (j : Int) = l[j] := by unfold rd_T41; rw [List.getD_eq_getElem?_getD, show (j : Int).toNat = j from by omega, List.getElem?_eq_getElem hj]; rfl
 rw [hr, show (j : Int).toNat = j from by omega] at c0 c1 c2
 have hb : (ad.add (j * 3)).block = ad.block := by unfold Addr.add; split <;> rfl
 exact ⟨ad, e, by rw [← hb]; exact World.block_lt_of_cell? w _ c0, c0, c1, c2⟩

set_option maxHeartbeats 2000000 in
/-- slices.Clone. -/
theorem clone_calls (A : Option Addr) (c : Nat) (l : List S41) (w : World) (hC : Kd.C k41 w A l.length l) (hl : l.length ≤ 1000000000) :
  Calls Try.prog 48 #[.slice A l.length c] w fun e w' => ∃ v : Value, e = .returned v ∧ Kd.R k41 41 w' w.heap.size (fun _ => True) v l ∧ Below w.heap.size w w' := by
 have hu41 := Try.underlying41
 have hu32 := Try.underlying32
 have q : ∀ (w : World) (a : Option Addr) (n c n' c' : Nat), (binOp .eql 32 (.slice a n c) (.slice none n' c')).run Try.prog w = .ok (.bool a.isNone) w := fun w a n c n' c' => Lib.run_eql_slice_nil w _ _ a n c n' c' Try.underlying32
 have HC := Aside0.mk hC
 clear hC
 cases A with
 | none =>
  have h0 : l = [] := by
   cases l with
   | nil => rfl
   | cons x l => obtain ⟨ad, e, _⟩ := cells_at HC.out rfl 0 (by simp); cases e
  subst h0
  go_enter Try.func48, Try.ntmps48
  go_wp2
  go_ret
  exact ⟨_, rfl, Kd.R_nil _ _ _ _ _, Below.refl _ _⟩
 | some ad =>
  go_enter Try.func48, Try.ntmps48
  go_wp2_with (first
   | ((with_reducible refine gate_dst (N := 5) rfl ?_); refine Kd.R_lit k41 _ 41 ?hg (N := 5) ?hd (xs := ([] : List (S41))) (inner := []) (ok := fun _ => True) (okp := fun _ => True) ?hr ?hp (fun _ hk => hk) trivial (Below.refl _ _) (Nat.le_refl _) (by simp) ?_; (case hd => rfl); (case hg => rfl); (case hr => first | (go_simp; done) | (go_simp; rfl)); (case hp => exact (Reps.none _ _)); intro v193 w3 ho4 hb hg_ hnew_; clear hg_ hnew_; have HO := Aside0.mk ho4; have HB := Aside0.mk hb; clear ho4 hb)
   | ((with_reducible refine gate_builtin (b := .append) (xs := #[.tmp 5, .tmp 6]) rfl ?_); at_builtin; refine Kd.R_append_rows k41 (w0 := w) w.heap.size rfl (.tmp 5) (.tmp 6) 32 41 (.agg #[(.int .i64 0), (.int .i64 0), (.int .i64 0)]) 24 rfl Try.underlying32 info41 rfl (by decide) (by omega) v193 [] l _ _ _ (fun _ => True) (fun _ => False) rfl rfl HO.out (Kd.C_below HC.out HB.out) (fun _ _ h => h) (fun _ h => h.elim) (fun _ _ => trivial) HB.out HB.out.size (by simp; omega) ?_; intro v196 w5 ho hb hg hat; have HO2 := Aside0.mk ho; have HB2 := Aside0.mk hb; clear ho hb hg hat))
  go_ret
  exact ⟨_, rfl, HO2.out, HB2.out⟩
def api_Extent_48.f (l : List S41) : Option (List S41) := if l.length ≤ 1000000000 then some l else none
theorem api_Extent_48.calls (A0 : Option Addr) (c0 : Nat) (l0 : List S41) (r : List S41) (w : World) (hr0 : Kd.C k41 w A0 l0.length l0) (hc0 : l0.length ≤ c0) (h : api_Extent_48.f l0 = some r) :
  Calls Try.prog 48 #[.slice A0 l0.length c0] w fun e w' => ∃ v0_ : Value, e = .returned (v0_) ∧ Kd.R k41 41 w' w.heap.size (fun _ => True) v0_ r ∧ Below w.heap.size w w' := by
 unfold api_Extent_48.f at h
 split at h
 ·
  rename_i hl
  obtain rfl := Option.some.inj h
  exact clone_calls A0 c0 l0 w hr0 hl
 ·
  cases h

/-! ### extent_within: function 55 -/
def extent_within.f (a0 : Int) (a1 : Int) (a2 : Int) : Option (Bool) := if a0 ≥ 0 then (if a1 ≥ 0 then (if a0 ≤ a2 then (some (decide (a1 ≤ (wrap64 (a2 - a0))))) else (some false)) else (some false)) else (some false)
set_option maxHeartbeats 8000000 in
set_option maxRecDepth 100000 in
theorem extent_within.calls (a0 : Int) (a1 : Int) (a2 : Int) (r : Bool) (w : World) (h : extent_within.f a0 a1 a2 = some r) :
  Calls Try.prog 55 #[.int .i64 a0, .int .i64 a1, .int .i64 a2] w fun e w' => e = .returned (.bool r) ∧ Drawn0 w w' := by
 have H : (if a0 ≥ 0 then (if a1 ≥ 0 then (if a0 ≤ a2 then (some (decide (a1 ≤ (wrap64 (a2 - a0))))) else (some false)) else (some false)) else (some false)) = some r := h
 clear h
 by_cases c4 : a0 ≥ 0
 ·
  rw [if_pos c4] at H
  have c4b0 := decide_eq_true c4
  clear c4
  by_cases c5 : a1 ≥ 0
  ·
   rw [if_pos c5] at H
   have c5b0 := decide_eq_true c5
   clear c5
   by_cases c6 : a0 ≤ a2
   ·
    rw [if_pos c6] at H
    have c6b0 := decide_eq_true c6
    clear c6
    obtain rfl := Option.some.inj H
    go_enter Try.func55, Try.ntmps55
    go_wp2
    go_ret
    exact ⟨by first | rfl | (simp; done) | (simp [*]; done), by repeat (first | exact Drawn0.refl _ | apply Drawn0.step)⟩
   ·
    rw [if_neg c6] at H
    have c6b0 := decide_eq_false c6
    clear c6
    obtain rfl := Option.some.inj H
    go_enter Try.func55, Try.ntmps55
    go_wp2
    go_ret
    exact ⟨by first | rfl | (simp; done) | (simp [*]; done), by repeat (first | exact Drawn0.refl _ | apply Drawn0.step)⟩
  ·
   rw [if_neg c5] at H
   have c5b0 := decide_eq_false c5
   clear c5
   obtain rfl := Option.some.inj H
   go_enter Try.func55, Try.ntmps55
   go_wp2
   go_ret
   exact ⟨by first | rfl | (simp; done) | (simp [*]; done), by repeat (first | exact Drawn0.refl _ | apply Drawn0.step)⟩
 ·
  rw [if_neg c4] at H
  have c4b0 := decide_eq_false c4
  clear c4
  obtain rfl := Option.some.inj H
  go_enter Try.func55, Try.ntmps55
  go_wp2
  go_ret
  exact ⟨by first | rfl | (simp; done) | (simp [*]; done), by repeat (first | exact Drawn0.refl _ | apply Drawn0.step)⟩

/-! ### extent_proper: function 50 -/
def extent_proper.f (a0_0 : Int) (a0_1 : Int) (a0_2 : Int) : Option (Bool) := if a0_1 ≥ 1 then ((extent_within.f a0_0 a0_1 65536).bind fun t120 => (if t120 = true then ((extent_within.f a0_2 a0_1 65536).bind fun t121 => (some t121)) else (some false))) else (some false)
set_option maxHeartbeats 8000000 in
set_option maxRecDepth 100000 in
theorem extent_proper.calls (a0_0 : Int) (a0_1 : Int) (a0_2 : Int) (r : Bool) (w : World) (h : extent_proper.f a0_0 a0_1 a0_2 = some r) :
  Calls Try.prog 50 #[.agg #[.int .i64 a0_0, .int .i64 a0_1, .int .i64 a0_2]] w fun e w' => e = .returned (.bool r) ∧ Below w.heap.size w w' := by
 have hu41 := Try.underlying41
 have HB := Aside0.mk (Below.refl w.heap.size w)
 have H : (if a0_1 ≥ 1 then ((extent_within.f a0_0 a0_1 65536).bind fun t120 => (if t120 = true then ((extent_within.f a0_2 a0_1 65536).bind fun t121 => (some t121)) else (some false))) else (some false)) = some r := h
 clear h
 by_cases c2 : a0_1 ≥ 1
 ·
  rw [if_pos c2] at H
  have c2b0 := decide_eq_true c2
  clear c2
  replace H := Option.bind_eq_some_iff.mp H
  obtain ⟨t120, A30, H⟩ := H
  replace H : (if t120 = true then ((extent_within.f a0_2 a0_1 65536).bind fun t121 => (some t121)) else (some false)) = some r := H
  have A3 := Aside0.mk A30
  clear A30
  by_cases c4 : t120 = true
  ·
   subst c4
   have H1 : ((extent_within.f a0_2 a0_1 65536).bind fun t121 => (some t121)) = some r := by rw [if_pos rfl] at H; exact H
   clear H
   have H := H1
   clear H1
   replace H := Option.bind_eq_some_iff.mp H
   obtain ⟨t121, A50, H⟩ := H
   replace H : (some t121) = some r := H
   have A5 := Aside0.mk A50
   clear A50
   obtain rfl := Option.some.inj H
   go_enter Try.func50, Try.ntmps50
   go_wp2_with (first | ((with_reducible refine gate_dst (N := 1) rfl ?_); refine box_event ?hg (N := 1) ?hd (cs := #[.int .i64 a0_0, .int .i64 a0_1, .int .i64 a0_2]) (t := 41) ?hr ?_; (case hd => rfl); (case hg => rfl); (case hr => first | (go_simp; done) | (go_simp; rfl)); intro gb119 hg w6 hbox hb; have BK119 := Aside0.mk (hbox); have GW119 := Aside0.mk ((by rw [hg]; exact (below_size (bU HB.out)) : w.heap.size ≤ gb119)); have GE119 := Aside0.mk ((by rw [hg]; exact (below_size (bU HB.out)) : w.heap.size ≤ gb119)); replace HB := Aside0.mk (below_step (bU HB.out) hb); clear hb hbox hg; have hcz7_0 : w6.cell? ⟨gb119, 0, none⟩ = some (.int .i64 a0_0) := (blk_cell BK119.out 0).trans rfl; have hcz7_1 : w6.cell? ⟨gb119, 1, none⟩ = some (.int .i64 a0_1) := (blk_cell BK119.out 1).trans rfl; have hcz7_2 : w6.cell? ⟨gb119, 2, none⟩ = some (.int .i64 a0_2) := (blk_cell BK119.out 2).trans rfl; have hfz7_0 := blk_frozen BK119.out 0; have hfz7_1 := blk_frozen BK119.out 1; have hfz7_2 := blk_frozen BK119.out 2) | (go_at_call 55; (with_reducible refine (extent_within.calls a0_0 a0_1 65536 true _ A3.out).mono ?_); rintro e w' ⟨rfl, ⟨nd, rfl⟩⟩) | (go_at_call 55; (with_reducible refine (extent_within.calls a0_2 a0_1 65536 t121 _ A5.out).mono ?_); rintro e w' ⟨rfl, ⟨nd, rfl⟩⟩))
   go_ret
   exact ⟨by first | rfl | (simp [errW_none, errW_some] <;> rfl) | (simp [*, errW_none, errW_some] <;> rfl), by repeat (first | (with_reducible first | exact HB.out | apply below_alloc | apply pw_below_drewN | apply below_drew1 | refine below_set ?_ GE119.out) | exact HB.out)⟩
  ·
   replace c4 := Bool.eq_false_iff.mpr c4
   subst c4
   have H1 : (some false) = some r := by rw [if_neg (show ¬ (false = true) by decide)] at H; exact H
   clear H
   have H := H1
   clear H1
   obtain rfl := Option.some.inj H
   go_enter Try.func50, Try.ntmps50
   go_wp2_with (first | ((with_reducible refine gate_dst (N := 1) rfl ?_); refine box_event ?hg (N := 1) ?hd (cs := #[.int .i64 a0_0, .int .i64 a0_1, .int .i64 a0_2]) (t := 41) ?hr ?_; (case hd => rfl); (case hg => rfl); (case hr => first | (go_simp; done) | (go_simp; rfl)); intro gb119 hg w8 hbox hb; have BK119 := Aside0.mk (hbox); have GW119 := Aside0.mk ((by rw [hg]; exact (below_size (bU HB.out)) : w.heap.size ≤ gb119)); have GE119 := Aside0.mk ((by rw [hg]; exact (below_size (bU HB.out)) : w.heap.size ≤ gb119)); replace HB := Aside0.mk (below_step (bU HB.out) hb); clear hb hbox hg; have hcz9_0 : w8.cell? ⟨gb119, 0, none⟩ = some (.int .i64 a0_0) := (blk_cell BK119.out 0).trans rfl; have hcz9_1 : w8.cell? ⟨gb119, 1, none⟩ = some (.int .i64 a0_1) := (blk_cell BK119.out 1).trans rfl; have hcz9_2 : w8.cell? ⟨gb119, 2, none⟩ = some (.int .i64 a0_2) := (blk_cell BK119.out 2).trans rfl; have hfz9_0 := blk_frozen BK119.out 0; have hfz9_1 := blk_frozen BK119.out 1; have hfz9_2 := blk_frozen BK119.out 2) | (go_at_call 55; (with_reducible refine (extent_within.calls a0_0 a0_1 65536 false _ A3.out).mono ?_); rintro e w' ⟨rfl, ⟨nd, rfl⟩⟩))
   go_ret
   exact ⟨by first | rfl | (simp [errW_none, errW_some] <;> rfl) | (simp [*, errW_none, errW_some] <;> rfl), by repeat (first | (with_reducible first | exact HB.out | apply below_alloc | apply pw_below_drewN | apply below_drew1 | refine below_set ?_ GE119.out) | exact HB.out)⟩
 ·
  rw [if_neg c2] at H
  have c2b0 := decide_eq_false c2
  clear c2
  obtain rfl := Option.some.inj H
  go_enter Try.func50, Try.ntmps50
  go_wp2_with (first | ((with_reducible refine gate_dst (N := 1) rfl ?_); refine box_event ?hg (N := 1) ?hd (cs := #[.int .i64 a0_0, .int .i64 a0_1, .int .i64 a0_2]) (t := 41) ?hr ?_; (case hd => rfl); (case hg => rfl); (case hr => first | (go_simp; done) | (go_simp; rfl)); intro gb119 hg w10 hbox hb; have BK119 := Aside0.mk (hbox); have GW119 := Aside0.mk ((by rw [hg]; exact (below_size (bU HB.out)) : w.heap.size ≤ gb119)); have GE119 := Aside0.mk ((by rw [hg]; exact (below_size (bU HB.out)) : w.heap.size ≤ gb119)); replace HB := Aside0.mk (below_step (bU HB.out) hb); clear hb hbox hg; have hcz11_0 : w10.cell? ⟨gb119, 0, none⟩ = some (.int .i64 a0_0) := (blk_cell BK119.out 0).trans rfl; have hcz11_1 : w10.cell? ⟨gb119, 1, none⟩ = some (.int .i64 a0_1) := (blk_cell BK119.out 1).trans rfl; have hcz11_2 : w10.cell? ⟨gb119, 2, none⟩ = some (.int .i64 a0_2) := (blk_cell BK119.out 2).trans rfl; have hfz11_0 := blk_frozen BK119.out 0; have hfz11_1 := blk_frozen BK119.out 1; have hfz11_2 := blk_frozen BK119.out 2))
  go_ret
  exact ⟨by first | rfl | (simp [errW_none, errW_some] <;> rfl) | (simp [*, errW_none, errW_some] <;> rfl), by repeat (first | (with_reducible first | exact HB.out | apply below_alloc | apply pw_below_drewN | apply below_drew1 | refine below_set ?_ GE119.out) | exact HB.out)⟩

-- NOT PRINTED: function 54 (api_Extent_54)

end Go.Proofs.Ytnloofhpdlggnaa.PRefcountLarge
