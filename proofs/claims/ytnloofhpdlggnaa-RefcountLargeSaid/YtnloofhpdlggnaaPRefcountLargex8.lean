-- Written for this claim by a program of this session (wip/), out of the translation's own print: Lean checks it
import Derived.Test.YtnloofhpdlggnaaPRefcountLargex0
import Derived.Test.YtnloofhpdlggnaaWGuard
namespace Go.Proofs.Ytnloofhpdlggnaa.PRefcountLarge
open Go.RowKit Go.Proofs.YtnloofhpdlggnaaW.PrintWords Go.Proofs.YtnloofhpdlggnaaW.PrintLast Go.Proofs.YtnloofhpdlggnaaW.PrintMore
attribute [local go_sem] max2_int min2_int max_two min_two max_three min_three max_four min_four   -- for this text's walks alone
set_option linter.unusedVariables false
set_option linter.unusedSimpArgs false

/-! ### refcount_Counts_Single: function 24 -/
mutual
def refcount_Counts_Single.l0 : Nat → List Bool → Int → List (S41) → Int → Int → List Int → Option (Int)
 | 0, _, _, _, _, _, _ => none
 | k + 1, x5, x6, x15, x16, x17, x212000 => if x17 < x16 then (if 0 ≤ x17 then (if x17 < (x15.length : Int) then (if ((rd_T41 x15 x17).f2) < 0 then (refcount_Counts_Single.j1 k x5 x6 (x212000.length : Int) x15 x16 x17 true x212000 ((rd_T41 x15 x17).f0) ((rd_T41 x15 x17).f1) ((rd_T41 x15 x17).f2)) else (refcount_Counts_Single.j1 k x5 x6 (x212000.length : Int) x15 x16 x17 (decide (((rd_T41 x15 x17).f1) ≤ (wrap64 ((x212000.length : Int) - (mn ((rd_T41 x15 x17).f2) (x212000.length : Int)))))) x212000 ((rd_T41 x15 x17).f0) ((rd_T41 x15 x17).f1) ((rd_T41 x15 x17).f2))) else (none)) else (none)) else (some x6)
def refcount_Counts_Single.j1 : Nat → List Bool → Int → Int → List (S41) → Int → Int → Bool → List Int → Int → Int → Int → Option (Int)
 | 0, _, _, _, _, _, _, _, _, _, _, _ => none
 | k + 1, x5, x6, x9, x15, x16, x17, x37, x212000, x217000, x217001, x217002 => if x37 = true then (refcount_Counts_Single.j2 k x5 x6 (mn x9 (wrap64 (x217002 + x217001))) x15 x16 x17 x212000 x217000 x217001 x217002) else (refcount_Counts_Single.j2 k x5 x6 x9 x15 x16 x17 x212000 x217000 x217001 x217002)
def refcount_Counts_Single.j2 : Nat → List Bool → Int → Int → List (S41) → Int → Int → List Int → Int → Int → Int → Option (Int)
 | 0, _, _, _, _, _, _, _, _, _, _ => none
 | k + 1, x5, x6, x9, x15, x16, x17, x212000, x217000, x217001, x217002 => if x217001 < 1 then (refcount_Counts_Single.j3 k x5 x6 0 x15 x16 x17 x212000 x217000 x217001 x217002) else (refcount_Counts_Single.j3 k x5 x6 x9 x15 x16 x17 x212000 x217000 x217001 x217002)
def refcount_Counts_Single.j3 : Nat → List Bool → Int → Int → List (S41) → Int → Int → List Int → Int → Int → Int → Option (Int)
 | 0, _, _, _, _, _, _, _, _, _, _ => none
 | k + 1, x5, x6, x9, x15, x16, x17, x212000, x217000, x217001, x217002 => refcount_Counts_Single.l1 k x5 x6 x9 (mx x217002 0) x15 x16 x17 x212000
def refcount_Counts_Single.l1 : Nat → List Bool → Int → Int → Int → List (S41) → Int → Int → List Int → Option (Int)
 | 0, _, _, _, _, _, _, _, _ => none
 | k + 1, x5, x6, x9, x10, x15, x16, x17, x212000 => if x10 < x9 then (if 0 ≤ x10 then (if x10 < (x5.length : Int) then (if rdOf false x5 x10 = true then (refcount_Counts_Single.l1 k (x5.set (x10 : Int).toNat true) x6 x9 (wrap64 (x10 + 1)) x15 x16 x17 x212000) else (if x10 < (x212000.length : Int) then (if (rd x212000 x10) = 1 then (refcount_Counts_Single.l1 k (x5.set (x10 : Int).toNat true) (wrap64 (x6 + 1)) x9 (wrap64 (x10 + 1)) x15 x16 x17 x212000) else (refcount_Counts_Single.l1 k (x5.set (x10 : Int).toNat true) x6 x9 (wrap64 (x10 + 1)) x15 x16 x17 x212000)) else (none))) else (none)) else (none)) else (refcount_Counts_Single.l0 k x5 x6 x15 x16 (wrap64 (x17 + 1)) x212000)
end
def refcount_Counts_Single.f (k : Nat) (l0_0 : List Int) (l1 : List (S41)) : Option (Int) := if 0 ≤ (l0_0.length : Int) then (if ((l0_0.length : Int) : Int).toNat ≤ 281474976710656 then (refcount_Counts_Single.l0 k (List.replicate ((l0_0.length : Int) : Int).toNat false) 0 l1 (l1.length : Int) 0 l0_0) else (none)) else (none)
theorem refcount_Counts_Single.mono_l : ∀ k, (∀ y0 y1 y2 y3 y4 y5, LeO (refcount_Counts_Single.l0 k y0 y1 y2 y3 y4 y5) (refcount_Counts_Single.l0 (k + 1) y0 y1 y2 y3 y4 y5)) ∧ (∀ y0 y1 y2 y3 y4 y5 y6 y7 y8 y9 y10, LeO (refcount_Counts_Single.j1 k y0 y1 y2 y3 y4 y5 y6 y7 y8 y9 y10) (refcount_Counts_Single.j1 (k + 1) y0 y1 y2 y3 y4 y5 y6 y7 y8 y9 y10)) ∧ (∀ y0 y1 y2 y3 y4 y5 y6 y7 y8 y9, LeO (refcount_Counts_Single.j2 k y0 y1 y2 y3 y4 y5 y6 y7 y8 y9) (refcount_Counts_Single.j2 (k + 1) y0 y1 y2 y3 y4 y5 y6 y7 y8 y9)) ∧ (∀ y0 y1 y2 y3 y4 y5 y6 y7 y8 y9, LeO (refcount_Counts_Single.j3 k y0 y1 y2 y3 y4 y5 y6 y7 y8 y9) (refcount_Counts_Single.j3 (k + 1) y0 y1 y2 y3 y4 y5 y6 y7 y8 y9)) ∧ (∀ y0 y1 y2 y3 y4 y5 y6 y7, LeO (refcount_Counts_Single.l1 k y0 y1 y2 y3 y4 y5 y6 y7) (refcount_Counts_Single.l1 (k + 1) y0 y1 y2 y3 y4 y5 y6 y7))
 | 0 => ⟨fun _ _ _ _ _ _ r h => by simp [refcount_Counts_Single.l0] at h, fun _ _ _ _ _ _ _ _ _ _ _ r h => by simp [refcount_Counts_Single.j1] at h, fun _ _ _ _ _ _ _ _ _ _ r h => by simp [refcount_Counts_Single.j2] at h, fun _ _ _ _ _ _ _ _ _ _ r h => by simp [refcount_Counts_Single.j3] at h, fun _ _ _ _ _ _ _ _ r h => by simp [refcount_Counts_Single.l1] at h⟩
 | k + 1 => by
  obtain ⟨ih0, ih1, ih2, ih3, ih4⟩ := refcount_Counts_Single.mono_l k
  refine ⟨?_, ?_, ?_, ?_, ?_⟩
  ·
   intro y0 y1 y2 y3 y4 y5
   unfold refcount_Counts_Single.l0
   repeat' first
   | (with_reducible exact ih0 _ _ _ _ _ _)
   | (with_reducible exact ih1 _ _ _ _ _ _ _ _ _ _ _)
   | (with_reducible exact ih2 _ _ _ _ _ _ _ _ _ _)
   | (with_reducible exact ih3 _ _ _ _ _ _ _ _ _ _)
   | (with_reducible exact ih4 _ _ _ _ _ _ _ _)
   | (with_reducible exact LeO.refl _)
   | (with_reducible exact LeO.none _)
   | (with_reducible refine LeO.ite ?_ ?_)
   | (with_reducible refine LeO.bind ?_ (fun _ => ?_))
   | exact ih0 _ _ _ _ _ _
   | exact ih1 _ _ _ _ _ _ _ _ _ _ _
   | exact ih2 _ _ _ _ _ _ _ _ _ _
   | exact ih3 _ _ _ _ _ _ _ _ _ _
   | exact ih4 _ _ _ _ _ _ _ _
   | exact LeO.none _
   | refine LeO.ite ?_ ?_
   | refine LeO.bind ?_ (fun _ => ?_)
  ·
   intro y0 y1 y2 y3 y4 y5 y6 y7 y8 y9 y10
   unfold refcount_Counts_Single.j1
   repeat' first
   | (with_reducible exact ih0 _ _ _ _ _ _)
   | (with_reducible exact ih1 _ _ _ _ _ _ _ _ _ _ _)
   | (with_reducible exact ih2 _ _ _ _ _ _ _ _ _ _)
   | (with_reducible exact ih3 _ _ _ _ _ _ _ _ _ _)
   | (with_reducible exact ih4 _ _ _ _ _ _ _ _)
   | (with_reducible exact LeO.refl _)
   | (with_reducible exact LeO.none _)
   | (with_reducible refine LeO.ite ?_ ?_)
   | (with_reducible refine LeO.bind ?_ (fun _ => ?_))
   | exact ih0 _ _ _ _ _ _
   | exact ih1 _ _ _ _ _ _ _ _ _ _ _
   | exact ih2 _ _ _ _ _ _ _ _ _ _
   | exact ih3 _ _ _ _ _ _ _ _ _ _
   | exact ih4 _ _ _ _ _ _ _ _
   | exact LeO.none _
   | refine LeO.ite ?_ ?_
   | refine LeO.bind ?_ (fun _ => ?_)
  ·
   intro y0 y1 y2 y3 y4 y5 y6 y7 y8 y9
   unfold refcount_Counts_Single.j2
   repeat' first
   | (with_reducible exact ih0 _ _ _ _ _ _)
   | (with_reducible exact ih1 _ _ _ _ _ _ _ _ _ _ _)
   | (with_reducible exact ih2 _ _ _ _ _ _ _ _ _ _)
   | (with_reducible exact ih3 _ _ _ _ _ _ _ _ _ _)
   | (with_reducible exact ih4 _ _ _ _ _ _ _ _)
   | (with_reducible exact LeO.refl _)
   | (with_reducible exact LeO.none _)
   | (with_reducible refine LeO.ite ?_ ?_)
   | (with_reducible refine LeO.bind ?_ (fun _ => ?_))
   | exact ih0 _ _ _ _ _ _
   | exact ih1 _ _ _ _ _ _ _ _ _ _ _
   | exact ih2 _ _ _ _ _ _ _ _ _ _
   | exact ih3 _ _ _ _ _ _ _ _ _ _
   | exact ih4 _ _ _ _ _ _ _ _
   | exact LeO.none _
   | refine LeO.ite ?_ ?_
   | refine LeO.bind ?_ (fun _ => ?_)
  ·
   intro y0 y1 y2 y3 y4 y5 y6 y7 y8 y9
   unfold refcount_Counts_Single.j3
   repeat' first
   | (with_reducible exact ih0 _ _ _ _ _ _)
   | (with_reducible exact ih1 _ _ _ _ _ _ _ _ _ _ _)
   | (with_reducible exact ih2 _ _ _ _ _ _ _ _ _ _)
   | (with_reducible exact ih3 _ _ _ _ _ _ _ _ _ _)
   | (with_reducible exact ih4 _ _ _ _ _ _ _ _)
   | (with_reducible exact LeO.refl _)
   | (with_reducible exact LeO.none _)
   | (with_reducible refine LeO.ite ?_ ?_)
   | (with_reducible refine LeO.bind ?_ (fun _ => ?_))
   | exact ih0 _ _ _ _ _ _
   | exact ih1 _ _ _ _ _ _ _ _ _ _ _
   | exact ih2 _ _ _ _ _ _ _ _ _ _
   | exact ih3 _ _ _ _ _ _ _ _ _ _
   | exact ih4 _ _ _ _ _ _ _ _
   | exact LeO.none _
   | refine LeO.ite ?_ ?_
   | refine LeO.bind ?_ (fun _ => ?_)
  ·
   intro y0 y1 y2 y3 y4 y5 y6 y7
   unfold refcount_Counts_Single.l1
   repeat' first
   | (with_reducible exact ih0 _ _ _ _ _ _)
   | (with_reducible exact ih1 _ _ _ _ _ _ _ _ _ _ _)
   | (with_reducible exact ih2 _ _ _ _ _ _ _ _ _ _)
   | (with_reducible exact ih3 _ _ _ _ _ _ _ _ _ _)
   | (with_reducible exact ih4 _ _ _ _ _ _ _ _)
   | (with_reducible exact LeO.refl _)
   | (with_reducible exact LeO.none _)
   | (with_reducible refine LeO.ite ?_ ?_)
   | (with_reducible refine LeO.bind ?_ (fun _ => ?_))
   | exact ih0 _ _ _ _ _ _
   | exact ih1 _ _ _ _ _ _ _ _ _ _ _
   | exact ih2 _ _ _ _ _ _ _ _ _ _
   | exact ih3 _ _ _ _ _ _ _ _ _ _
   | exact ih4 _ _ _ _ _ _ _ _
   | exact LeO.none _
   | refine LeO.ite ?_ ?_
   | refine LeO.bind ?_ (fun _ => ?_)
theorem refcount_Counts_Single.mono : ∀ a0 a1 k, LeO (refcount_Counts_Single.f k a0 a1) (refcount_Counts_Single.f (k + 1) a0 a1) := by
 intro a0 a1 k
 obtain ⟨ih0, ih1, ih2, ih3, ih4⟩ := refcount_Counts_Single.mono_l k
 unfold refcount_Counts_Single.f
 repeat' first
   | (with_reducible exact ih0 _ _ _ _ _ _)
   | (with_reducible exact ih1 _ _ _ _ _ _ _ _ _ _ _)
   | (with_reducible exact ih2 _ _ _ _ _ _ _ _ _ _)
   | (with_reducible exact ih3 _ _ _ _ _ _ _ _ _ _)
   | (with_reducible exact ih4 _ _ _ _ _ _ _ _)
   | (with_reducible exact LeO.refl _)
   | (with_reducible exact LeO.none _)
   | (with_reducible refine LeO.ite ?_ ?_)
   | (with_reducible refine LeO.bind ?_ (fun _ => ?_))
   | exact ih0 _ _ _ _ _ _
   | exact ih1 _ _ _ _ _ _ _ _ _ _ _
   | exact ih2 _ _ _ _ _ _ _ _ _ _
   | exact ih3 _ _ _ _ _ _ _ _ _ _
   | exact ih4 _ _ _ _ _ _ _ _
   | exact LeO.none _
   | refine LeO.ite ?_ ?_
   | refine LeO.bind ?_ (fun _ => ?_)
set_option maxHeartbeats 8000000 in
set_option maxRecDepth 100000 in
theorem refcount_Counts_Single.calls (k : Nat) (A0_0 : Option Addr) (c0_0 : Nat) (l0_0 : List Int) (A1 : Option Addr) (c1 : Nat) (l1 : List (S41)) (r : Int) (w : World) (hr0_0 : Kd.C (Kd.int .i64) w A0_0 l0_0.length l0_0) (hc0_0 : l0_0.length ≤ c0_0) (hr1 : Kd.C k41 w A1 l1.length l1) (hc1 : l1.length ≤ c1) (h : refcount_Counts_Single.f k l0_0 l1 = some r) :
  Calls Try.prog 24 #[.agg #[.slice A0_0 l0_0.length c0_0], .slice A1 l1.length c1] w fun e w' => e = .returned (.int .i64 r) ∧ Below w.heap.size w w' := by
 have hu27 := Try.underlying27
 have hu41 := Try.underlying41
 have HR0_0 := Aside0.mk hr0_0
 have HC0_0 := Aside0.mk hc0_0
 clear hr0_0 hc0_0
 have HR1 := Aside0.mk hr1
 have HC1 := Aside0.mk hc1
 clear hr1 hc1
 have HB := Aside0.mk (Below.refl w.heap.size w)
 have H : (if 0 ≤ (l0_0.length : Int) then (if ((l0_0.length : Int) : Int).toNat ≤ 281474976710656 then (refcount_Counts_Single.l0 k (List.replicate ((l0_0.length : Int) : Int).toNat false) 0 l1 (l1.length : Int) 0 l0_0) else (none)) else (none)) = some r := h
 clear h
 by_cases c3 : 0 ≤ (l0_0.length : Int)
 ·
  rw [if_pos c3] at H
  have c3b0 := eq_true c3
  have c3b1 := decide_eq_true c3
  clear c3
  by_cases c4 : ((l0_0.length : Int) : Int).toNat ≤ 281474976710656
  ·
   rw [if_pos c4] at H
   have c4b0 := eq_true c4
   have c4b1 := decide_eq_true c4
   clear c4
   obtain ⟨y212, hy212⟩ : ∃ y_ : List Bool, y_ = (List.replicate ((l0_0.length : Int) : Int).toNat false) := ⟨_, rfl⟩
   replace H : (refcount_Counts_Single.l0 k y212 0 l1 (l1.length : Int) 0 l0_0) = some r := by first | (rw [hy212]; exact H) | exact H
   have Ny212 := Aside0.mk hy212
   clear hy212
   have H' := Aside0.mk H
   clear H
   go_enter Try.func24, Try.ntmps24
   go_wp2_with (first | ((with_reducible refine gate_dst (N := 2) rfl ?_); (try (refine gate_guard (by rfl) ?_; dsimp only)); refine box_event ?hg (N := 2) ?hd (cs := #[.slice A0_0 l0_0.length c0_0]) (t := 27) ?hr ?_; (case hd => rfl); (case hg => rfl); (case hr => first | (go_simp; done) | (go_simp; rfl)); intro gb211 hg w5 hbox hb; have BK211 := Aside0.mk (hbox); have GW211 := Aside0.mk ((by rw [hg]; exact (below_size (bU HB.out)) : w.heap.size ≤ gb211)); have GE211 := Aside0.mk ((by rw [hg]; exact (below_size (bU HB.out)) : w.heap.size ≤ gb211)); replace HB := Aside0.mk (below_step (bU HB.out) hb); clear hb hbox hg; have hcz6_0 : w5.cell? ⟨gb211, 0, none⟩ = some (.slice A0_0 l0_0.length c0_0) := (blk_cell BK211.out 0).trans rfl; have hfz6_0 := blk_frozen BK211.out 0) | ((with_reducible refine gate_dst (N := 14) rfl ?_); (try (refine gate_guard (by rfl) ?_; dsimp only)); refine Kd.R_make Kd.bool _ 4 rfl (N := 14) rfl 68 _ _ rfl (l0_0.length : Int) rfl rfl Try.underlying68 (.bool false) 1 info4 rfl (by decide) (by omega) false (ok := fun _ => True) (okp := fun _ => True) rfl (fun _ hk => hk) trivial (of_decide_eq_true (by first | (with_reducible assumption) | assumption)) (Nat.le_trans (Nat.mul_le_mul_right _ (of_decide_eq_true (by first | (with_reducible assumption) | assumption) : (l0_0.length : Int).toNat ≤ 281474976710656)) (by omega)) (Below.refl _ _) (Nat.le_refl _) ?_; intro v213 w7 ho8 hb hg_ hnew_; clear hg_ hnew_; (first | rw [← Ny212.out] at ho8 | (simp only [Int.reduceToNat] at ho8; rw [← Ny212.out] at ho8)); have HO214 := Aside0.mk (Kd.R_lower ho8 (below_size (by repeat (first | (with_reducible first | exact HB.out | apply below_alloc | apply pw_below_drewN | apply below_drew1 | refine below_set ?_ GE211.out) | exact HB.out)))); replace BK211 := Aside0.mk (blk_below (g := gb211) (o := .cells #[.slice A0_0 l0_0.length c0_0] 27 (0, 0)) (kU BK211.out) hb); replace HB := Aside0.mk (below_step (by repeat (first | (with_reducible first | exact HB.out | apply below_alloc | apply pw_below_drewN | apply below_drew1 | refine below_set ?_ GE211.out) | exact HB.out)) hb); clear hb ho8))
   go_loopg [6, 17] k (fun kq v6 v17 w' => ∃ (x5_1 : List Bool) (x6_1 : Int) (x17_1 : Int), v6 = .int .i64 x6_1 ∧ v17 = .int .i64 x17_1 ∧ Aside0 (refcount_Counts_Single.l0 kq x5_1 x6_1 l1 (l1.length : Int) x17_1 l0_0 = some r) ∧ Aside0 (kq ≤ k) ∧ Aside0 (Kd.R Kd.bool 4 w' w.heap.size (fun _ => True) v213 x5_1) ∧ Aside0 (w'.heap[gb211]? = some (.cells #[(.slice A0_0 l0_0.length c0_0)] 27 (0, 0))) ∧ Aside0 (Below w.heap.size w w'))
   case atStart => exact ⟨(y212), (0), (0), (by first | rfl | (simp; done) | (simp [*]; done)), (by first | rfl | (simp; done) | (simp [*]; done)), H', ⟨Nat.le_refl _⟩, ⟨rU HO214.out⟩, ⟨by (with_reducible repeat (first | refine blk_drewN ?_ _ | refine blk_drew ?_ | refine blk_alloc ?_ _)); exact BK211.out⟩, ⟨by repeat (first | (with_reducible first | exact HB.out | apply below_alloc | apply pw_below_drewN | apply below_drew1 | refine below_set ?_ GE211.out) | exact HB.out)⟩⟩
   case round =>
    clear H'
    try clear c1
    try clear c2
    try clear p2
    try clear c3
    try clear c3b0
    try clear c3b1
    try clear c4
    try clear c4b0
    try clear c4b1
    try clear hcz6_0
    try clear hfz6_0
    obtain ⟨x5_1, x6_1, x17_1, rfl, rfl, HA, HK1, HO_5, BK211, HB⟩ := hrel
    cases gk with
    | zero => exact absurd HA.out (by simp [refcount_Counts_Single.l0])
    | succ k1 =>
     have H := HA.out
     clear HA
     simp only [refcount_Counts_Single.l0] at H
     by_cases c9 : x17_1 < (l1.length : Int)
     ·
      rw [if_pos c9] at H
      have c9b0 := decide_eq_true c9
      clear c9
      by_cases c10 : 0 ≤ x17_1
      ·
       rw [if_pos c10] at H
       have c10b0 := decide_eq_true c10
       clear c10
       by_cases c11 : x17_1 < (l1.length : Int)
       ·
        rw [if_pos c11] at H
        have c11b0 := decide_eq_true c11
        clear c11
        have HC12 := Aside0.mk H
        clear H
        have p215 : 0 ≤ (x17_1 : Int) := of_decide_eq_true (by first | (with_reducible assumption) | assumption)
        have q215 : x17_1 < (l1.length : Int) := of_decide_eq_true (by first | (with_reducible assumption) | assumption)
        obtain ⟨ad215, e215, hx215_0, hx215_1, hx215_2⟩ := at_T41 HR1.out x17_1 p215 q215
        cases e215
        replace hx215_0 := (HB.out.cell (World.block_lt_of_cell? w _ hx215_0)).trans hx215_0
        replace hx215_1 := (HB.out.cell (World.block_lt_of_cell? w _ hx215_1)).trans hx215_1
        replace hx215_2 := (HB.out.cell (World.block_lt_of_cell? w _ hx215_2)).trans hx215_2
        replace p215 := eq_true p215
        replace q215 := eq_true q215
        go_upto_region 7 with (first | ((with_reducible refine gate_dst (N := 8) rfl ?_); (try (refine gate_guard (by rfl) ?_; dsimp only)); refine box_event ?hg (N := 8) ?hd (cs := #[.int .i64 0, .int .i64 0, .int .i64 0]) (t := 41) ?hr ?_; (case hd => rfl); (case hg => rfl); (case hr => first | (go_simp; done) | (go_simp; rfl)); intro gb216 hg w13 hbox hb; replace HO_5 := Aside0.mk (Kd.R_below (rU HO_5.out) hb); have BK216 := Aside0.mk (hbox); have GW216 := Aside0.mk ((by rw [hg]; exact (below_size (by repeat (first | (with_reducible first | exact HB.out | apply below_alloc | apply pw_below_drewN | apply below_drew1 | refine below_set ?_ GE211.out) | exact HB.out))) : w.heap.size ≤ gb216)); have GE216 := Aside0.mk ((by rw [hg]; exact (below_size (by repeat (first | (with_reducible first | exact HB.out | apply below_alloc | apply pw_below_drewN | apply below_drew1 | refine below_set ?_ GE211.out) | exact HB.out))) : w.heap.size ≤ gb216)); replace HB := Aside0.mk (below_step (by repeat (first | (with_reducible first | exact HB.out | apply below_alloc | apply pw_below_drewN | apply below_drew1 | refine below_set ?_ GE211.out) | exact HB.out)) hb); have NB211_216 := Aside0.mk ((by rw [hg]; exact Nat.ne_of_lt (blk_lt (g := gb211) (o := .cells #[.slice A0_0 l0_0.length c0_0] 27 (0, 0)) (kU BK211.out)) : gb211 ≠ gb216)); have NB216_211 := Aside0.mk ((by rw [hg]; exact Nat.ne_of_gt (blk_lt (g := gb211) (o := .cells #[.slice A0_0 l0_0.length c0_0] 27 (0, 0)) (kU BK211.out)) : gb216 ≠ gb211)); replace BK211 := Aside0.mk (blk_below (g := gb211) (o := .cells #[.slice A0_0 l0_0.length c0_0] 27 (0, 0)) (kU BK211.out) hb); clear hb hbox hg; have hnb14 := NB216_211.out; have hnc14 := NB211_216.out; have hcz15_0 : w13.cell? ⟨gb216, 0, none⟩ = some (.int .i64 0) := (blk_cell BK216.out 0).trans rfl; have hcz15_1 : w13.cell? ⟨gb216, 1, none⟩ = some (.int .i64 0) := (blk_cell BK216.out 1).trans rfl; have hcz15_2 : w13.cell? ⟨gb216, 2, none⟩ = some (.int .i64 0) := (blk_cell BK216.out 2).trans rfl; have hfz15_0 := blk_frozen BK216.out 0; have hfz15_1 := blk_frozen BK216.out 1; have hfz15_2 := blk_frozen BK216.out 2; have hcz16_0 : w13.cell? ⟨gb211, 0, none⟩ = some (.slice A0_0 l0_0.length c0_0) := (blk_cell BK211.out 0).trans rfl; have hfz16_0 := blk_frozen BK211.out 0))
        (try simp only [Act.put, List.setIfInBounds_toArray, List.set_cons_zero, List.set_cons_succ])
        go_cut [37] (fun v37 wc => ∃ (kq : Nat) (x37_11 : Bool), v37 = .bool x37_11 ∧ Aside0 (refcount_Counts_Single.j1 kq x5_1 x6_1 (l0_0.length : Int) l1 (l1.length : Int) x17_1 x37_11 l0_0 ((rd_T41 l1 x17_1).f0) ((rd_T41 l1 x17_1).f1) ((rd_T41 l1 x17_1).f2) = some r) ∧ Aside0 (kq ≤ k1) ∧ Aside0 (Kd.R Kd.bool 4 wc w.heap.size (fun _ => True) v213 x5_1) ∧ Aside0 (wc.heap[gb211]? = some (.cells #[(.slice A0_0 l0_0.length c0_0)] 27 (0, 0))) ∧ Aside0 (wc.heap[gb216]? = some (.cells #[.int .i64 ((rd_T41 l1 x17_1).f0), .int .i64 ((rd_T41 l1 x17_1).f1), .int .i64 ((rd_T41 l1 x17_1).f2)] 41 (0, 0))) ∧ Aside0 (Below w.heap.size w wc))
        case first =>
         have H := HC12.out
         clear HC12
         by_cases c17 : ((rd_T41 l1 x17_1).f2) < 0
         ·
          rw [if_pos c17] at H
          have c17b0 := decide_eq_true c17
          clear c17
          (first | rw [c17b0] | (simp only [i64_w, i32_w]; rw [c17b0]) | skip)
          have H' := Aside0.mk H
          clear H
          have hnb18 := NB216_211.out
          have hnc18 := NB211_216.out
          have hcz19_0 : w13.cell? ⟨gb216, 0, none⟩ = some (.int .i64 0) := (blk_cell BK216.out 0).trans rfl
          have hcz19_1 : w13.cell? ⟨gb216, 1, none⟩ = some (.int .i64 0) := (blk_cell BK216.out 1).trans rfl
          have hcz19_2 : w13.cell? ⟨gb216, 2, none⟩ = some (.int .i64 0) := (blk_cell BK216.out 2).trans rfl
          have hfz19_0 := blk_frozen BK216.out 0
          have hfz19_1 := blk_frozen BK216.out 1
          have hfz19_2 := blk_frozen BK216.out 2
          go_wp2
          go_meet
          case rel => exact ⟨_, (true), (by first | rfl | (simp; done) | (simp [*]; done)), H', ⟨by have := HK1.out; first | omega | exact Nat.le_refl _⟩, ⟨by (with_reducible repeat (first | apply Kd.R_alloc | apply Kd.R_drewN | apply Kd.R_drew)); exact Kd.R_mono (Kd.R_far (p := ⟨gb216, 2, none⟩) (Kd.R_far (p := ⟨gb216, 1, none⟩) (Kd.R_far (p := ⟨gb216, 0, none⟩) (Kd.R_types HO_5.out BK216.out (by decide)) (fun _ hk => hk.2) (.int .i64 ((rd_T41 l1 x17_1).f0))) (fun _ hk => hk.2) (.int .i64 ((rd_T41 l1 x17_1).f1))) (fun _ hk => hk.2) (.int .i64 ((rd_T41 l1 x17_1).f2))) (fun _ hk => trivial)⟩, ⟨by (with_reducible repeat (first | refine blk_drewN ?_ _ | refine blk_drew ?_ | refine blk_alloc ?_ _)); refine blk_far ?_ NB211_216.out _; (with_reducible repeat (first | refine blk_drewN ?_ _ | refine blk_drew ?_ | refine blk_alloc ?_ _)); refine blk_far ?_ NB211_216.out _; (with_reducible repeat (first | refine blk_drewN ?_ _ | refine blk_drew ?_ | refine blk_alloc ?_ _)); refine blk_far ?_ NB211_216.out _; (with_reducible repeat (first | refine blk_drewN ?_ _ | refine blk_drew ?_ | refine blk_alloc ?_ _)); exact BK211.out⟩, ⟨by (with_reducible repeat (first | refine blk_drewN ?_ _ | refine blk_drew ?_ | refine blk_alloc ?_ _)); refine blk_put (cs := #[.int .i64 ((rd_T41 l1 x17_1).f0), .int .i64 ((rd_T41 l1 x17_1).f1), .int .i64 0]) ?_ 2 _ rfl; (with_reducible repeat (first | refine blk_drewN ?_ _ | refine blk_drew ?_ | refine blk_alloc ?_ _)); refine blk_put (cs := #[.int .i64 ((rd_T41 l1 x17_1).f0), .int .i64 0, .int .i64 0]) ?_ 1 _ rfl; (with_reducible repeat (first | refine blk_drewN ?_ _ | refine blk_drew ?_ | refine blk_alloc ?_ _)); refine blk_put (cs := #[.int .i64 0, .int .i64 0, .int .i64 0]) ?_ 0 _ rfl; (with_reducible repeat (first | refine blk_drewN ?_ _ | refine blk_drew ?_ | refine blk_alloc ?_ _)); exact BK216.out⟩, ⟨by repeat (first | (with_reducible first | exact HB.out | apply below_alloc | apply pw_below_drewN | apply below_drew1 | refine below_set ?_ GE211.out | refine below_set ?_ GE216.out) | exact HB.out)⟩⟩
         ·
          rw [if_neg c17] at H
          have c17b0 := decide_eq_false c17
          clear c17
          (first | rw [c17b0] | (simp only [i64_w, i32_w]; rw [c17b0]) | skip)
          obtain ⟨ji20, hji20⟩ : ∃ j_ : Int, (mn ((rd_T41 l1 x17_1).f2) (l0_0.length : Int)) = j_ := ⟨_, rfl⟩
          replace H : (refcount_Counts_Single.j1 k1 x5_1 x6_1 (l0_0.length : Int) l1 (l1.length : Int) x17_1 (decide (((rd_T41 l1 x17_1).f1) ≤ (wrap64 ((l0_0.length : Int) - (ji20))))) l0_0 ((rd_T41 l1 x17_1).f0) ((rd_T41 l1 x17_1).f1) ((rd_T41 l1 x17_1).f2)) = some r := by first | (rw [hji20] at H; exact H) | (simp only [hji20] at H ⊢; exact H)
          have hji20_ : (if (l0_0.length : Int) < ((rd_T41 l1 x17_1).f2) then (l0_0.length : Int) else ((rd_T41 l1 x17_1).f2)) = ji20 := hji20
          have H' := Aside0.mk H
          clear H
          have hnb21 := NB216_211.out
          have hnc21 := NB211_216.out
          have hcz22_0 : w13.cell? ⟨gb216, 0, none⟩ = some (.int .i64 0) := (blk_cell BK216.out 0).trans rfl
          have hcz22_1 : w13.cell? ⟨gb216, 1, none⟩ = some (.int .i64 0) := (blk_cell BK216.out 1).trans rfl
          have hcz22_2 : w13.cell? ⟨gb216, 2, none⟩ = some (.int .i64 0) := (blk_cell BK216.out 2).trans rfl
          have hfz22_0 := blk_frozen BK216.out 0
          have hfz22_1 := blk_frozen BK216.out 1
          have hfz22_2 := blk_frozen BK216.out 2
          go_wp2
          go_meet
          case rel => exact ⟨_, (decide (((rd_T41 l1 x17_1).f1) ≤ (wrap64 ((l0_0.length : Int) - (ji20))))), (by first | rfl | (simp; done) | (simp only [← hji20] <;> (first | rfl | simp)) | (simp [*]; done)), H', ⟨by have := HK1.out; first | omega | exact Nat.le_refl _⟩, ⟨by (with_reducible repeat (first | apply Kd.R_alloc | apply Kd.R_drewN | apply Kd.R_drew)); exact Kd.R_mono (Kd.R_far (p := ⟨gb216, 2, none⟩) (Kd.R_far (p := ⟨gb216, 1, none⟩) (Kd.R_far (p := ⟨gb216, 0, none⟩) (Kd.R_types HO_5.out BK216.out (by decide)) (fun _ hk => hk.2) (.int .i64 ((rd_T41 l1 x17_1).f0))) (fun _ hk => hk.2) (.int .i64 ((rd_T41 l1 x17_1).f1))) (fun _ hk => hk.2) (.int .i64 ((rd_T41 l1 x17_1).f2))) (fun _ hk => trivial)⟩, ⟨by (with_reducible repeat (first | refine blk_drewN ?_ _ | refine blk_drew ?_ | refine blk_alloc ?_ _)); refine blk_far ?_ NB211_216.out _; (with_reducible repeat (first | refine blk_drewN ?_ _ | refine blk_drew ?_ | refine blk_alloc ?_ _)); refine blk_far ?_ NB211_216.out _; (with_reducible repeat (first | refine blk_drewN ?_ _ | refine blk_drew ?_ | refine blk_alloc ?_ _)); refine blk_far ?_ NB211_216.out _; (with_reducible repeat (first | refine blk_drewN ?_ _ | refine blk_drew ?_ | refine blk_alloc ?_ _)); exact BK211.out⟩, ⟨by (with_reducible repeat (first | refine blk_drewN ?_ _ | refine blk_drew ?_ | refine blk_alloc ?_ _)); refine blk_put (cs := #[.int .i64 ((rd_T41 l1 x17_1).f0), .int .i64 ((rd_T41 l1 x17_1).f1), .int .i64 0]) ?_ 2 _ rfl; (with_reducible repeat (first | refine blk_drewN ?_ _ | refine blk_drew ?_ | refine blk_alloc ?_ _)); refine blk_put (cs := #[.int .i64 ((rd_T41 l1 x17_1).f0), .int .i64 0, .int .i64 0]) ?_ 1 _ rfl; (with_reducible repeat (first | refine blk_drewN ?_ _ | refine blk_drew ?_ | refine blk_alloc ?_ _)); refine blk_put (cs := #[.int .i64 0, .int .i64 0, .int .i64 0]) ?_ 0 _ rfl; (with_reducible repeat (first | refine blk_drewN ?_ _ | refine blk_drew ?_ | refine blk_alloc ?_ _)); exact BK216.out⟩, ⟨by repeat (first | (with_reducible first | exact HB.out | apply below_alloc | apply pw_below_drewN | apply below_drew1 | refine below_set ?_ GE211.out | refine below_set ?_ GE216.out) | exact HB.out)⟩⟩
        case rest =>
         clear HC12
         try clear c1
         try clear c2
         try clear p2
         try clear q2
         try clear hx2
         try clear c3
         try clear c3b0
         try clear c3b1
         try clear c4
         try clear c4b0
         try clear c4b1
         try clear p6
         try clear c9
         try clear c9b0
         try clear c10
         try clear c10b0
         try clear c11
         try clear c11b0
         try clear c14
         try clear c17
         try clear c17b0
         try clear c18
         try clear c21
         try clear p21
         try clear q21
         try clear hx21
         try clear hcz15_0
         try clear hcz15_1
         try clear hcz15_2
         try clear hcz16_0
         try clear hcz19_0
         try clear hcz19_1
         try clear hcz19_2
         try clear hcz22_0
         try clear hcz22_1
         try clear hcz22_2
         try clear hcz6_0
         try clear hfz15_0
         try clear hfz15_1
         try clear hfz15_2
         try clear hfz16_0
         try clear hfz19_0
         try clear hfz19_1
         try clear hfz19_2
         try clear hfz22_0
         try clear hfz22_1
         try clear hfz22_2
         try clear hfz6_0
         try clear hx215_0
         try clear hx215_1
         try clear hx215_2
         try clear p2
         try clear p215
         try clear q215
         obtain ⟨kq, x37_11, rfl, HA, HJ11, HO_5, BK211, BK216, HB⟩ := hcut
         cases kq with
         | zero => exact absurd HA.out (by simp [refcount_Counts_Single.j1])
         | succ kj11 =>
          have H := HA.out
          clear HA
          simp only [refcount_Counts_Single.j1] at H
          have HC23 := Aside0.mk H
          clear H
          go_upto_if 37 with (fail)
          go_cut [9] (fun v9 wc => ∃ (kq : Nat) (x9_22 : Int), v9 = .int .i64 x9_22 ∧ Aside0 (refcount_Counts_Single.j2 kq x5_1 x6_1 x9_22 l1 (l1.length : Int) x17_1 l0_0 ((rd_T41 l1 x17_1).f0) ((rd_T41 l1 x17_1).f1) ((rd_T41 l1 x17_1).f2) = some r) ∧ Aside0 (kq ≤ kj11) ∧ Aside0 (Kd.R Kd.bool 4 wc w.heap.size (fun _ => True) v213 x5_1) ∧ Aside0 (wc.heap[gb211]? = some (.cells #[(.slice A0_0 l0_0.length c0_0)] 27 (0, 0))) ∧ Aside0 (wc.heap[gb216]? = some (.cells #[.int .i64 ((rd_T41 l1 x17_1).f0), .int .i64 ((rd_T41 l1 x17_1).f1), .int .i64 ((rd_T41 l1 x17_1).f2)] 41 (0, 0))) ∧ Aside0 (Below w.heap.size w wc))
          case first =>
           have H := HC23.out
           clear HC23
           by_cases c24 : x37_11 = true
           ·
            subst c24
            have H1 : (refcount_Counts_Single.j2 kj11 x5_1 x6_1 (mn (l0_0.length : Int) (wrap64 (((rd_T41 l1 x17_1).f2) + ((rd_T41 l1 x17_1).f1)))) l1 (l1.length : Int) x17_1 l0_0 ((rd_T41 l1 x17_1).f0) ((rd_T41 l1 x17_1).f1) ((rd_T41 l1 x17_1).f2)) = some r := by rw [if_pos rfl] at H; exact H
            clear H
            have H := H1
            clear H1
            obtain ⟨ji25, hji25⟩ : ∃ j_ : Int, (mn (l0_0.length : Int) (wrap64 (((rd_T41 l1 x17_1).f2) + ((rd_T41 l1 x17_1).f1)))) = j_ := ⟨_, rfl⟩
            replace H : (refcount_Counts_Single.j2 kj11 x5_1 x6_1 ji25 l1 (l1.length : Int) x17_1 l0_0 ((rd_T41 l1 x17_1).f0) ((rd_T41 l1 x17_1).f1) ((rd_T41 l1 x17_1).f2)) = some r := by first | (rw [hji25] at H; exact H) | (simp only [hji25] at H ⊢; exact H)
            have hji25_ : (if (wrap64 (((rd_T41 l1 x17_1).f2) + ((rd_T41 l1 x17_1).f1))) < (l0_0.length : Int) then (wrap64 (((rd_T41 l1 x17_1).f2) + ((rd_T41 l1 x17_1).f1))) else (l0_0.length : Int)) = ji25 := hji25
            have H' := Aside0.mk H
            clear H
            have hnb26 := NB216_211.out
            have hnc26 := NB211_216.out
            have hcz27_0 : wc.cell? ⟨gb216, 0, none⟩ = some (.int .i64 ((rd_T41 l1 x17_1).f0)) := (blk_cell BK216.out 0).trans rfl
            have hcz27_1 : wc.cell? ⟨gb216, 1, none⟩ = some (.int .i64 ((rd_T41 l1 x17_1).f1)) := (blk_cell BK216.out 1).trans rfl
            have hcz27_2 : wc.cell? ⟨gb216, 2, none⟩ = some (.int .i64 ((rd_T41 l1 x17_1).f2)) := (blk_cell BK216.out 2).trans rfl
            have hfz27_0 := blk_frozen BK216.out 0
            have hfz27_1 := blk_frozen BK216.out 1
            have hfz27_2 := blk_frozen BK216.out 2
            go_wp2
            go_meet
            case rel => exact ⟨_, (ji25), (by first | rfl | (simp; done) | (simp only [← hji25] <;> (first | rfl | simp)) | (simp [*]; done)), H', ⟨by have := HK1.out; have := HJ11.out; first | omega | exact Nat.le_refl _⟩, ⟨rU HO_5.out⟩, ⟨by (with_reducible repeat (first | refine blk_drewN ?_ _ | refine blk_drew ?_ | refine blk_alloc ?_ _)); exact BK211.out⟩, ⟨by (with_reducible repeat (first | refine blk_drewN ?_ _ | refine blk_drew ?_ | refine blk_alloc ?_ _)); exact BK216.out⟩, ⟨by repeat (first | (with_reducible first | exact HB.out | apply below_alloc | apply pw_below_drewN | apply below_drew1 | refine below_set ?_ GE211.out | refine below_set ?_ GE216.out) | exact HB.out)⟩⟩
           ·
            replace c24 := Bool.eq_false_iff.mpr c24
            subst c24
            have H1 : (refcount_Counts_Single.j2 kj11 x5_1 x6_1 (l0_0.length : Int) l1 (l1.length : Int) x17_1 l0_0 ((rd_T41 l1 x17_1).f0) ((rd_T41 l1 x17_1).f1) ((rd_T41 l1 x17_1).f2)) = some r := by rw [if_neg (show ¬ (false = true) by decide)] at H; exact H
            clear H
            have H := H1
            clear H1
            have H' := Aside0.mk H
            clear H
            go_wp2
            go_meet
            case rel => exact ⟨_, ((l0_0.length : Int)), (by first | rfl | (simp; done) | (simp [*]; done)), H', ⟨by have := HK1.out; have := HJ11.out; first | omega | exact Nat.le_refl _⟩, ⟨rU HO_5.out⟩, ⟨by (with_reducible repeat (first | refine blk_drewN ?_ _ | refine blk_drew ?_ | refine blk_alloc ?_ _)); exact BK211.out⟩, ⟨by (with_reducible repeat (first | refine blk_drewN ?_ _ | refine blk_drew ?_ | refine blk_alloc ?_ _)); exact BK216.out⟩, ⟨by repeat (first | (with_reducible first | exact HB.out | apply below_alloc | apply pw_below_drewN | apply below_drew1 | refine below_set ?_ GE211.out | refine below_set ?_ GE216.out) | exact HB.out)⟩⟩
          case rest =>
           clear HC23
           try clear c1
           try clear c2
           try clear p2
           try clear q2
           try clear hx2
           try clear c3
           try clear c3b0
           try clear c3b1
           try clear c4
           try clear c4b0
           try clear c4b1
           try clear p6
           try clear c9
           try clear c9b0
           try clear c10
           try clear c10b0
           try clear c11
           try clear c11b0
           try clear c14
           try clear c17
           try clear c17b0
           try clear c18
           try clear c21
           try clear p21
           try clear q21
           try clear hx21
           try clear c24
           try clear c26
           try clear hcz15_0
           try clear hcz15_1
           try clear hcz15_2
           try clear hcz16_0
           try clear hcz19_0
           try clear hcz19_1
           try clear hcz19_2
           try clear hcz22_0
           try clear hcz22_1
           try clear hcz22_2
           try clear hcz27_0
           try clear hcz27_1
           try clear hcz27_2
           try clear hcz6_0
           try clear hfz15_0
           try clear hfz15_1
           try clear hfz15_2
           try clear hfz16_0
           try clear hfz19_0
           try clear hfz19_1
           try clear hfz19_2
           try clear hfz22_0
           try clear hfz22_1
           try clear hfz22_2
           try clear hfz27_0
           try clear hfz27_1
           try clear hfz27_2
           try clear hfz6_0
           try clear hx215_0
           try clear hx215_1
           try clear hx215_2
           try clear p2
           try clear p21
           try clear p215
           try clear p6
           try clear q2
           try clear q21
           try clear q215
           obtain ⟨kq, x9_22, rfl, HA, HJ22, HO_5, BK211, BK216, HB⟩ := hcut
           cases kq with
           | zero => exact absurd HA.out (by simp [refcount_Counts_Single.j2])
           | succ kj22 =>
            have H := HA.out
            clear HA
            simp only [refcount_Counts_Single.j2] at H
            have HC28 := Aside0.mk H
            clear H
            have hnb29 := NB216_211.out
            have hnc29 := NB211_216.out
            have hcz30_0 : wc.cell? ⟨gb216, 0, none⟩ = some (.int .i64 ((rd_T41 l1 x17_1).f0)) := (blk_cell BK216.out 0).trans rfl
            have hcz30_1 : wc.cell? ⟨gb216, 1, none⟩ = some (.int .i64 ((rd_T41 l1 x17_1).f1)) := (blk_cell BK216.out 1).trans rfl
            have hcz30_2 : wc.cell? ⟨gb216, 2, none⟩ = some (.int .i64 ((rd_T41 l1 x17_1).f2)) := (blk_cell BK216.out 2).trans rfl
            have hfz30_0 := blk_frozen BK216.out 0
            have hfz30_1 := blk_frozen BK216.out 1
            have hfz30_2 := blk_frozen BK216.out 2
            go_upto_if 47 with (fail)
            go_cut [9] (fun v9 wc => ∃ (kq : Nat) (x9_27 : Int), v9 = .int .i64 x9_27 ∧ Aside0 (refcount_Counts_Single.j3 kq x5_1 x6_1 x9_27 l1 (l1.length : Int) x17_1 l0_0 ((rd_T41 l1 x17_1).f0) ((rd_T41 l1 x17_1).f1) ((rd_T41 l1 x17_1).f2) = some r) ∧ Aside0 (kq ≤ kj22) ∧ Aside0 (Kd.R Kd.bool 4 wc w.heap.size (fun _ => True) v213 x5_1) ∧ Aside0 (wc.heap[gb211]? = some (.cells #[(.slice A0_0 l0_0.length c0_0)] 27 (0, 0))) ∧ Aside0 (wc.heap[gb216]? = some (.cells #[.int .i64 ((rd_T41 l1 x17_1).f0), .int .i64 ((rd_T41 l1 x17_1).f1), .int .i64 ((rd_T41 l1 x17_1).f2)] 41 (0, 0))) ∧ Aside0 (Below w.heap.size w wc))
            case first =>
             have H := HC28.out
             clear HC28
             by_cases c31 : ((rd_T41 l1 x17_1).f1) < 1
             ·
              rw [if_pos c31] at H
              have c31b0 := decide_eq_true c31
              clear c31
              (first | rw [c31b0] | (simp only [i64_w, i32_w]; rw [c31b0]) | skip)
              have H' := Aside0.mk H
              clear H
              go_wp2
              go_meet
              case rel => exact ⟨_, (0), (by first | rfl | (simp; done) | (simp [*]; done)), H', ⟨by have := HK1.out; have := HJ11.out; have := HJ22.out; first | omega | exact Nat.le_refl _⟩, ⟨rU HO_5.out⟩, ⟨by (with_reducible repeat (first | refine blk_drewN ?_ _ | refine blk_drew ?_ | refine blk_alloc ?_ _)); exact BK211.out⟩, ⟨by (with_reducible repeat (first | refine blk_drewN ?_ _ | refine blk_drew ?_ | refine blk_alloc ?_ _)); exact BK216.out⟩, ⟨by repeat (first | (with_reducible first | exact HB.out | apply below_alloc | apply pw_below_drewN | apply below_drew1 | refine below_set ?_ GE211.out | refine below_set ?_ GE216.out) | exact HB.out)⟩⟩
             ·
              rw [if_neg c31] at H
              have c31b0 := decide_eq_false c31
              clear c31
              (first | rw [c31b0] | (simp only [i64_w, i32_w]; rw [c31b0]) | skip)
              have H' := Aside0.mk H
              clear H
              go_wp2
              go_meet
              case rel => exact ⟨_, (x9_22), (by first | rfl | (simp; done) | (simp [*]; done)), H', ⟨by have := HK1.out; have := HJ11.out; have := HJ22.out; first | omega | exact Nat.le_refl _⟩, ⟨rU HO_5.out⟩, ⟨by (with_reducible repeat (first | refine blk_drewN ?_ _ | refine blk_drew ?_ | refine blk_alloc ?_ _)); exact BK211.out⟩, ⟨by (with_reducible repeat (first | refine blk_drewN ?_ _ | refine blk_drew ?_ | refine blk_alloc ?_ _)); exact BK216.out⟩, ⟨by repeat (first | (with_reducible first | exact HB.out | apply below_alloc | apply pw_below_drewN | apply below_drew1 | refine below_set ?_ GE211.out | refine below_set ?_ GE216.out) | exact HB.out)⟩⟩
            case rest =>
             clear HC28
             try clear c1
             try clear c2
             try clear p2
             try clear q2
             try clear hx2
             try clear c3
             try clear c3b0
             try clear c3b1
             try clear c4
             try clear c4b0
             try clear c4b1
             try clear p6
             try clear c9
             try clear c9b0
             try clear c10
             try clear c10b0
             try clear c11
             try clear c11b0
             try clear c14
             try clear c17
             try clear c17b0
             try clear c18
             try clear c21
             try clear p21
             try clear q21
             try clear hx21
             try clear c24
             try clear c26
             try clear c29
             try clear c31
             try clear c31b0
             try clear hcz15_0
             try clear hcz15_1
             try clear hcz15_2
             try clear hcz16_0
             try clear hcz19_0
             try clear hcz19_1
             try clear hcz19_2
             try clear hcz22_0
             try clear hcz22_1
             try clear hcz22_2
             try clear hcz27_0
             try clear hcz27_1
             try clear hcz27_2
             try clear hcz30_0
             try clear hcz30_1
             try clear hcz30_2
             try clear hcz6_0
             try clear hfz15_0
             try clear hfz15_1
             try clear hfz15_2
             try clear hfz16_0
             try clear hfz19_0
             try clear hfz19_1
             try clear hfz19_2
             try clear hfz22_0
             try clear hfz22_1
             try clear hfz22_2
             try clear hfz27_0
             try clear hfz27_1
             try clear hfz27_2
             try clear hfz30_0
             try clear hfz30_1
             try clear hfz30_2
             try clear hfz6_0
             try clear hx215_0
             try clear hx215_1
             try clear hx215_2
             try clear p2
             try clear p21
             try clear p215
             try clear p6
             try clear q2
             try clear q21
             try clear q215
             obtain ⟨kq, x9_27, rfl, HA, HJ27, HO_5, BK211, BK216, HB⟩ := hcut
             cases kq with
             | zero => exact absurd HA.out (by simp [refcount_Counts_Single.j3])
             | succ kj27 =>
              have H := HA.out
              clear HA
              simp only [refcount_Counts_Single.j3] at H
              obtain ⟨ji32, hji32⟩ : ∃ j_ : Int, (mx ((rd_T41 l1 x17_1).f2) 0) = j_ := ⟨_, rfl⟩
              replace H : (refcount_Counts_Single.l1 kj27 x5_1 x6_1 x9_27 ji32 l1 (l1.length : Int) x17_1 l0_0) = some r := by first | (rw [hji32] at H; exact H) | (simp only [hji32] at H ⊢; exact H)
              have hji32_ : (if ((rd_T41 l1 x17_1).f2) < 0 then 0 else ((rd_T41 l1 x17_1).f2)) = ji32 := hji32
              have H' := Aside0.mk H
              clear H
              have hnb33 := NB216_211.out
              have hnc33 := NB211_216.out
              have hcz34_0 : wc.cell? ⟨gb216, 0, none⟩ = some (.int .i64 ((rd_T41 l1 x17_1).f0)) := (blk_cell BK216.out 0).trans rfl
              have hcz34_1 : wc.cell? ⟨gb216, 1, none⟩ = some (.int .i64 ((rd_T41 l1 x17_1).f1)) := (blk_cell BK216.out 1).trans rfl
              have hcz34_2 : wc.cell? ⟨gb216, 2, none⟩ = some (.int .i64 ((rd_T41 l1 x17_1).f2)) := (blk_cell BK216.out 2).trans rfl
              have hfz34_0 := blk_frozen BK216.out 0
              have hfz34_1 := blk_frozen BK216.out 1
              have hfz34_2 := blk_frozen BK216.out 2
              go_wp2
              go_loopg [6, 10] kj27 (fun kq v6 v10 w' => ∃ (x5_5 : List Bool) (x6_5 : Int) (x10_5 : Int), v6 = .int .i64 x6_5 ∧ v10 = .int .i64 x10_5 ∧ Aside0 (refcount_Counts_Single.l1 kq x5_5 x6_5 x9_27 x10_5 l1 (l1.length : Int) x17_1 l0_0 = some r) ∧ Aside0 (kq ≤ kj27) ∧ Aside0 (Kd.R Kd.bool 4 w' w.heap.size (fun _ => True) v213 x5_5) ∧ Aside0 (w'.heap[gb211]? = some (.cells #[(.slice A0_0 l0_0.length c0_0)] 27 (0, 0))) ∧ Aside0 (w'.heap[gb216]? = some (.cells #[.int .i64 ((rd_T41 l1 x17_1).f0), .int .i64 ((rd_T41 l1 x17_1).f1), .int .i64 ((rd_T41 l1 x17_1).f2)] 41 (0, 0))) ∧ Aside0 (Below w.heap.size w w'))
              case atStart => exact ⟨(x5_1), (x6_1), (ji32), (by first | rfl | (simp; done) | (simp [*]; done)), (by first | rfl | (simp; done) | (simp only [← hji32] <;> (first | rfl | simp)) | (simp [*]; done)), H', ⟨Nat.le_refl _⟩, ⟨rU HO_5.out⟩, ⟨by (with_reducible repeat (first | refine blk_drewN ?_ _ | refine blk_drew ?_ | refine blk_alloc ?_ _)); exact BK211.out⟩, ⟨by (with_reducible repeat (first | refine blk_drewN ?_ _ | refine blk_drew ?_ | refine blk_alloc ?_ _)); exact BK216.out⟩, ⟨by repeat (first | (with_reducible first | exact HB.out | apply below_alloc | apply pw_below_drewN | apply below_drew1 | refine below_set ?_ GE211.out | refine below_set ?_ GE216.out) | exact HB.out)⟩⟩
              case round =>
               clear H'
               try clear c1
               try clear c2
               try clear p2
               try clear q2
               try clear hx2
               try clear c3
               try clear c3b0
               try clear c3b1
               try clear c4
               try clear c4b0
               try clear c4b1
               try clear p6
               try clear c9
               try clear c9b0
               try clear c10
               try clear c10b0
               try clear c11
               try clear c11b0
               try clear c14
               try clear c17
               try clear c17b0
               try clear c18
               try clear c21
               try clear p21
               try clear q21
               try clear hx21
               try clear c24
               try clear c26
               try clear c29
               try clear c31
               try clear c31b0
               try clear c33
               try clear hcz15_0
               try clear hcz15_1
               try clear hcz15_2
               try clear hcz16_0
               try clear hcz19_0
               try clear hcz19_1
               try clear hcz19_2
               try clear hcz22_0
               try clear hcz22_1
               try clear hcz22_2
               try clear hcz27_0
               try clear hcz27_1
               try clear hcz27_2
               try clear hcz30_0
               try clear hcz30_1
               try clear hcz30_2
               try clear hcz34_0
               try clear hcz34_1
               try clear hcz34_2
               try clear hcz6_0
               try clear hfz15_0
               try clear hfz15_1
               try clear hfz15_2
               try clear hfz16_0
               try clear hfz19_0
               try clear hfz19_1
               try clear hfz19_2
               try clear hfz22_0
               try clear hfz22_1
               try clear hfz22_2
               try clear hfz27_0
               try clear hfz27_1
               try clear hfz27_2
               try clear hfz30_0
               try clear hfz30_1
               try clear hfz30_2
               try clear hfz34_0
               try clear hfz34_1
               try clear hfz34_2
               try clear hfz6_0
               try clear hx215_0
               try clear hx215_1
               try clear hx215_2
               try clear p2
               try clear p21
               try clear p215
               try clear p6
               try clear q2
               try clear q21
               try clear q215
               obtain ⟨x5_5, x6_5, x10_5, rfl, rfl, HA, HK5, HO_5, BK211, BK216, HB⟩ := hrel
               cases gk with
               | zero => exact absurd HA.out (by simp [refcount_Counts_Single.l1])
               | succ k5 =>
                have H := HA.out
                clear HA
                simp only [refcount_Counts_Single.l1] at H
                by_cases c35 : x10_5 < x9_27
                ·
                 rw [if_pos c35] at H
                 have c35b0 := decide_eq_true c35
                 clear c35
                 by_cases c36 : 0 ≤ x10_5
                 ·
                  rw [if_pos c36] at H
                  have c36b0 := decide_eq_true c36
                  clear c36
                  by_cases c37 : x10_5 < (x5_5.length : Int)
                  ·
                   rw [if_pos c37] at H
                   have c37b0 := decide_eq_true c37
                   clear c37
                   obtain ⟨bq38, hbq38⟩ : ∃ b_ : Bool, b_ = (rdOf false x5_5 x10_5) := ⟨_, rfl⟩
                   replace H : (if bq38 = true then (refcount_Counts_Single.l1 k5 (x5_5.set (x10_5 : Int).toNat true) x6_5 x9_27 (wrap64 (x10_5 + 1)) l1 (l1.length : Int) x17_1 l0_0) else (if x10_5 < (l0_0.length : Int) then (if (rd l0_0 x10_5) = 1 then (refcount_Counts_Single.l1 k5 (x5_5.set (x10_5 : Int).toNat true) (wrap64 (x6_5 + 1)) x9_27 (wrap64 (x10_5 + 1)) l1 (l1.length : Int) x17_1 l0_0) else (refcount_Counts_Single.l1 k5 (x5_5.set (x10_5 : Int).toNat true) x6_5 x9_27 (wrap64 (x10_5 + 1)) l1 (l1.length : Int) x17_1 l0_0)) else (none))) = some r := by rw [← hbq38] at H; exact H
                   have Nbq38 := Aside0.mk hbq38
                   clear hbq38
                   by_cases c39 : bq38 = true
                   ·
                    subst c39
                    have H1 : (refcount_Counts_Single.l1 k5 (x5_5.set (x10_5 : Int).toNat true) x6_5 x9_27 (wrap64 (x10_5 + 1)) l1 (l1.length : Int) x17_1 l0_0) = some r := by rw [if_pos rfl] at H; exact H
                    clear H
                    have H := H1
                    clear H1
                    obtain ⟨y218, hy218⟩ : ∃ y_ : List Bool, y_ = (x5_5.set (x10_5 : Int).toNat true) := ⟨_, rfl⟩
                    replace H : (refcount_Counts_Single.l1 k5 y218 x6_5 x9_27 (wrap64 (x10_5 + 1)) l1 (l1.length : Int) x17_1 l0_0) = some r := by first | (rw [hy218]; exact H) | exact H
                    have Ny218 := Aside0.mk hy218
                    clear hy218
                    have H' := Aside0.mk H
                    clear H
                    obtain ⟨Ao41, co41, eo41⟩ := Kd.R_slice HO_5.out
                    subst eo41
                    have p217 : 0 ≤ (x10_5 : Int) := of_decide_eq_true (by first | (with_reducible assumption) | assumption)
                    have q217 : x10_5 < (x5_5.length : Int) := of_decide_eq_true (by first | (with_reducible assumption) | assumption)
                    obtain ⟨ad217, e217, hx217_0⟩ := Kd.at_bool (Kd.R_reads' HO_5.out).2.2 x10_5 p217 q217
                    (try rw [← Nbq38.out] at hx217_0)
                    cases e217
                    replace p217 := eq_true p217
                    replace q217 := eq_true q217
                    have p40 : 0 ≤ (x10_5 : Int) := of_decide_eq_true (by first | (with_reducible assumption) | assumption)
                    have q40 : (x10_5 : Int) < ((x5_5.length : Int) : Int) := of_decide_eq_true (by first | (with_reducible assumption) | assumption)
                    obtain ⟨go40, co40, eo40, gb40, gl40, cl40, HG40⟩ := Kd.R_form HO_5.out (by omega)
                    (first | cases eo40 | (injection eo40 with ea_ en_ ec_; (first | subst ea_ | (injection ea_ with ea_; subst ea_)); subst ec_; clear en_))
                    have GB40 := Aside0.mk gb40
                    have GG40 := Aside0.mk HG40
                    clear gb40 gl40 HG40
                    (first | simp only [add_plain] at hx217_0 | skip)
                    obtain ⟨hx40_0, hf40_0⟩ := Kd.R_celln false HO_5.out (x10_5 : Int) p40 q40
                    replace p40 := eq_true p40
                    replace q40 := eq_true q40
                    have HP42 := Kd.R_putg HO_5.out (x10_5 : Int) true
                    go_wp2_with (first | ((with_reducible refine gate_store (t := 4) (p := 73) rfl ?_); refine store_event (t := 4) (p := 73) (v := ?vo_w43) (w1 := (wr.setCell ⟨go40, (x10_5 : Int).toNat, none⟩ (.bool true))) ?hg ?ho ?hn ?hr ?_; (case ho => rfl); (case hg => rfl); (case hn => rfl); (case hr => first | (go_simp; done) | (go_simp; rfl)); intro w43 hw; have hg : wr.grownBy w43 (some go40) := (by rw [hw]; exact HP42.2); have hp_ : Kd.R Kd.bool 4 w43 w.heap.size (fun _ => True) (.slice (some ⟨go40, 0, none⟩) x5_5.length co41) y218 := (by rw [hw, Ny218.out]; exact HP42.1); clear HP42; replace BK211 := Aside0.mk (blk_grown (g := gb211) (o := .cells #[.slice A0_0 l0_0.length c0_0] 27 (0, 0)) (kU BK211.out) hg (Kd.R_ne HO_5.out BK211.out (by decide))); replace BK216 := Aside0.mk (blk_grown (g := gb216) (o := .cells #[.int .i64 ((rd_T41 l1 x17_1).f0), .int .i64 ((rd_T41 l1 x17_1).f1), .int .i64 ((rd_T41 l1 x17_1).f2)] 41 (0, 0)) (kU BK216.out) hg (Kd.R_ne HO_5.out BK216.out (by decide))); replace HO_5 := Aside0.mk (hp_); replace HB := Aside0.mk ((by rw [hw]; exact below_set (HB.out) GB40.out : Below w.heap.size w w43)); clear hg hw hp_))
                    go_roundg k5
                    case measure => have := HK1.out; have := HJ11.out; have := HJ22.out; have := HJ27.out; have := HK5.out; omega
                    case rel => exact ⟨(y218), (x6_5), (wrap64 (x10_5 + 1)), (by first | rfl | (simp; done) | (simp [*]; done)), (by first | rfl | (simp; done) | (simp [*]; done)), H', ⟨by have := HK1.out; have := HJ11.out; have := HJ22.out; have := HJ27.out; have := HK5.out; omega⟩, ⟨rU HO_5.out⟩, ⟨by (with_reducible repeat (first | refine blk_drewN ?_ _ | refine blk_drew ?_ | refine blk_alloc ?_ _)); exact BK211.out⟩, ⟨by (with_reducible repeat (first | refine blk_drewN ?_ _ | refine blk_drew ?_ | refine blk_alloc ?_ _)); exact BK216.out⟩, ⟨by repeat (first | (with_reducible first | exact HB.out | apply below_alloc | apply pw_below_drewN | apply below_drew1 | refine below_set ?_ GE211.out | refine below_set ?_ GE216.out) | exact HB.out)⟩⟩
                   ·
                    replace c39 := Bool.eq_false_iff.mpr c39
                    subst c39
                    have H1 : (if x10_5 < (l0_0.length : Int) then (if (rd l0_0 x10_5) = 1 then (refcount_Counts_Single.l1 k5 (x5_5.set (x10_5 : Int).toNat true) (wrap64 (x6_5 + 1)) x9_27 (wrap64 (x10_5 + 1)) l1 (l1.length : Int) x17_1 l0_0) else (refcount_Counts_Single.l1 k5 (x5_5.set (x10_5 : Int).toNat true) x6_5 x9_27 (wrap64 (x10_5 + 1)) l1 (l1.length : Int) x17_1 l0_0)) else (none)) = some r := by rw [if_neg (show ¬ (false = true) by decide)] at H; exact H
                    clear H
                    have H := H1
                    clear H1
                    by_cases c44 : x10_5 < (l0_0.length : Int)
                    ·
                     rw [if_pos c44] at H
                     have c44b0 := decide_eq_true c44
                     clear c44
                     by_cases c45 : (rd l0_0 x10_5) = 1
                     ·
                      rw [if_pos c45] at H
                      have c45b0 : ((rd l0_0 x10_5) == 1) = true := beq_iff_eq.mpr c45
                      have c45b1 : ((rd l0_0 x10_5) != 1) = false := bne_eq_false_iff_eq.mpr c45
                      clear c45
                      obtain ⟨y220, hy220⟩ : ∃ y_ : List Bool, y_ = (x5_5.set (x10_5 : Int).toNat true) := ⟨_, rfl⟩
                      replace H : (refcount_Counts_Single.l1 k5 y220 (wrap64 (x6_5 + 1)) x9_27 (wrap64 (x10_5 + 1)) l1 (l1.length : Int) x17_1 l0_0) = some r := by first | (rw [hy220]; exact H) | exact H
                      have Ny220 := Aside0.mk hy220
                      clear hy220
                      have H' := Aside0.mk H
                      clear H
                      obtain ⟨Ao47, co47, eo47⟩ := Kd.R_slice HO_5.out
                      subst eo47
                      have p217 : 0 ≤ (x10_5 : Int) := of_decide_eq_true (by first | (with_reducible assumption) | assumption)
                      have q217 : x10_5 < (x5_5.length : Int) := of_decide_eq_true (by first | (with_reducible assumption) | assumption)
                      obtain ⟨ad217, e217, hx217_0⟩ := Kd.at_bool (Kd.R_reads' HO_5.out).2.2 x10_5 p217 q217
                      (try rw [← Nbq38.out] at hx217_0)
                      cases e217
                      replace p217 := eq_true p217
                      replace q217 := eq_true q217
                      have hnb48 := NB211_216.out
                      have hnc48 := NB216_211.out
                      have hcz49_0 : wr.cell? ⟨gb211, 0, none⟩ = some (.slice A0_0 l0_0.length c0_0) := (blk_cell BK211.out 0).trans rfl
                      have hfz49_0 := blk_frozen BK211.out 0
                      have p219 : 0 ≤ (x10_5 : Int) := of_decide_eq_true (by first | (with_reducible assumption) | assumption)
                      have q219 : x10_5 < (l0_0.length : Int) := of_decide_eq_true (by first | (with_reducible assumption) | assumption)
                      obtain ⟨ad219, e219, hx219_0⟩ := Kd.at_int HR0_0.out x10_5 p219 q219
                      cases e219
                      replace hx219_0 := (HB.out.cell (World.block_lt_of_cell? w _ hx219_0)).trans hx219_0
                      replace p219 := eq_true p219
                      replace q219 := eq_true q219
                      have p46 : 0 ≤ (x10_5 : Int) := of_decide_eq_true (by first | (with_reducible assumption) | assumption)
                      have q46 : (x10_5 : Int) < ((x5_5.length : Int) : Int) := of_decide_eq_true (by first | (with_reducible assumption) | assumption)
                      obtain ⟨go46, co46, eo46, gb46, gl46, cl46, HG46⟩ := Kd.R_form HO_5.out (by omega)
                      (first | cases eo46 | (injection eo46 with ea_ en_ ec_; (first | subst ea_ | (injection ea_ with ea_; subst ea_)); subst ec_; clear en_))
                      have GB46 := Aside0.mk gb46
                      have GG46 := Aside0.mk HG46
                      clear gb46 gl46 HG46
                      (first | simp only [add_plain] at hx217_0 | skip)
                      obtain ⟨hx46_0, hf46_0⟩ := Kd.R_celln false HO_5.out (x10_5 : Int) p46 q46
                      replace p46 := eq_true p46
                      replace q46 := eq_true q46
                      have HP50 := Kd.R_putg HO_5.out (x10_5 : Int) true
                      go_wp2_with (first | ((with_reducible refine gate_store (t := 4) (p := 73) rfl ?_); refine store_event (t := 4) (p := 73) (v := ?vo_w51) (w1 := (wr.setCell ⟨go46, (x10_5 : Int).toNat, none⟩ (.bool true))) ?hg ?ho ?hn ?hr ?_; (case ho => rfl); (case hg => rfl); (case hn => rfl); (case hr => first | (go_simp; done) | (go_simp; rfl)); intro w51 hw; have hg : wr.grownBy w51 (some go46) := (by rw [hw]; exact HP50.2); have hp_ : Kd.R Kd.bool 4 w51 w.heap.size (fun _ => True) (.slice (some ⟨go46, 0, none⟩) x5_5.length co47) y220 := (by rw [hw, Ny220.out]; exact HP50.1); clear HP50; replace BK211 := Aside0.mk (blk_grown (g := gb211) (o := .cells #[.slice (some ad219) l0_0.length c0_0] 27 (0, 0)) (kU BK211.out) hg (Kd.R_ne HO_5.out BK211.out (by decide))); replace BK216 := Aside0.mk (blk_grown (g := gb216) (o := .cells #[.int .i64 ((rd_T41 l1 x17_1).f0), .int .i64 ((rd_T41 l1 x17_1).f1), .int .i64 ((rd_T41 l1 x17_1).f2)] 41 (0, 0)) (kU BK216.out) hg (Kd.R_ne HO_5.out BK216.out (by decide))); replace HO_5 := Aside0.mk (hp_); replace HB := Aside0.mk ((by rw [hw]; exact below_set (HB.out) GB46.out : Below w.heap.size w w51)); clear hg hw hp_))
                      go_roundg k5
                      case measure => have := HK1.out; have := HJ11.out; have := HJ22.out; have := HJ27.out; have := HK5.out; omega
                      case rel => exact ⟨(y220), (wrap64 (x6_5 + 1)), (wrap64 (x10_5 + 1)), (by first | rfl | (simp; done) | (simp [*]; done)), (by first | rfl | (simp; done) | (simp [*]; done)), H', ⟨by have := HK1.out; have := HJ11.out; have := HJ22.out; have := HJ27.out; have := HK5.out; omega⟩, ⟨rU HO_5.out⟩, ⟨by (with_reducible repeat (first | refine blk_drewN ?_ _ | refine blk_drew ?_ | refine blk_alloc ?_ _)); exact BK211.out⟩, ⟨by (with_reducible repeat (first | refine blk_drewN ?_ _ | refine blk_drew ?_ | refine blk_alloc ?_ _)); exact BK216.out⟩, ⟨by repeat (first | (with_reducible first | exact HB.out | apply below_alloc | apply pw_below_drewN | apply below_drew1 | refine below_set ?_ GE211.out | refine below_set ?_ GE216.out) | exact HB.out)⟩⟩
                     ·
                      rw [if_neg c45] at H
                      have c45b0 : ((rd l0_0 x10_5) == 1) = false := beq_eq_false_iff_ne.mpr c45
                      have c45b1 : ((rd l0_0 x10_5) != 1) = true := bne_iff_ne.mpr c45
                      obtain ⟨y221, hy221⟩ : ∃ y_ : List Bool, y_ = (x5_5.set (x10_5 : Int).toNat true) := ⟨_, rfl⟩
                      replace H : (refcount_Counts_Single.l1 k5 y221 x6_5 x9_27 (wrap64 (x10_5 + 1)) l1 (l1.length : Int) x17_1 l0_0) = some r := by first | (rw [hy221]; exact H) | exact H
                      have Ny221 := Aside0.mk hy221
                      clear hy221
                      have H' := Aside0.mk H
                      clear H
                      obtain ⟨Ao53, co53, eo53⟩ := Kd.R_slice HO_5.out
                      subst eo53
                      have p217 : 0 ≤ (x10_5 : Int) := of_decide_eq_true (by first | (with_reducible assumption) | assumption)
                      have q217 : x10_5 < (x5_5.length : Int) := of_decide_eq_true (by first | (with_reducible assumption) | assumption)
                      obtain ⟨ad217, e217, hx217_0⟩ := Kd.at_bool (Kd.R_reads' HO_5.out).2.2 x10_5 p217 q217
                      (try rw [← Nbq38.out] at hx217_0)
                      cases e217
                      replace p217 := eq_true p217
                      replace q217 := eq_true q217
                      have hnb54 := NB211_216.out
                      have hnc54 := NB216_211.out
                      have hcz55_0 : wr.cell? ⟨gb211, 0, none⟩ = some (.slice A0_0 l0_0.length c0_0) := (blk_cell BK211.out 0).trans rfl
                      have hfz55_0 := blk_frozen BK211.out 0
                      have p219 : 0 ≤ (x10_5 : Int) := of_decide_eq_true (by first | (with_reducible assumption) | assumption)
                      have q219 : x10_5 < (l0_0.length : Int) := of_decide_eq_true (by first | (with_reducible assumption) | assumption)
                      obtain ⟨ad219, e219, hx219_0⟩ := Kd.at_int HR0_0.out x10_5 p219 q219
                      cases e219
                      replace hx219_0 := (HB.out.cell (World.block_lt_of_cell? w _ hx219_0)).trans hx219_0
                      replace p219 := eq_true p219
                      replace q219 := eq_true q219
                      have p52 : 0 ≤ (x10_5 : Int) := of_decide_eq_true (by first | (with_reducible assumption) | assumption)
                      have q52 : (x10_5 : Int) < ((x5_5.length : Int) : Int) := of_decide_eq_true (by first | (with_reducible assumption) | assumption)
                      obtain ⟨go52, co52, eo52, gb52, gl52, cl52, HG52⟩ := Kd.R_form HO_5.out (by omega)
                      (first | cases eo52 | (injection eo52 with ea_ en_ ec_; (first | subst ea_ | (injection ea_ with ea_; subst ea_)); subst ec_; clear en_))
                      have GB52 := Aside0.mk gb52
                      have GG52 := Aside0.mk HG52
                      clear gb52 gl52 HG52
                      (first | simp only [add_plain] at hx217_0 | skip)
                      obtain ⟨hx52_0, hf52_0⟩ := Kd.R_celln false HO_5.out (x10_5 : Int) p52 q52
                      replace p52 := eq_true p52
                      replace q52 := eq_true q52
                      have HP56 := Kd.R_putg HO_5.out (x10_5 : Int) true
                      go_wp2_with (first | ((with_reducible refine gate_store (t := 4) (p := 73) rfl ?_); refine store_event (t := 4) (p := 73) (v := ?vo_w57) (w1 := (wr.setCell ⟨go52, (x10_5 : Int).toNat, none⟩ (.bool true))) ?hg ?ho ?hn ?hr ?_; (case ho => rfl); (case hg => rfl); (case hn => rfl); (case hr => first | (go_simp; done) | (go_simp; rfl)); intro w57 hw; have hg : wr.grownBy w57 (some go52) := (by rw [hw]; exact HP56.2); have hp_ : Kd.R Kd.bool 4 w57 w.heap.size (fun _ => True) (.slice (some ⟨go52, 0, none⟩) x5_5.length co53) y221 := (by rw [hw, Ny221.out]; exact HP56.1); clear HP56; replace BK211 := Aside0.mk (blk_grown (g := gb211) (o := .cells #[.slice (some ad219) l0_0.length c0_0] 27 (0, 0)) (kU BK211.out) hg (Kd.R_ne HO_5.out BK211.out (by decide))); replace BK216 := Aside0.mk (blk_grown (g := gb216) (o := .cells #[.int .i64 ((rd_T41 l1 x17_1).f0), .int .i64 ((rd_T41 l1 x17_1).f1), .int .i64 ((rd_T41 l1 x17_1).f2)] 41 (0, 0)) (kU BK216.out) hg (Kd.R_ne HO_5.out BK216.out (by decide))); replace HO_5 := Aside0.mk (hp_); replace HB := Aside0.mk ((by rw [hw]; exact below_set (HB.out) GB52.out : Below w.heap.size w w57)); clear hg hw hp_))
                      go_roundg k5
                      case measure => have := HK1.out; have := HJ11.out; have := HJ22.out; have := HJ27.out; have := HK5.out; omega
                      case rel => exact ⟨(y221), (x6_5), (wrap64 (x10_5 + 1)), (by first | rfl | (simp; done) | (simp [*]; done)), (by first | rfl | (simp; done) | (simp [*]; done)), H', ⟨by have := HK1.out; have := HJ11.out; have := HJ22.out; have := HJ27.out; have := HK5.out; omega⟩, ⟨rU HO_5.out⟩, ⟨by (with_reducible repeat (first | refine blk_drewN ?_ _ | refine blk_drew ?_ | refine blk_alloc ?_ _)); exact BK211.out⟩, ⟨by (with_reducible repeat (first | refine blk_drewN ?_ _ | refine blk_drew ?_ | refine blk_alloc ?_ _)); exact BK216.out⟩, ⟨by repeat (first | (with_reducible first | exact HB.out | apply below_alloc | apply pw_below_drewN | apply below_drew1 | refine below_set ?_ GE211.out | refine below_set ?_ GE216.out) | exact HB.out)⟩⟩
                    ·
                     rw [if_neg c44] at H
                     exact absurd H (by simp)
                  ·
                   rw [if_neg c37] at H
                   exact absurd H (by simp)
                 ·
                  rw [if_neg c36] at H
                  exact absurd H (by simp)
                ·
                 rw [if_neg c35] at H
                 have c35b0 := decide_eq_false c35
                 clear c35
                 have H' := Aside0.mk H
                 clear H
                 go_wp2
                 go_roundg k5
                 case measure => have := HK1.out; have := HJ11.out; have := HJ22.out; have := HJ27.out; have := HK5.out; omega
                 case rel => exact ⟨(x5_5), (x6_5), (wrap64 (x17_1 + 1)), (by first | rfl | (simp; done) | (simp [*]; done)), (by first | rfl | (simp; done) | (simp [*]; done)), H', ⟨by have := HK1.out; have := HJ11.out; have := HJ22.out; have := HJ27.out; have := HK5.out; omega⟩, ⟨rU HO_5.out⟩, ⟨by (with_reducible repeat (first | refine blk_drewN ?_ _ | refine blk_drew ?_ | refine blk_alloc ?_ _)); exact BK211.out⟩, ⟨by repeat (first | (with_reducible first | exact HB.out | apply below_alloc | apply pw_below_drewN | apply below_drew1 | refine below_set ?_ GE211.out | refine below_set ?_ GE216.out) | exact HB.out)⟩⟩
       ·
        rw [if_neg c11] at H
        exact absurd H (by simp)
      ·
       rw [if_neg c10] at H
       exact absurd H (by simp)
     ·
      rw [if_neg c9] at H
      have c9b0 := decide_eq_false c9
      clear c9
      obtain rfl := Option.some.inj H
      go_wp2
      go_ret
      exact ⟨by first | rfl | (simp [errW_none, errW_some] <;> rfl) | (simp [*, errW_none, errW_some] <;> rfl), by repeat (first | (with_reducible first | exact HB.out | apply below_alloc | apply pw_below_drewN | apply below_drew1 | refine below_set ?_ GE211.out) | exact HB.out)⟩
  ·
   rw [if_neg c4] at H
   exact absurd H (by simp)
 ·
  rw [if_neg c3] at H
  exact absurd H (by simp)

end Go.Proofs.Ytnloofhpdlggnaa.PRefcountLarge
