-- Written for this claim by a program of this session (wip/), out of the translation's own print: Lean checks it
import Derived.Test.YtcjpikjbjehjeaaPAllocBx0
import Derived.Test.YtcjpikjbjehjeaaPAllocBx5
namespace Go.Proofs.Ytcjpikjbjehjeaa.PAllocB
open Go.RowKit Go.Proofs.YtcjpikjbjehjeaaW.PrintWords Go.Proofs.YtcjpikjbjehjeaaW.PrintLast Go.Proofs.YtcjpikjbjehjeaaW.PrintMore
attribute [local go_sem] max2_int min2_int max_two min_two max_three min_three max_four min_four   -- for this text's walks alone
set_option linter.unusedVariables false
set_option linter.unusedSimpArgs false

/-! ### alloc_clip: function 47 -/
mutual
def alloc_clip.l0 : Nat → Int → List (S53) → List (S53) → List (S53) → Int → Int → Option ((List (S53)) × (List (S53)))
 | 0, _, _, _, _, _, _ => none
 | k + 1, x1, x4, x5, x8, x9, x10 => if x10 < x9 then (if 0 ≤ x10 then (if x10 < (x8.length : Int) then (if ((rd_T53 x8 x10).f2) < x1 then ((alloc_end.f ((rd_T53 x8 x10).f0) ((rd_T53 x8 x10).f1) ((rd_T53 x8 x10).f2)).bind fun t144 => ((alloc_run.f ((rd_T53 x8 x10).f2) (mn t144 x1)).bind fun bt145 => (if x5.length < 5864062014805 then (alloc_clip.j1 k x1 x4 (x5 ++ [(⟨bt145.1, bt145.2.1, bt145.2.2⟩ : S53)]) x8 x9 x10 ((rd_T53 x8 x10).f0) ((rd_T53 x8 x10).f1) ((rd_T53 x8 x10).f2)) else (none)))) else (alloc_clip.j1 k x1 x4 x5 x8 x9 x10 ((rd_T53 x8 x10).f0) ((rd_T53 x8 x10).f1) ((rd_T53 x8 x10).f2))) else (none)) else (none)) else (some (x4, x5))
def alloc_clip.j1 : Nat → Int → List (S53) → List (S53) → List (S53) → Int → Int → Int → Int → Int → Option ((List (S53)) × (List (S53)))
 | 0, _, _, _, _, _, _, _, _, _ => none
 | k + 1, x1, x4, x5, x8, x9, x10, x144000, x144001, x144002 => (alloc_end.f x144000 x144001 x144002).bind fun t151 => (if t151 > x1 then ((alloc_end.f x144000 x144001 x144002).bind fun t152 => ((alloc_run.f (mx x144002 x1) t152).bind fun bt153 => (if x4.length < 5864062014805 then (alloc_clip.l0 k x1 (x4 ++ [(⟨bt153.1, bt153.2.1, bt153.2.2⟩ : S53)]) x5 x8 x9 (wrap64 (x10 + 1))) else (none)))) else (alloc_clip.l0 k x1 x4 x5 x8 x9 (wrap64 (x10 + 1))))
end
def alloc_clip.f (k : Nat) (l0 : List (S53)) (a1 : Int) : Option ((List (S53)) × (List (S53))) := alloc_clip.l0 k a1 ([] : List (S53)) ([] : List (S53)) l0 (l0.length : Int) 0
theorem alloc_clip.mono_l : ∀ k, (∀ y0 y1 y2 y3 y4 y5, LeO (alloc_clip.l0 k y0 y1 y2 y3 y4 y5) (alloc_clip.l0 (k + 1) y0 y1 y2 y3 y4 y5)) ∧ (∀ y0 y1 y2 y3 y4 y5 y6 y7 y8, LeO (alloc_clip.j1 k y0 y1 y2 y3 y4 y5 y6 y7 y8) (alloc_clip.j1 (k + 1) y0 y1 y2 y3 y4 y5 y6 y7 y8))
 | 0 => ⟨fun _ _ _ _ _ _ r h => by simp [alloc_clip.l0] at h, fun _ _ _ _ _ _ _ _ _ r h => by simp [alloc_clip.j1] at h⟩
 | k + 1 => by
  obtain ⟨ih0, ih1⟩ := alloc_clip.mono_l k
  refine ⟨?_, ?_⟩
  all_goals (intros; (first | unfold alloc_clip.l0 | unfold alloc_clip.j1))
  all_goals repeat' first
  | (with_reducible exact ih0 _ _ _ _ _ _)
  | (with_reducible exact ih1 _ _ _ _ _ _ _ _ _)
  | (with_reducible exact LeO.refl _)
  | (with_reducible exact LeO.none _)
  | (with_reducible refine LeO.ite ?_ ?_)
  | (with_reducible refine LeO.bind ?_ (fun _ => ?_))
  | exact ih0 _ _ _ _ _ _
  | exact ih1 _ _ _ _ _ _ _ _ _
  | exact LeO.none _
  | refine LeO.ite ?_ ?_
  | refine LeO.bind ?_ (fun _ => ?_)
theorem alloc_clip.mono : ∀ a0 a1 k, LeO (alloc_clip.f k a0 a1) (alloc_clip.f (k + 1) a0 a1) := by
 intro a0 a1 k
 obtain ⟨ih0, ih1⟩ := alloc_clip.mono_l k
 unfold alloc_clip.f
 repeat' first
   | (with_reducible exact ih0 _ _ _ _ _ _)
   | (with_reducible exact ih1 _ _ _ _ _ _ _ _ _)
   | (with_reducible exact LeO.refl _)
   | (with_reducible exact LeO.none _)
   | (with_reducible refine LeO.ite ?_ ?_)
   | (with_reducible refine LeO.bind ?_ (fun _ => ?_))
   | exact ih0 _ _ _ _ _ _
   | exact ih1 _ _ _ _ _ _ _ _ _
   | exact LeO.none _
   | refine LeO.ite ?_ ?_
   | refine LeO.bind ?_ (fun _ => ?_)
def alloc_clip.T5 : Bool × List (List Nat × List Nat) := (true, [([], []), ([], []), ([1], [1]), ([], []), ([3], [3]), ([], []), ([4, 5], [4, 5]), ([2, 6, 4], [2, 6]), ([7], [7]), ([0, 8, 7], [0, 8]), ([9, 9, 0, 1, 2, 3, 4, 5, 6, 7, 8, 9], [0, 9])])
def alloc_clip.B5 : List Nat := [0, 0, 2, 0, 8, 0, 56, 126, 254, 511, 1023]
theorem alloc_clip.tab5 : rtab .any (opsOf Try.f47 5) = alloc_clip.T5 := by kernel_rfl
theorem alloc_clip.bits5 : waitsOk alloc_clip.T5.2 alloc_clip.B5 = true := by kernel_rfl
def alloc_clip.T7 : Bool × List (List Nat × List Nat) := (true, [([], []), ([], []), ([1], [1]), ([], []), ([2, 3], [2, 3]), ([], []), ([5], [5]), ([4, 6, 6], [4, 6]), ([7], [7]), ([0, 8, 7], [0, 8]), ([9, 9, 0, 1, 2, 3, 4, 5, 6, 7, 8, 9], [0, 9])])
def alloc_clip.B7 : List Nat := [0, 0, 2, 0, 14, 0, 32, 126, 254, 511, 1023]
theorem alloc_clip.tab7 : rtab .any (opsOf Try.f47 7) = alloc_clip.T7 := by kernel_rfl
theorem alloc_clip.bits7 : waitsOk alloc_clip.T7.2 alloc_clip.B7 = true := by kernel_rfl
set_option maxHeartbeats 8000000 in
set_option maxRecDepth 100000 in
theorem alloc_clip.calls (k : Nat) (A0 : Option Addr) (c0 : Nat) (l0 : List (S53)) (a1 : Int) (r1 : List (S53)) (r2 : List (S53)) (w : World) (hr0 : Kd.C k53 w A0 l0.length l0) (hc0 : l0.length ≤ c0) (h : alloc_clip.f k l0 a1 = some (r1, r2)) :
  Calls Try.prog 47 #[.slice A0 l0.length c0, .int .i64 a1] w fun e w' => ∃ v0_ v1_ : Value, e = .returned (.tuple #[v0_, v1_]) ∧ Kd.R k53 53 w' w.heap.size (fun k_ => some k_ ≠ (v1_ : Value).ownBlock) v0_ r1 ∧ Kd.R k53 53 w' w.heap.size (fun k_ => some k_ ≠ (v0_ : Value).ownBlock) v1_ r2 ∧ Below w.heap.size w w' := by
 have hu53 := Try.underlying53
 have HR0 := Aside0.mk hr0
 have HC0 := Aside0.mk hc0
 clear hr0 hc0
 have HB := Aa (Below.refl w.heap.size w)
 have H : (alloc_clip.l0 k a1 ([] : List (S53)) ([] : List (S53)) l0 (l0.length : Int) 0) = some (r1, r2) := h
 clear h
 have H' := Aside0.mk H
 clear H
 go_enter Try.func47, Try.ntmps47
 go_wp2
 go_loopg [4, 5, 10] k (fun kq v4 v5 v10 w' => ∃ (x4_1 : List (S53)) (x5_1 : List (S53)) (x10_1 : Int), v10 = .int .i64 x10_1 ∧ Aside0 (alloc_clip.l0 kq a1 x4_1 x5_1 l0 (l0.length : Int) x10_1 = some (r1, r2)) ∧ Aside0 (kq ≤ k) ∧ Aside0 (Kd.R k53 53 w' w.heap.size (fun k_ => some k_ ≠ (v5 : Value).ownBlock) v4 x4_1) ∧ Aside0 (Kd.R k53 53 w' w.heap.size (fun k_ => some k_ ≠ (v4 : Value).ownBlock) v5 x5_1) ∧ Aside0 (Below w.heap.size w w'))
 case atStart => exact ⟨(([] : List (S53))), (([] : List (S53))), (0), (by first | rfl | (simp; done) | (simp [*]; done)), H', ⟨Nat.le_refl _⟩, ⟨by first | exact Kd.R_nil _ _ _ _ _ | exact Kd.N_nil _ _ _ _ _ | exact Kd.V_nil _ _ _ _ _ | exact Kd.Q_nil _ _ _ _ _ | exact Kd.S_nil _ _ _ _ _⟩, ⟨by first | exact Kd.R_nil _ _ _ _ _ | exact Kd.N_nil _ _ _ _ _ | exact Kd.V_nil _ _ _ _ _ | exact Kd.Q_nil _ _ _ _ _ | exact Kd.S_nil _ _ _ _ _⟩, ⟨bU HB.1⟩⟩
 case round =>
  clear H'
  try clear p2
  obtain ⟨x4_1, x5_1, x10_1, rfl, HA, HK1, HO_4, HO_5, HB⟩ := hrel
  cases gk with
  | zero => exact absurd HA.1 (by simp [alloc_clip.l0])
  | succ k1 =>
   have H := HA.1
   clear HA
   simp only [alloc_clip.l0] at H
   by_cases c3 : x10_1 < (l0.length : Int)
   ·
    rw [if_pos c3] at H
    have c3b0 := decide_eq_true c3
    clear c3
    by_cases c4 : 0 ≤ x10_1
    ·
     rw [if_pos c4] at H
     have c4b0 := decide_eq_true c4
     clear c4
     by_cases c5 : x10_1 < (l0.length : Int)
     ·
      rw [if_pos c5] at H
      have c5b0 := decide_eq_true c5
      clear c5
      have HC6 := Aside0.mk H
      clear H
      have p142 : 0 ≤ (x10_1 : Int) := dT
      have q142 : x10_1 < (l0.length : Int) := dT
      obtain ⟨ad142, e142, hx142_0, hx142_1, hx142_2⟩ := at_T53 HR0.1 x10_1 p142 q142
      cases e142
      replace hx142_0 := cB HB hx142_0
      replace hx142_1 := cB HB hx142_1
      replace hx142_2 := cB HB hx142_2
      replace p142 := eq_true p142
      replace q142 := eq_true q142
      go_upto_if 17 with (first | ((with_reducible refine gD 7 ?_); refine bE #[.int .i64 0, .int .i64 0, .int .i64 0] 53 ?_; intro gb143 hg w7 hbox hb; replace HO_4 := Aa (Kd.R_below (Kd.R_elderB (rU HO_4.1) gb143 (Nat.le_of_eq hg.symm)) hb); replace HO_5 := Aa (Kd.R_below (Kd.R_elderB (rU HO_5.1) gb143 (Nat.le_of_eq hg.symm)) hb); have BK143 := Aa (hbox); have GW143 := gU HB hg; have GE143 := gU HB hg; have iE143 := Nonempty.intro GE143.1; replace HB := sU HB hb; clear hb hbox hg; have hcz8_0 : w7.cell? ⟨gb143, 0, none⟩ = some (.int .i64 0) := cC BK143 0; have hcz8_1 : w7.cell? ⟨gb143, 1, none⟩ = some (.int .i64 0) := cC BK143 1; have hcz8_2 : w7.cell? ⟨gb143, 2, none⟩ = some (.int .i64 0) := cC BK143 2; have hfz8_0 := fC BK143 0; have hfz8_1 := fC BK143 1; have hfz8_2 := fC BK143 2))
      (try simp only [Act.put, List.setIfInBounds_toArray, List.set_cons_zero, List.set_cons_succ])
      go_cut [5] (fun v5 wc => ∃ (kq : Nat) (x5_5 : List (S53)), Aside0 (alloc_clip.j1 kq a1 x4_1 x5_5 l0 (l0.length : Int) x10_1 ((rd_T53 l0 x10_1).f0) ((rd_T53 l0 x10_1).f1) ((rd_T53 l0 x10_1).f2) = some (r1, r2)) ∧ Aside0 (kq ≤ k1) ∧ Aside0 (Kd.R k53 53 wc w.heap.size (fun k_ => some k_ ≠ (v5 : Value).ownBlock ∧ k_ ≠ gb143) u4 x4_1) ∧ Aside0 (Kd.R k53 53 wc w.heap.size (fun k_ => some k_ ≠ (u4 : Value).ownBlock ∧ k_ ≠ gb143) v5 x5_5) ∧ Aside0 (wc.heap[gb143]? = some (.cells #[.int .i64 ((rd_T53 l0 x10_1).f0), .int .i64 ((rd_T53 l0 x10_1).f1), .int .i64 ((rd_T53 l0 x10_1).f2)] 53 (0, 0))) ∧ Aside0 (Below w.heap.size w wc))
      case first =>
       have H := HC6.1
       clear HC6
       by_cases c9 : ((rd_T53 l0 x10_1).f2) < a1
       ·
        rw [if_pos c9] at H
        have c9b0 := decide_eq_true c9
        clear c9
        (first | rw [c9b0] | (simp only [i64_w, i32_w]; rw [c9b0]) | skip)
        replace H := Option.bind_eq_some_iff.mp H
        obtain ⟨t144, A100, H⟩ := H
        replace H : ((alloc_run.f ((rd_T53 l0 x10_1).f2) (mn t144 a1)).bind fun bt145 => (if x5_1.length < 5864062014805 then (alloc_clip.j1 k1 a1 x4_1 (x5_1 ++ [(⟨bt145.1, bt145.2.1, bt145.2.2⟩ : S53)]) l0 (l0.length : Int) x10_1 ((rd_T53 l0 x10_1).f0) ((rd_T53 l0 x10_1).f1) ((rd_T53 l0 x10_1).f2)) else (none))) = some (r1, r2) := H
        have A10 := Aside0.mk A100
        clear A100
        obtain ⟨ji11, hji11⟩ : ∃ j_ : Int, (mn t144 a1) = j_ := ⟨_, rfl⟩
        replace H : ((alloc_run.f ((rd_T53 l0 x10_1).f2) (ji11)).bind fun bt145 => (if x5_1.length < 5864062014805 then (alloc_clip.j1 k1 a1 x4_1 (x5_1 ++ [(⟨bt145.1, bt145.2.1, bt145.2.2⟩ : S53)]) l0 (l0.length : Int) x10_1 ((rd_T53 l0 x10_1).f0) ((rd_T53 l0 x10_1).f1) ((rd_T53 l0 x10_1).f2)) else (none))) = some (r1, r2) := by first | (rw [hji11] at H; exact H) | (simp only [hji11] at H ⊢; exact H)
        (try rw [hji11] at A10)
        have hji11_ : (if a1 < t144 then a1 else t144) = ji11 := hji11
        replace H := Option.bind_eq_some_iff.mp H
        obtain ⟨⟨t145, t146, t147⟩, A120, H⟩ := H
        replace H : (if x5_1.length < 5864062014805 then (alloc_clip.j1 k1 a1 x4_1 (x5_1 ++ [(⟨t145, t146, t147⟩ : S53)]) l0 (l0.length : Int) x10_1 ((rd_T53 l0 x10_1).f0) ((rd_T53 l0 x10_1).f1) ((rd_T53 l0 x10_1).f2)) else (none)) = some (r1, r2) := H
        have A12 := Aside0.mk A120
        clear A120
        by_cases c13 : x5_1.length < 5864062014805
        ·
         rw [if_pos c13] at H
         have LMc13 := Aside0.mk c13
         clear c13
         obtain ⟨y148, hy148⟩ : ∃ y_ : List (S53), y_ = (x5_1 ++ [(⟨t145, t146, t147⟩ : S53)]) := ⟨_, rfl⟩
         replace H : (alloc_clip.j1 k1 a1 x4_1 y148 l0 (l0.length : Int) x10_1 ((rd_T53 l0 x10_1).f0) ((rd_T53 l0 x10_1).f1) ((rd_T53 l0 x10_1).f2)) = some (r1, r2) := by first | (rw [hy148]; exact H) | exact H
         have Ny148 := Aside0.mk hy148
         clear hy148
         have H' := Aside0.mk H
         clear H
         try go_wp2
         have n0_ : Aside0 (Kd.R k53 53 (((w7.setCell ⟨gb143, 0, none⟩ (.int .i64 ((rd_T53 l0 x10_1).f0))).setCell ⟨gb143, 1, none⟩ (.int .i64 ((rd_T53 l0 x10_1).f1))).setCell ⟨gb143, 2, none⟩ (.int .i64 ((rd_T53 l0 x10_1).f2))) w.heap.size (fun k_ => some k_ ≠ (u5 : Value).ownBlock ∧ k_ ≠ gb143) u4 x4_1) := ⟨rU (Kd.R_mono (Kd.R_far (p := ⟨gb143, 2, none⟩) (Kd.R_far (p := ⟨gb143, 1, none⟩) (Kd.R_far (p := ⟨gb143, 0, none⟩) (Kd.R_mono HO_4.1 (fun k_ hk => (⟨hk, hk.2⟩ : _ ∧ k_ ≠ gb143))) (fun _ hk => hk.2) (.int .i64 ((rd_T53 l0 x10_1).f0))) (fun _ hk => hk.2) (.int .i64 ((rd_T53 l0 x10_1).f1))) (fun _ hk => hk.2) (.int .i64 ((rd_T53 l0 x10_1).f2))) (fun _ hk => ⟨hk.1.1, hk.1.2⟩))⟩
         have n1_ : Aside0 (Kd.R k53 53 (((w7.setCell ⟨gb143, 0, none⟩ (.int .i64 ((rd_T53 l0 x10_1).f0))).setCell ⟨gb143, 1, none⟩ (.int .i64 ((rd_T53 l0 x10_1).f1))).setCell ⟨gb143, 2, none⟩ (.int .i64 ((rd_T53 l0 x10_1).f2))) w.heap.size (fun k_ => some k_ ≠ (u4 : Value).ownBlock ∧ k_ ≠ gb143) u5 x5_1) := ⟨rU (Kd.R_mono (Kd.R_far (p := ⟨gb143, 2, none⟩) (Kd.R_far (p := ⟨gb143, 1, none⟩) (Kd.R_far (p := ⟨gb143, 0, none⟩) (Kd.R_mono HO_5.1 (fun k_ hk => (⟨hk, hk.2⟩ : _ ∧ k_ ≠ gb143))) (fun _ hk => hk.2) (.int .i64 ((rd_T53 l0 x10_1).f0))) (fun _ hk => hk.2) (.int .i64 ((rd_T53 l0 x10_1).f1))) (fun _ hk => hk.2) (.int .i64 ((rd_T53 l0 x10_1).f2))) (fun _ hk => ⟨hk.1.1, hk.1.2⟩))⟩
         have n2_ : Aside0 ((((w7.setCell ⟨gb143, 0, none⟩ (.int .i64 ((rd_T53 l0 x10_1).f0))).setCell ⟨gb143, 1, none⟩ (.int .i64 ((rd_T53 l0 x10_1).f1))).setCell ⟨gb143, 2, none⟩ (.int .i64 ((rd_T53 l0 x10_1).f2))).heap[gb143]? = some (.cells #[.int .i64 ((rd_T53 l0 x10_1).f0), .int .i64 ((rd_T53 l0 x10_1).f1), .int .i64 ((rd_T53 l0 x10_1).f2)] 53 (0, 0))) := ⟨by refine kP ?_; refine blk_put (cs := #[.int .i64 ((rd_T53 l0 x10_1).f0), .int .i64 ((rd_T53 l0 x10_1).f1), .int .i64 0]) ?_ 2 _ rfl; refine kP ?_; refine blk_put (cs := #[.int .i64 ((rd_T53 l0 x10_1).f0), .int .i64 0, .int .i64 0]) ?_ 1 _ rfl; refine kP ?_; refine blk_put (cs := #[.int .i64 0, .int .i64 0, .int .i64 0]) ?_ 0 _ rfl; refine kP ?_; exact BK143.1⟩
         have n3_ : Aside0 (Below w.heap.size w (((w7.setCell ⟨gb143, 0, none⟩ (.int .i64 ((rd_T53 l0 x10_1).f0))).setCell ⟨gb143, 1, none⟩ (.int .i64 ((rd_T53 l0 x10_1).f1))).setCell ⟨gb143, 2, none⟩ (.int .i64 ((rd_T53 l0 x10_1).f2)))) := ⟨bS HB.1⟩
         (try clear HO_4)
         (try clear HO_5)
         (try clear BK143)
         (try clear HB)
         generalize (((w7.setCell ⟨gb143, 0, none⟩ (.int .i64 ((rd_T53 l0 x10_1).f0))).setCell ⟨gb143, 1, none⟩ (.int .i64 ((rd_T53 l0 x10_1).f1))).setCell ⟨gb143, 2, none⟩ (.int .i64 ((rd_T53 l0 x10_1).f2))) = w14 at n0_ n1_ n2_ n3_ ⊢
         have HO_4 := n0_
         have HO_5 := n1_
         have BK143 := n2_
         have HB := n3_
         clear n0_ n1_ n2_ n3_
         replace HO_4 := Aa (Kd.R_drew HO_4.1)
         replace HO_5 := Aa (Kd.R_drew HO_5.1)
         replace BK143 := Aa (blk_drew BK143.1)
         replace HB := Aa (below_drew1 HB.1)
         refine start_ (n := 11) (S := fun w' => w'.cell? ⟨gb143, 0, none⟩ = some (.int .i64 ((rd_T53 l0 x10_1).f0)) ∧ w'.cell? ⟨gb143, 1, none⟩ = some (.int .i64 ((rd_T53 l0 x10_1).f1)) ∧ w'.cell? ⟨gb143, 2, none⟩ = some (.int .i64 ((rd_T53 l0 x10_1).f2))) (ds := []) (bm 11 0) (by kernel_rfl) rfl (bm0 _) ⟨cC BK143 0, cC BK143 1, cC BK143 2⟩ (fun hHeld => ?_); refine with_tabW alloc_clip.tab5 alloc_clip.bits5 (fun HT_ HW_ => ?_)
         generalize w14.drew = w15 at HO_4 HO_5 BK143 HB hHeld ⊢
         refine pA 1 0 18 ?_
         refine pA 3 1 19 ?_
         refine pA 35 5 23 ?_
         refine tA 39 2 20 hHeld ?_
         refine tA 47 3 21 hHeld ?_
         refine oA 63 4 22 (fun K hK => ?_)
         refine gR Try.func36 #[.agg #[.int .i64 ((rd_T53 l0 x10_1).f0), .int .i64 ((rd_T53 l0 x10_1).f1), .int .i64 ((rd_T53 l0 x10_1).f2)]] ?_
         with_reducible refine (alloc_end.calls ((rd_T53 l0 x10_1).f0) ((rd_T53 l0 x10_1).f1) ((rd_T53 l0 x10_1).f2) t144 _ A10.1).mono ?_
         rintro e w16 ⟨rfl, hb⟩
         refine ⟨_, rfl, ?_⟩
         replace HO_4 := rB HO_4 hb
         replace HO_5 := rB HO_5 hb
         replace BK143 := kB BK143 hb
         replace HB := sB HB hb
         (try clear hb)
         (try clear hb2)
         (try clear hk)
         (try clear hi)
         refine hK.out _ _ ⟨cC BK143 0, cC BK143 1, cC BK143 2⟩ (fun hHeld => ?_)
         clear hK K
         refine nA ?_
         refine pA 127 6 24 ?_
         refine oA 255 7 25 (fun K hK => ?_)
         refine goes_ Try.func61 (by kernel_rfl) rfl #[.int .i64 ((rd_T53 l0 x10_1).f2), .int .i64 ji11] (by rfl) rfl rfl (by (try simp only [List.map_toArray, List.map_cons, List.map_nil]); first | done | (simp only [hji11]; rfl) | rfl | (simp only [List.length_drop, List.length_take]; rfl)) ?_
         with_reducible refine (alloc_run.calls ((rd_T53 l0 x10_1).f2) ji11 t145 t146 t147 _ A12.1).mono ?_
         rintro e w17 ⟨rfl, hb⟩
         refine ⟨_, rfl, ?_⟩
         replace HO_4 := rB HO_4 hb
         replace HO_5 := rB HO_5 hb
         replace BK143 := kB BK143 hb
         replace HB := sB HB hb
         (try clear hb)
         (try clear hb2)
         (try clear hk)
         (try clear hi)
         refine hK.out _ _ ⟨cC BK143 0, cC BK143 1, cC BK143 2⟩ (fun hHeld => ?_)
         clear hK K
         refine nA ?_
         refine oA 511 8 26 (fun K hK => ?_)
         refine value_ (w1 := ?_) (v := ?_) (by rfl) rfl ?_ ?_
         rotate_left 2
         ·
          go_simp; constructor
          ·
           rfl
          ·
           rfl
         refine hK.out _ _ ⟨(blk_cell (blk_alloc BK143.1 _) 0).trans rfl, (blk_cell (blk_alloc BK143.1 _) 1).trans rfl, (blk_cell (blk_alloc BK143.1 _) 2).trans rfl⟩ (fun hHeld => ?_)
         clear hK K
         refine nA ?_
         refine oA 1023 9 27 (fun K hK => ?_)
         refine Kd.R_append_step k53 (w0 := w) w.heap.size (by rfl) (.tmp 18) (.tmp 26) 24 53 (.agg #[(.int .i64 0), (.int .i64 0), (.int .i64 0)]) 24 rfl Try.underlying24 info53 rfl (by decide) (by omega) u5 x5_1 (⟨t145, t146, t147⟩ : S53) [.int .i64 t145, .int .i64 t146, .int .i64 t147] (fun k_ => some k_ ≠ (u4 : Value).ownBlock ∧ k_ ≠ gb143) (fun _ => False) rfl rfl ?aP (fun _ hk => hk.elim) ?aF ?aO ?aB ?aS ?aL ?_
         (case aP => exact k53_mkM _ _ _ (⟨t145, t146, t147⟩ : S53))
         (case aB => exact (bS HB.1))
         (case aF => exact (fun k_ hk => ⟨Kd.fresh' (Kd.R_lt (rU HO_4.1)) k_ hk, Kd.freshB (g := gb143) (o := .cells #[.int .i64 ((rd_T53 l0 x10_1).f0), .int .i64 ((rd_T53 l0 x10_1).f1), .int .i64 ((rd_T53 l0 x10_1).f2)] 53 (0, 0)) (kU BK143.1) k_ hk⟩))
         (case aO => exact (rU HO_5.1))
         (case aS => exact (below_size (bS HB.1)))
         (case aL => have := LMc13.1; omega)
         intro v149 w18 ho hb hg hat
         rw [← Ny148.1] at ho
         replace HO_4 := Aa (Kd.R_after (ok := (fun k_ => k_ ≠ gb143)) (rU (Kd.R_mono HO_4.1 (fun _ hk => ⟨hk.2, hk.1⟩))) hg hat)
         replace BK143 := Aa (blk_grown (g := gb143) (o := .cells #[.int .i64 ((rd_T53 l0 x10_1).f0), .int .i64 ((rd_T53 l0 x10_1).f1), .int .i64 ((rd_T53 l0 x10_1).f2)] 53 (0, 0)) (kU BK143.1) hg (Kd.R_away HO_5.1 (fun _ hk => hk.2)))
         replace HB := Aa (hb)
         have HO150 := Aa (ho)
         clear HO_5
         clear ho hb hg hat
         refine hK.out _ _ ⟨cC BK143 0, cC BK143 1, cC BK143 2⟩ (fun hHeld => ?_)
         clear hK K
         refine nA ?_
         refine pA 2047 10 5 ?_
         refine done_ (done_of HT_.1 (by kernel_rfl)) ?_
         try go_wp2
         go_meet
         case rel => exact ⟨_, (y148), H', ⟨by have := HK1.1; first | omega | exact Nat.le_refl _⟩, ⟨rU (Kd.R_mono HO_4.1 (fun _ hk => ⟨hk.2, hk.1⟩))⟩, ⟨rU HO150.1⟩, ⟨by refine kP ?_; exact BK143.1⟩, ⟨bS HB.1⟩⟩
        ·
         rw [if_neg c13] at H
         exact absurd H (by simp)
       ·
        rw [if_neg c9] at H
        have c9b0 := decide_eq_false c9
        clear c9
        (first | rw [c9b0] | (simp only [i64_w, i32_w]; rw [c9b0]) | skip)
        have H' := Aside0.mk H
        clear H
        go_wp2
        go_meet
        case rel => exact ⟨_, (x5_1), H', ⟨by have := HK1.1; first | omega | exact Nat.le_refl _⟩, ⟨rU (Kd.R_mono (Kd.R_far (p := ⟨gb143, 2, none⟩) (Kd.R_far (p := ⟨gb143, 1, none⟩) (Kd.R_far (p := ⟨gb143, 0, none⟩) (Kd.R_mono HO_4.1 (fun k_ hk => (⟨hk, hk.2⟩ : _ ∧ k_ ≠ gb143))) (fun _ hk => hk.2) (.int .i64 ((rd_T53 l0 x10_1).f0))) (fun _ hk => hk.2) (.int .i64 ((rd_T53 l0 x10_1).f1))) (fun _ hk => hk.2) (.int .i64 ((rd_T53 l0 x10_1).f2))) (fun _ hk => ⟨hk.1.1, hk.1.2⟩))⟩, ⟨rU (Kd.R_mono (Kd.R_far (p := ⟨gb143, 2, none⟩) (Kd.R_far (p := ⟨gb143, 1, none⟩) (Kd.R_far (p := ⟨gb143, 0, none⟩) (Kd.R_mono HO_5.1 (fun k_ hk => (⟨hk, hk.2⟩ : _ ∧ k_ ≠ gb143))) (fun _ hk => hk.2) (.int .i64 ((rd_T53 l0 x10_1).f0))) (fun _ hk => hk.2) (.int .i64 ((rd_T53 l0 x10_1).f1))) (fun _ hk => hk.2) (.int .i64 ((rd_T53 l0 x10_1).f2))) (fun _ hk => ⟨hk.1.1, hk.1.2⟩))⟩, ⟨by refine kP ?_; refine blk_put (cs := #[.int .i64 ((rd_T53 l0 x10_1).f0), .int .i64 ((rd_T53 l0 x10_1).f1), .int .i64 0]) ?_ 2 _ rfl; refine kP ?_; refine blk_put (cs := #[.int .i64 ((rd_T53 l0 x10_1).f0), .int .i64 0, .int .i64 0]) ?_ 1 _ rfl; refine kP ?_; refine blk_put (cs := #[.int .i64 0, .int .i64 0, .int .i64 0]) ?_ 0 _ rfl; refine kP ?_; exact BK143.1⟩, ⟨bS HB.1⟩⟩
      case rest =>
       clear HC6
       try clear c1
       try clear p1
       try clear q1
       try clear hx1
       try clear p2
       try clear c3
       try clear c3b0
       try clear c4
       try clear c4b0
       try clear c5
       try clear c5b0
       try clear c6
       try clear c9
       try clear c9b0
       try clear c13
       try clear p14
       try clear q14
       try clear hx14
       try clear hcz8_0
       try clear hcz8_1
       try clear hcz8_2
       try clear hfz8_0
       try clear hfz8_1
       try clear hfz8_2
       try clear hx142_0
       try clear hx142_1
       try clear hx142_2
       try clear p142
       try clear p2
       try clear q142
       obtain ⟨kq, x5_5, HA, HJ5, HO_4, HO_5, BK143, HB⟩ := hcut
       cases kq with
       | zero => exact absurd HA.1 (by simp [alloc_clip.j1])
       | succ kj5 =>
        have H := HA.1
        clear HA
        simp only [alloc_clip.j1] at H
        replace H := Option.bind_eq_some_iff.mp H
        obtain ⟨t151, A190, H⟩ := H
        replace H : (if t151 > a1 then ((alloc_end.f ((rd_T53 l0 x10_1).f0) ((rd_T53 l0 x10_1).f1) ((rd_T53 l0 x10_1).f2)).bind fun t152 => ((alloc_run.f (mx ((rd_T53 l0 x10_1).f2) a1) t152).bind fun bt153 => (if x4_1.length < 5864062014805 then (alloc_clip.l0 kj5 a1 (x4_1 ++ [(⟨bt153.1, bt153.2.1, bt153.2.2⟩ : S53)]) x5_5 l0 (l0.length : Int) (wrap64 (x10_1 + 1))) else (none)))) else (alloc_clip.l0 kj5 a1 x4_1 x5_5 l0 (l0.length : Int) (wrap64 (x10_1 + 1)))) = some (r1, r2) := H
        have A19 := Aside0.mk A190
        clear A190
        by_cases c20 : t151 > a1
        ·
         rw [if_pos c20] at H
         have c20b0 := decide_eq_true c20
         clear c20
         obtain ⟨ji21, hji21⟩ : ∃ j_ : Int, (mx ((rd_T53 l0 x10_1).f2) a1) = j_ := ⟨_, rfl⟩
         replace H : ((alloc_end.f ((rd_T53 l0 x10_1).f0) ((rd_T53 l0 x10_1).f1) ((rd_T53 l0 x10_1).f2)).bind fun t152 => ((alloc_run.f (ji21) t152).bind fun bt153 => (if x4_1.length < 5864062014805 then (alloc_clip.l0 kj5 a1 (x4_1 ++ [(⟨bt153.1, bt153.2.1, bt153.2.2⟩ : S53)]) x5_5 l0 (l0.length : Int) (wrap64 (x10_1 + 1))) else (none)))) = some (r1, r2) := by first | (rw [hji21] at H; exact H) | (simp only [hji21] at H ⊢; exact H)
         (try rw [hji21] at A19)
         have hji21_ : (if ((rd_T53 l0 x10_1).f2) < a1 then a1 else ((rd_T53 l0 x10_1).f2)) = ji21 := hji21
         replace H := Option.bind_eq_some_iff.mp H
         obtain ⟨t152, A220, H⟩ := H
         replace H : ((alloc_run.f (ji21) t152).bind fun bt153 => (if x4_1.length < 5864062014805 then (alloc_clip.l0 kj5 a1 (x4_1 ++ [(⟨bt153.1, bt153.2.1, bt153.2.2⟩ : S53)]) x5_5 l0 (l0.length : Int) (wrap64 (x10_1 + 1))) else (none))) = some (r1, r2) := H
         have A22 := Aside0.mk A220
         clear A220
         replace H := Option.bind_eq_some_iff.mp H
         obtain ⟨⟨t153, t154, t155⟩, A230, H⟩ := H
         replace H : (if x4_1.length < 5864062014805 then (alloc_clip.l0 kj5 a1 (x4_1 ++ [(⟨t153, t154, t155⟩ : S53)]) x5_5 l0 (l0.length : Int) (wrap64 (x10_1 + 1))) else (none)) = some (r1, r2) := H
         have A23 := Aside0.mk A230
         clear A230
         by_cases c24 : x4_1.length < 5864062014805
         ·
          rw [if_pos c24] at H
          have LMc24 := Aside0.mk c24
          clear c24
          obtain ⟨y156, hy156⟩ : ∃ y_ : List (S53), y_ = (x4_1 ++ [(⟨t153, t154, t155⟩ : S53)]) := ⟨_, rfl⟩
          replace H : (alloc_clip.l0 kj5 a1 y156 x5_5 l0 (l0.length : Int) (wrap64 (x10_1 + 1))) = some (r1, r2) := by first | (rw [hy156]; exact H) | exact H
          have Ny156 := Aside0.mk hy156
          clear hy156
          have H' := Aside0.mk H
          clear H
          have hcz25_0 : wc.cell? ⟨gb143, 0, none⟩ = some (.int .i64 ((rd_T53 l0 x10_1).f0)) := cC BK143 0
          have hcz25_1 : wc.cell? ⟨gb143, 1, none⟩ = some (.int .i64 ((rd_T53 l0 x10_1).f1)) := cC BK143 1
          have hcz25_2 : wc.cell? ⟨gb143, 2, none⟩ = some (.int .i64 ((rd_T53 l0 x10_1).f2)) := cC BK143 2
          have hfz25_0 := fC BK143 0
          have hfz25_1 := fC BK143 1
          have hfz25_2 := fC BK143 2
          try go_wp2_with (first | ((with_reducible refine gC 36 ?_); refine gL 29 Try.func36 #[.agg #[.int .i64 ((rd_T53 l0 x10_1).f0), .int .i64 ((rd_T53 l0 x10_1).f1), .int .i64 ((rd_T53 l0 x10_1).f2)]] ?_; (with_reducible refine (alloc_end.calls ((rd_T53 l0 x10_1).f0) ((rd_T53 l0 x10_1).f1) ((rd_T53 l0 x10_1).f2) t151 _ A19.1).mono ?_); rintro e w26 ⟨rfl, hb⟩; refine ⟨_, rfl, ?_⟩; replace HO_4 := rB HO_4 hb; replace HO_5 := rB HO_5 hb; replace BK143 := kB BK143 hb; replace HB := sB HB hb; (try clear hb)))
          replace HO_4 := Aa (Kd.R_drew HO_4.1)
          replace HO_5 := Aa (Kd.R_drew HO_5.1)
          replace BK143 := Aa (blk_drew BK143.1)
          replace HB := Aa (below_drew1 HB.1)
          refine start_ (n := 11) (S := fun w' => w'.cell? ⟨gb143, 0, none⟩ = some (.int .i64 ((rd_T53 l0 x10_1).f0)) ∧ w'.cell? ⟨gb143, 1, none⟩ = some (.int .i64 ((rd_T53 l0 x10_1).f1)) ∧ w'.cell? ⟨gb143, 2, none⟩ = some (.int .i64 ((rd_T53 l0 x10_1).f2))) (ds := []) (bm 11 0) (by kernel_rfl) rfl (bm0 _) ⟨cC BK143 0, cC BK143 1, cC BK143 2⟩ (fun hHeld => ?_); refine with_tabW alloc_clip.tab7 alloc_clip.bits7 (fun HT_ HW_ => ?_)
          generalize w26.drew = w27 at HO_4 HO_5 BK143 HB hHeld ⊢
          refine pA 1 0 32 ?_
          refine pA 3 1 33 ?_
          refine pA 11 3 35 ?_
          refine tA 15 2 34 hHeld ?_
          refine pA 31 4 36 ?_
          refine tA 63 5 37 hHeld ?_
          refine oA 127 6 38 (fun K hK => ?_)
          refine gR Try.func36 #[.agg #[.int .i64 ((rd_T53 l0 x10_1).f0), .int .i64 ((rd_T53 l0 x10_1).f1), .int .i64 ((rd_T53 l0 x10_1).f2)]] ?_
          with_reducible refine (alloc_end.calls ((rd_T53 l0 x10_1).f0) ((rd_T53 l0 x10_1).f1) ((rd_T53 l0 x10_1).f2) t152 _ A22.1).mono ?_
          rintro e w28 ⟨rfl, hb⟩
          refine ⟨_, rfl, ?_⟩
          replace HO_4 := rB HO_4 hb
          replace HO_5 := rB HO_5 hb
          replace BK143 := kB BK143 hb
          replace HB := sB HB hb
          (try clear hb)
          (try clear hb2)
          (try clear hk)
          (try clear hi)
          refine hK.out _ _ ⟨cC BK143 0, cC BK143 1, cC BK143 2⟩ (fun hHeld => ?_)
          clear hK K
          refine nA ?_
          refine oA 255 7 39 (fun K hK => ?_)
          refine goes_ Try.func61 (by kernel_rfl) rfl #[.int .i64 ji21, .int .i64 t152] (by rfl) rfl rfl (by (try simp only [List.map_toArray, List.map_cons, List.map_nil]); first | done | (simp only [hji21]; rfl) | rfl | (simp only [List.length_drop, List.length_take]; rfl)) ?_
          with_reducible refine (alloc_run.calls ji21 t152 t153 t154 t155 _ A23.1).mono ?_
          rintro e w29 ⟨rfl, hb⟩
          refine ⟨_, rfl, ?_⟩
          replace HO_4 := rB HO_4 hb
          replace HO_5 := rB HO_5 hb
          replace BK143 := kB BK143 hb
          replace HB := sB HB hb
          (try clear hb)
          (try clear hb2)
          (try clear hk)
          (try clear hi)
          refine hK.out _ _ ⟨cC BK143 0, cC BK143 1, cC BK143 2⟩ (fun hHeld => ?_)
          clear hK K
          refine nA ?_
          refine oA 511 8 40 (fun K hK => ?_)
          refine value_ (w1 := ?_) (v := ?_) (by rfl) rfl ?_ ?_
          rotate_left 2
          ·
           go_simp; constructor
           ·
            rfl
           ·
            rfl
          refine hK.out _ _ ⟨(blk_cell (blk_alloc BK143.1 _) 0).trans rfl, (blk_cell (blk_alloc BK143.1 _) 1).trans rfl, (blk_cell (blk_alloc BK143.1 _) 2).trans rfl⟩ (fun hHeld => ?_)
          clear hK K
          refine nA ?_
          refine oA 1023 9 41 (fun K hK => ?_)
          refine Kd.R_append_step k53 (w0 := w) w.heap.size (by rfl) (.tmp 32) (.tmp 40) 24 53 (.agg #[(.int .i64 0), (.int .i64 0), (.int .i64 0)]) 24 rfl Try.underlying24 info53 rfl (by decide) (by omega) u4 x4_1 (⟨t153, t154, t155⟩ : S53) [.int .i64 t153, .int .i64 t154, .int .i64 t155] (fun k_ => some k_ ≠ (u5 : Value).ownBlock ∧ k_ ≠ gb143) (fun _ => False) rfl rfl ?aP (fun _ hk => hk.elim) ?aF ?aO ?aB ?aS ?aL ?_
          (case aP => exact k53_mkM _ _ _ (⟨t153, t154, t155⟩ : S53))
          (case aB => exact (bS HB.1))
          (case aF => exact (fun k_ hk => ⟨Kd.fresh' (Kd.R_lt (rU HO_5.1)) k_ hk, Kd.freshB (g := gb143) (o := .cells #[.int .i64 ((rd_T53 l0 x10_1).f0), .int .i64 ((rd_T53 l0 x10_1).f1), .int .i64 ((rd_T53 l0 x10_1).f2)] 53 (0, 0)) (kU BK143.1) k_ hk⟩))
          (case aO => exact (rU HO_4.1))
          (case aS => exact (below_size (bS HB.1)))
          (case aL => have := LMc24.1; omega)
          intro v157 w30 ho hb hg hat
          rw [← Ny156.1] at ho
          replace HO_5 := Aa (Kd.R_after (ok := (fun k_ => k_ ≠ gb143)) (rU (Kd.R_mono HO_5.1 (fun _ hk => ⟨hk.2, hk.1⟩))) hg hat)
          replace BK143 := Aa (blk_grown (g := gb143) (o := .cells #[.int .i64 ((rd_T53 l0 x10_1).f0), .int .i64 ((rd_T53 l0 x10_1).f1), .int .i64 ((rd_T53 l0 x10_1).f2)] 53 (0, 0)) (kU BK143.1) hg (Kd.R_away HO_4.1 (fun _ hk => hk.2)))
          replace HB := Aa (hb)
          have HO158 := Aa (ho)
          clear HO_4
          clear ho hb hg hat
          refine hK.out _ _ ⟨cC BK143 0, cC BK143 1, cC BK143 2⟩ (fun hHeld => ?_)
          clear hK K
          refine nA ?_
          refine pA 2047 10 4 ?_
          refine done_ (done_of HT_.1 (by kernel_rfl)) ?_
          try go_wp2
          go_roundg kj5
          case measure => have := HK1.1; have := HJ5.1; omega
          case rel => exact ⟨(y156), (x5_5), (wrap64 (x10_1 + 1)), (by first | rfl | (simp; done) | (simp [*]; done)), H', ⟨by have := HK1.1; have := HJ5.1; omega⟩, ⟨rU (Kd.R_mono HO158.1 (fun _ hk => hk.1))⟩, ⟨rU (Kd.R_mono HO_5.1 (fun _ hk => hk.2))⟩, ⟨bS HB.1⟩⟩
         ·
          rw [if_neg c24] at H
          exact absurd H (by simp)
        ·
         rw [if_neg c20] at H
         have c20b0 := decide_eq_false c20
         clear c20
         have H' := Aside0.mk H
         clear H
         have hcz31_0 : wc.cell? ⟨gb143, 0, none⟩ = some (.int .i64 ((rd_T53 l0 x10_1).f0)) := cC BK143 0
         have hcz31_1 : wc.cell? ⟨gb143, 1, none⟩ = some (.int .i64 ((rd_T53 l0 x10_1).f1)) := cC BK143 1
         have hcz31_2 : wc.cell? ⟨gb143, 2, none⟩ = some (.int .i64 ((rd_T53 l0 x10_1).f2)) := cC BK143 2
         have hfz31_0 := fC BK143 0
         have hfz31_1 := fC BK143 1
         have hfz31_2 := fC BK143 2
         go_wp2_with (first | ((with_reducible refine gC 36 ?_); refine gL 29 Try.func36 #[.agg #[.int .i64 ((rd_T53 l0 x10_1).f0), .int .i64 ((rd_T53 l0 x10_1).f1), .int .i64 ((rd_T53 l0 x10_1).f2)]] ?_; (with_reducible refine (alloc_end.calls ((rd_T53 l0 x10_1).f0) ((rd_T53 l0 x10_1).f1) ((rd_T53 l0 x10_1).f2) t151 _ A19.1).mono ?_); rintro e w32 ⟨rfl, hb⟩; refine ⟨_, rfl, ?_⟩; replace HO_4 := rB HO_4 hb; replace HO_5 := rB HO_5 hb; replace BK143 := kB BK143 hb; replace HB := sB HB hb; (try clear hb)))
         go_roundg kj5
         case measure => have := HK1.1; have := HJ5.1; omega
         case rel => exact ⟨(x4_1), (x5_5), (wrap64 (x10_1 + 1)), (by first | rfl | (simp; done) | (simp [*]; done)), H', ⟨by have := HK1.1; have := HJ5.1; omega⟩, ⟨rU (Kd.R_mono HO_4.1 (fun _ hk => hk.1))⟩, ⟨rU (Kd.R_mono HO_5.1 (fun _ hk => hk.1))⟩, ⟨bS HB.1⟩⟩
     ·
      rw [if_neg c5] at H
      exact absurd H (by simp)
    ·
     rw [if_neg c4] at H
     exact absurd H (by simp)
   ·
    rw [if_neg c3] at H
    have c3b0 := decide_eq_false c3
    clear c3
    simp only [Option.some.injEq, Prod.mk.injEq] at H
    obtain ⟨rfl, rfl⟩ := H
    go_wp2
    go_ret2
    exact ⟨_, _, fT, rU HO_4.1, rU HO_5.1, bU HB.1⟩

/-! ### alloc_without: function 46 -/
def alloc_without.l0 : Nat → List (S53) → List (S53) → Int → Int → Option ((List (S53)))
 | 0, _, _, _, _ => none
 | k + 1, x0, x11, x12, x13 => if x13 < x12 then (if 0 ≤ x13 then (if x13 < (x11.length : Int) then ((alloc_clip.f k x0 ((rd_T53 x11 x13).f2)).bind fun bt161 => ((alloc_end.f ((rd_T53 x11 x13).f0) ((rd_T53 x11 x13).f1) ((rd_T53 x11 x13).f2)).bind fun t167 => ((alloc_clip.f k bt161.1 t167).bind fun bt168 => (if bt161.2.length + bt168.1.length < 5864062014805 then (alloc_without.l0 k (bt161.2 ++ bt168.1) x11 x12 (wrap64 (x13 + 1))) else (none))))) else (none)) else (none)) else (some x0)
def alloc_without.f (k : Nat) (l0 : List (S53)) (l1 : List (S53)) : Option ((List (S53))) := alloc_without.l0 k l0 l1 (l1.length : Int) 0
theorem alloc_without.mono_l : ∀ k, (∀ y0 y1 y2 y3, LeO (alloc_without.l0 k y0 y1 y2 y3) (alloc_without.l0 (k + 1) y0 y1 y2 y3))
 | 0 => fun _ _ _ _ r h => by simp [alloc_without.l0] at h
 | k + 1 => by
  have ih0 := alloc_without.mono_l k
  ·
   intro y0 y1 y2 y3
   unfold alloc_without.l0
   repeat' first
   | (with_reducible exact ih0 _ _ _ _)
   | (with_reducible exact alloc_clip.mono _ _ _)
   | (with_reducible exact LeO.refl _)
   | (with_reducible exact LeO.none _)
   | (with_reducible refine LeO.ite ?_ ?_)
   | (with_reducible refine LeO.bind ?_ (fun _ => ?_))
   | exact ih0 _ _ _ _
   | exact alloc_clip.mono _ _ _
   | exact LeO.none _
   | refine LeO.ite ?_ ?_
   | refine LeO.bind ?_ (fun _ => ?_)
theorem alloc_without.mono : ∀ a0 a1 k, LeO (alloc_without.f k a0 a1) (alloc_without.f (k + 1) a0 a1) := by
 intro a0 a1 k
 have ih0 := alloc_without.mono_l k
 unfold alloc_without.f
 repeat' first
   | (with_reducible exact ih0 _ _ _ _)
   | (with_reducible exact alloc_clip.mono _ _ _)
   | (with_reducible exact LeO.refl _)
   | (with_reducible exact LeO.none _)
   | (with_reducible refine LeO.ite ?_ ?_)
   | (with_reducible refine LeO.bind ?_ (fun _ => ?_))
   | exact ih0 _ _ _ _
   | exact alloc_clip.mono _ _ _
   | exact LeO.none _
   | refine LeO.ite ?_ ?_
   | refine LeO.bind ?_ (fun _ => ?_)
set_option maxHeartbeats 8000000 in
set_option maxRecDepth 100000 in
theorem alloc_without.calls (k : Nat) (P0_ : Nat → Prop) (A0 : Option Addr) (c0 : Nat) (l0 : List (S53)) (A1 : Option Addr) (c1 : Nat) (l1 : List (S53)) (r : List (S53)) (w : World) (hs0 : Kd.V k53 53 w w.heap.size (fun k_ => P0_ k_) (.slice A0 l0.length c0) l0) (hr1 : Kd.C k53 w A1 l1.length l1) (hc1 : l1.length ≤ c1) (h : alloc_without.f k l0 l1 = some r) :
  Calls Try.prog 46 #[.slice A0 l0.length c0, .slice A1 l1.length c1] w fun e w' => ∃ v0_ : Value, e = .returned (v0_) ∧ Kd.V k53 53 w' w.heap.size (fun k_ => (P0_ k_ ∨ w.heap.size ≤ k_)) v0_ r ∧ Below w.heap.size w w' := by
 have hu53 := Try.underlying53
 have HO0 := Aa (show Kd.V k53 53 w w.heap.size (fun k_ => (P0_ k_ ∨ w.heap.size ≤ k_)) (.slice A0 l0.length c0) l0 from Kd.V_mono hs0 (fun k_ hk => .inl hk))
 have HR1 := Aside0.mk hr1
 have HC1 := Aside0.mk hc1
 clear hr1 hc1
 have HB := Aa (Below.refl w.heap.size w)
 have H : (alloc_without.l0 k l0 l1 (l1.length : Int) 0) = some r := h
 clear h
 have H' := Aside0.mk H
 clear H
 go_enter Try.func46, Try.ntmps46
 go_wp2
 go_loopg [0, 13] k (fun kq v0 v13 w' => ∃ (x0_1 : List (S53)) (x13_1 : Int), v13 = .int .i64 x13_1 ∧ Aside0 (alloc_without.l0 kq x0_1 l1 (l1.length : Int) x13_1 = some r) ∧ Aside0 (kq ≤ k) ∧ Aside0 (Kd.V k53 53 w' w.heap.size (fun k_ => (P0_ k_ ∨ w.heap.size ≤ k_)) v0 x0_1) ∧ Aside0 (Below w.heap.size w w'))
 case atStart => exact ⟨(l0), (0), (by first | rfl | (simp; done) | (simp [*]; done)), H', ⟨Nat.le_refl _⟩, ⟨vU HO0.1⟩, ⟨bU HB.1⟩⟩
 case round =>
  clear H'
  try clear c1
  try clear p2
  obtain ⟨x0_1, x13_1, rfl, HA, HK1, HO_0, HB⟩ := hrel
  cases gk with
  | zero => exact absurd HA.1 (by simp [alloc_without.l0])
  | succ k1 =>
   have H := HA.1
   clear HA
   simp only [alloc_without.l0] at H
   by_cases c3 : x13_1 < (l1.length : Int)
   ·
    rw [if_pos c3] at H
    have c3b0 := decide_eq_true c3
    clear c3
    by_cases c4 : 0 ≤ x13_1
    ·
     rw [if_pos c4] at H
     have c4b0 := decide_eq_true c4
     clear c4
     by_cases c5 : x13_1 < (l1.length : Int)
     ·
      rw [if_pos c5] at H
      have c5b0 := decide_eq_true c5
      clear c5
      replace H := Option.bind_eq_some_iff.mp H
      obtain ⟨⟨t161, t162⟩, A60, H⟩ := H
      replace H : ((alloc_end.f ((rd_T53 l1 x13_1).f0) ((rd_T53 l1 x13_1).f1) ((rd_T53 l1 x13_1).f2)).bind fun t167 => ((alloc_clip.f k1 t161 t167).bind fun bt168 => (if t162.length + bt168.1.length < 5864062014805 then (alloc_without.l0 k1 (t162 ++ bt168.1) l1 (l1.length : Int) (wrap64 (x13_1 + 1))) else (none)))) = some r := H
      have A6 := Aside0.mk A60
      clear A60
      replace H := Option.bind_eq_some_iff.mp H
      obtain ⟨t167, A70, H⟩ := H
      replace H : ((alloc_clip.f k1 t161 t167).bind fun bt168 => (if t162.length + bt168.1.length < 5864062014805 then (alloc_without.l0 k1 (t162 ++ bt168.1) l1 (l1.length : Int) (wrap64 (x13_1 + 1))) else (none))) = some r := H
      have A7 := Aside0.mk A70
      clear A70
      replace H := Option.bind_eq_some_iff.mp H
      obtain ⟨⟨t168, t169⟩, A80, H⟩ := H
      replace H : (if t162.length + t168.length < 5864062014805 then (alloc_without.l0 k1 (t162 ++ t168) l1 (l1.length : Int) (wrap64 (x13_1 + 1))) else (none)) = some r := H
      have A8 := Aside0.mk A80
      clear A80
      by_cases c9 : t162.length + t168.length < 5864062014805
      ·
       rw [if_pos c9] at H
       have LMc9 := Aside0.mk c9
       clear c9
       obtain ⟨y174, hy174⟩ : ∃ y_ : List (S53), y_ = (t162 ++ t168) := ⟨_, rfl⟩
       replace H : (alloc_without.l0 k1 y174 l1 (l1.length : Int) (wrap64 (x13_1 + 1))) = some r := by first | (rw [hy174]; exact H) | exact H
       have Ny174 := Aside0.mk hy174
       clear hy174
       have H' := Aside0.mk H
       clear H
       have p159 : 0 ≤ (x13_1 : Int) := dT
       have q159 : x13_1 < (l1.length : Int) := dT
       obtain ⟨ad159, e159, hx159_0, hx159_1, hx159_2⟩ := at_T53 HR1.1 x13_1 p159 q159
       cases e159
       replace hx159_0 := cB HB hx159_0
       replace hx159_1 := cB HB hx159_1
       replace hx159_2 := cB HB hx159_2
       replace p159 := eq_true p159
       replace q159 := eq_true q159
       go_wp2_with (first | ((with_reducible refine gD 6 ?_); refine bE #[.int .i64 0, .int .i64 0, .int .i64 0] 53 ?_; intro gb160 hg w10 hbox hb; replace HO_0 := vG HO_0 hg hb; have BK160 := Aa (hbox); have GW160 := gU HB hg; have GE160 := gU HB hg; have iE160 := Nonempty.intro GE160.1; replace HB := sU HB hb; clear hb hbox hg; have hcz11_0 : w10.cell? ⟨gb160, 0, none⟩ = some (.int .i64 0) := cC BK160 0; have hcz11_1 : w10.cell? ⟨gb160, 1, none⟩ = some (.int .i64 0) := cC BK160 1; have hcz11_2 : w10.cell? ⟨gb160, 2, none⟩ = some (.int .i64 0) := cC BK160 2; have hfz11_0 := fC BK160 0; have hfz11_1 := fC BK160 1; have hfz11_2 := fC BK160 2; obtain ⟨Ao12, co12, eo12⟩ := Kd.V_slice HO_0.1; subst eo12) | ((with_reducible refine gC 47 ?_); refine gL 21 Try.func47 #[.slice Ao12 x0_1.length co12, .int .i64 ((rd_T53 l1 x13_1).f2)] ?_; (with_reducible refine (alloc_clip.calls k1 _ _ x0_1 ((rd_T53 l1 x13_1).f2) t161 t162 _ ?side1 ?side2 A6.1).mono ?_); (case side1 => refine (Kd.V_reads' (e := 53) (base := w.heap.size) (ok := fun k_ => ((P0_ k_ ∨ w.heap.size ≤ k_) ∧ k_ ≠ gb160)) (n := x0_1.length) (c := co12) ?_).2.2; exact (vU (Kd.V_mono (Kd.V_far (p := ⟨gb160, 2, none⟩) (Kd.V_far (p := ⟨gb160, 1, none⟩) (Kd.V_far (p := ⟨gb160, 0, none⟩) (Kd.V_mono HO_0.1 (fun k_ hk => (⟨hk, hk.2⟩ : _ ∧ k_ ≠ gb160))) (fun _ hk => hk.2) (.int .i64 ((rd_T53 l1 x13_1).f0))) (fun _ hk => hk.2) (.int .i64 ((rd_T53 l1 x13_1).f1))) (fun _ hk => hk.2) (.int .i64 ((rd_T53 l1 x13_1).f2))) (fun _ h_ => h_.1)))); (case side2 => exact (Kd.V_reads' HO_0.1).2.1); rintro e w13 ⟨v163, v165, rfl, ho0, ho1, hb⟩; refine ⟨_, rfl, ?_⟩; replace HO_0 := Aa (Kd.V_mono (Kd.V_told (Kd.V_told (Kd.V_old (vU (Kd.V_mono (Kd.V_far (p := ⟨gb160, 2, none⟩) (Kd.V_far (p := ⟨gb160, 1, none⟩) (Kd.V_far (p := ⟨gb160, 0, none⟩) (Kd.V_mono HO_0.1 (fun k_ hk => (⟨hk, hk.2⟩ : _ ∧ k_ ≠ gb160))) (fun _ hk => hk.2) (.int .i64 ((rd_T53 l1 x13_1).f0))) (fun _ hk => hk.2) (.int .i64 ((rd_T53 l1 x13_1).f1))) (fun _ hk => hk.2) (.int .i64 ((rd_T53 l1 x13_1).f2))) (fun _ h_ => h_.1))) hb) (Kd.R_base ho0)) (Kd.R_base ho1)) (fun _ h_ => h_.1)); have HO164 := Aa (Kd.R_lower (Kd.R_newB (Kd.R_newM (M := fun k_ => (w.heap.size ≤ k_)) ho0 (below_size (bS HB.1)) (fun k_ h_ => h_)) (g := gb160) (o := .cells #[.int .i64 ((rd_T53 l1 x13_1).f0), .int .i64 ((rd_T53 l1 x13_1).f1), .int .i64 ((rd_T53 l1 x13_1).f2)] 53 (0, 0)) (by refine kP ?_; refine blk_put (cs := #[.int .i64 ((rd_T53 l1 x13_1).f0), .int .i64 ((rd_T53 l1 x13_1).f1), .int .i64 0]) ?_ 2 _ rfl; refine kP ?_; refine blk_put (cs := #[.int .i64 ((rd_T53 l1 x13_1).f0), .int .i64 0, .int .i64 0]) ?_ 1 _ rfl; refine kP ?_; refine blk_put (cs := #[.int .i64 0, .int .i64 0, .int .i64 0]) ?_ 0 _ rfl; refine kP ?_; exact BK160.1)) (below_size (bS HB.1))); have HO166 := Aa (Kd.R_lower (Kd.R_newB (Kd.R_newM (M := fun k_ => (w.heap.size ≤ k_)) ho1 (below_size (bS HB.1)) (fun k_ h_ => h_)) (g := gb160) (o := .cells #[.int .i64 ((rd_T53 l1 x13_1).f0), .int .i64 ((rd_T53 l1 x13_1).f1), .int .i64 ((rd_T53 l1 x13_1).f2)] 53 (0, 0)) (by refine kP ?_; refine blk_put (cs := #[.int .i64 ((rd_T53 l1 x13_1).f0), .int .i64 ((rd_T53 l1 x13_1).f1), .int .i64 0]) ?_ 2 _ rfl; refine kP ?_; refine blk_put (cs := #[.int .i64 ((rd_T53 l1 x13_1).f0), .int .i64 0, .int .i64 0]) ?_ 1 _ rfl; refine kP ?_; refine blk_put (cs := #[.int .i64 0, .int .i64 0, .int .i64 0]) ?_ 0 _ rfl; refine kP ?_; exact BK160.1)) (below_size (bS HB.1))); replace BK160 := Aa (blk_below (g := gb160) (o := .cells #[.int .i64 ((rd_T53 l1 x13_1).f0), .int .i64 ((rd_T53 l1 x13_1).f1), .int .i64 ((rd_T53 l1 x13_1).f2)] 53 (0, 0)) (by refine kP ?_; refine blk_put (cs := #[.int .i64 ((rd_T53 l1 x13_1).f0), .int .i64 ((rd_T53 l1 x13_1).f1), .int .i64 0]) ?_ 2 _ rfl; refine kP ?_; refine blk_put (cs := #[.int .i64 ((rd_T53 l1 x13_1).f0), .int .i64 0, .int .i64 0]) ?_ 1 _ rfl; refine kP ?_; refine blk_put (cs := #[.int .i64 0, .int .i64 0, .int .i64 0]) ?_ 0 _ rfl; refine kP ?_; exact BK160.1) hb); replace HB := sB HB hb; (try clear hb); (try clear hk); (try clear ho0); (try clear ho1); have hcz14_0 : w13.cell? ⟨gb160, 0, none⟩ = some (.int .i64 ((rd_T53 l1 x13_1).f0)) := cC BK160 0; have hcz14_1 : w13.cell? ⟨gb160, 1, none⟩ = some (.int .i64 ((rd_T53 l1 x13_1).f1)) := cC BK160 1; have hcz14_2 : w13.cell? ⟨gb160, 2, none⟩ = some (.int .i64 ((rd_T53 l1 x13_1).f2)) := cC BK160 2; have hfz14_0 := fC BK160 0; have hfz14_1 := fC BK160 1; have hfz14_2 := fC BK160 2) | ((with_reducible refine gC 36 ?_); refine gL 27 Try.func36 #[.agg #[.int .i64 ((rd_T53 l1 x13_1).f0), .int .i64 ((rd_T53 l1 x13_1).f1), .int .i64 ((rd_T53 l1 x13_1).f2)]] ?_; (with_reducible refine (alloc_end.calls ((rd_T53 l1 x13_1).f0) ((rd_T53 l1 x13_1).f1) ((rd_T53 l1 x13_1).f2) t167 _ A7.1).mono ?_); rintro e w15 ⟨rfl, hb⟩; refine ⟨_, rfl, ?_⟩; replace HO_0 := vB HO_0 hb; replace HO164 := rB HO164 hb; replace HO166 := rB HO166 hb; replace BK160 := kB BK160 hb; replace HB := sB HB hb; (try clear hb); (try clear hk); obtain ⟨Ao16, co16, eo16⟩ := Kd.R_slice HO164.1; subst eo16) | ((with_reducible refine gC 47 ?_); refine gL 28 Try.func47 #[.slice Ao16 t161.length co16, .int .i64 t167] ?_; (with_reducible refine (alloc_clip.calls k1 _ _ t161 t167 t168 t169 _ ?side1 ?side2 A8.1).mono ?_); (case side1 => repeat (first | exact (Kd.R_reads' HO164.1).2.2 | (with_reducible refine Kd.C_alloc ?_ _) | (with_reducible refine Kd.C_drewN ?_ _) | (with_reducible refine Kd.C_drew ?_))); (case side2 => exact (Kd.R_reads' HO164.1).2.1); rintro e w17 ⟨v170, v172, rfl, ho0, ho1, hb⟩; refine ⟨_, rfl, ?_⟩; replace HO_0 := Aa (Kd.V_mono (Kd.V_told (Kd.V_told (Kd.V_old (vU HO_0.1) hb) (Kd.R_base ho0)) (Kd.R_base ho1)) (fun _ h_ => h_.1)); have HO171 := Aa (Kd.R_lower (Kd.R_newB (Kd.R_new' (Kd.R_new' (Kd.R_newM (M := fun k_ => (w.heap.size ≤ k_)) ho0 (below_size (bS HB.1)) (fun k_ h_ => h_)) (Kd.R_lt (rU HO164.1))) (Kd.R_lt (rU HO166.1))) (g := gb160) (o := .cells #[.int .i64 ((rd_T53 l1 x13_1).f0), .int .i64 ((rd_T53 l1 x13_1).f1), .int .i64 ((rd_T53 l1 x13_1).f2)] 53 (0, 0)) (kU BK160.1)) (below_size (bS HB.1))); have HO173 := Aa (Kd.R_lower (Kd.R_newB (Kd.R_new' (Kd.R_new' (Kd.R_newM (M := fun k_ => (w.heap.size ≤ k_)) ho1 (below_size (bS HB.1)) (fun k_ h_ => h_)) (Kd.R_lt (rU HO164.1))) (Kd.R_lt (rU HO166.1))) (g := gb160) (o := .cells #[.int .i64 ((rd_T53 l1 x13_1).f0), .int .i64 ((rd_T53 l1 x13_1).f1), .int .i64 ((rd_T53 l1 x13_1).f2)] 53 (0, 0)) (kU BK160.1)) (below_size (bS HB.1))); replace HO164 := Aa (Kd.R_mono (Kd.R_told (Kd.R_told (Kd.R_old (rU HO164.1) hb) (Kd.R_base ho0)) (Kd.R_base ho1)) (fun _ h_ => h_.1)); replace HO166 := Aa (Kd.R_mono (Kd.R_told (Kd.R_told (Kd.R_old (rU HO166.1) hb) (Kd.R_base ho0)) (Kd.R_base ho1)) (fun _ h_ => h_.1)); replace BK160 := kB BK160 hb; replace HB := sB HB hb; (try clear hb); (try clear hk); (try clear ho0); (try clear ho1); obtain ⟨Ao19, co19, eo19⟩ := Kd.R_slice HO171.1; subst eo19) | ((with_reducible refine gate_builtin (b := .append) (xs := #[.tmp 31, .tmp 32]) rfl ?_); at_builtin; refine Kd.R_append_rows k53 (w0 := w) w.heap.size rfl (.tmp 31) (.tmp 32) 24 53 (.agg #[(.int .i64 0), (.int .i64 0), (.int .i64 0)]) 24 rfl Try.underlying24 info53 rfl (by decide) (by omega) v165 t162 t168 _ _ _ (fun k_ => (w.heap.size ≤ k_) ∧ nb k_ Ao16 t161.length co16 ∧ nb k_ Ao19 t168.length co19 ∧ some k_ ≠ (v172 : Value).ownBlock ∧ k_ ≠ gb160) (fun _ => False) rfl rfl ?aO ?aR (fun _ _ h => h) (fun _ h => h.elim) ?aF ?aB ?aS ?aL ?_; (case aR => repeat (first | exact (Kd.R_reads' HO171.1).2.2 | (with_reducible refine Kd.C_alloc ?_ _) | (with_reducible refine Kd.C_drewN ?_ _) | (with_reducible refine Kd.C_drew ?_))); (case aB => exact (bS HB.1)); (case aF => exact (fun k_ hk => ⟨(Nat.le_trans (below_size (bS HB.1)) hk), Kd.fresh' (Kd.R_lt (rU HO164.1)) k_ hk, Kd.fresh' (Kd.R_lt (rU HO171.1)) k_ hk, Kd.fresh' (Kd.R_lt (rU HO173.1)) k_ hk, Kd.freshB (g := gb160) (o := .cells #[.int .i64 ((rd_T53 l1 x13_1).f0), .int .i64 ((rd_T53 l1 x13_1).f1), .int .i64 ((rd_T53 l1 x13_1).f2)] 53 (0, 0)) (kU BK160.1) k_ hk⟩)); (case aO => exact (rU (Kd.R_mono HO166.1 (fun _ hk => ⟨hk.1.1.1.1, ⟨hk.1.1.1.2, ⟨hk.1.2, ⟨hk.2, hk.1.1.2⟩⟩⟩⟩)))); (case aS => exact (below_size (bS HB.1))); (case aL => have := LMc9.1; omega); intro v175 w18 ho hb hg hat; rw [← Ny174.1] at ho; have n0_ := Aa (Kd.V_afterv (ok := (fun k_ => (P0_ k_ ∨ w.heap.size ≤ k_) ∧ nb k_ Ao16 t161.length co16 ∧ nb k_ Ao19 t168.length co19 ∧ some k_ ≠ (v172 : Value).ownBlock ∧ k_ ≠ gb160)) (vU (Kd.V_mono HO_0.1 (fun _ hk => ⟨⟨hk.1.1.1.1.1, ⟨hk.1.1.1.2, ⟨hk.1.2, ⟨hk.2, hk.1.1.1.1.2⟩⟩⟩⟩, hk.1.1.2⟩))) hg hat); have n1_ := Aa (blk_grown (g := gb160) (o := .cells #[.int .i64 ((rd_T53 l1 x13_1).f0), .int .i64 ((rd_T53 l1 x13_1).f1), .int .i64 ((rd_T53 l1 x13_1).f2)] 53 (0, 0)) (kU BK160.1) hg (Kd.R_away HO166.1 (fun _ hk => hk.1.1.2))); have n2_ := Aa (Kd.R_after (ok := (fun k_ => (w.heap.size ≤ k_) ∧ nb k_ Ao19 t168.length co19 ∧ some k_ ≠ (v172 : Value).ownBlock ∧ k_ ≠ gb160)) (rU (Kd.R_mono HO164.1 (fun _ hk => ⟨⟨hk.1.1.1.1, ⟨hk.1.2, ⟨hk.2, hk.1.1.2⟩⟩⟩, hk.1.1.1.2⟩))) hg hat); have n3_ := Aa (Kd.R_after (ok := (fun k_ => (w.heap.size ≤ k_) ∧ nb k_ Ao16 t161.length co16 ∧ some k_ ≠ (v172 : Value).ownBlock ∧ k_ ≠ gb160)) (rU (Kd.R_mono HO171.1 (fun _ hk => ⟨⟨hk.1.1.1.1, ⟨hk.1.1.2, ⟨hk.1.1.1.2, hk.2⟩⟩⟩, hk.1.2⟩))) hg hat); have n4_ := Aa (Kd.R_after (ok := (fun k_ => (w.heap.size ≤ k_) ∧ nb k_ Ao16 t161.length co16 ∧ nb k_ Ao19 t168.length co19 ∧ k_ ≠ gb160)) (rU (Kd.R_mono HO173.1 (fun _ hk => ⟨⟨hk.1.1.1.1, ⟨hk.1.1.2, ⟨hk.1.1.1.2, hk.2⟩⟩⟩, hk.1.2⟩))) hg hat); have n5_ := Aa (hb); have n6_ := Aa (ho); clear HO_0; clear BK160; clear HO164; clear HO171; clear HO173; clear HB; clear HO166; have HO_0 := n0_; have BK160 := n1_; have HO164 := n2_; have HO171 := n3_; have HO173 := n4_; have HB := n5_; have HO176 := n6_; clear n0_ n1_ n2_ n3_ n4_ n5_ n6_; clear ho hb hg hat))
       go_roundg k1
       case measure => have := HK1.1; omega
       case rel => exact ⟨(y174), (wrap64 (x13_1 + 1)), (by first | rfl | (simp; done) | (simp [*]; done)), H', ⟨by have := HK1.1; omega⟩, ⟨Kd.V_mono (Kd.R_V (rU (Kd.R_mono HO176.1 (fun _ hk => hk.1)))) (fun k_ hk => by first | exact ⟨(.inr (hk.1)), hk.2⟩ | exact (.inr (hk)))⟩, ⟨bS HB.1⟩⟩
      ·
       rw [if_neg c9] at H
       exact absurd H (by simp)
     ·
      rw [if_neg c5] at H
      exact absurd H (by simp)
    ·
     rw [if_neg c4] at H
     exact absurd H (by simp)
   ·
    rw [if_neg c3] at H
    have c3b0 := decide_eq_false c3
    clear c3
    obtain rfl := Option.some.inj H
    go_wp2
    go_ret
    exact ⟨_, fT, vU HO_0.1, bU HB.1⟩

end Go.Proofs.Ytcjpikjbjehjeaa.PAllocB
