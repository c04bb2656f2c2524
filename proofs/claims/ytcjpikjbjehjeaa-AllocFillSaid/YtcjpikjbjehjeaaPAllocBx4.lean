-- Written for this claim by a program of this session (wip/), out of the translation's own print: Lean checks it
import Derived.Test.YtcjpikjbjehjeaaPAllocBx0
import Derived.Test.YtcjpikjbjehjeaaPAllocBx3
namespace Go.Proofs.Ytcjpikjbjehjeaa.PAllocB
open Go.RowKit Go.Proofs.YtcjpikjbjehjeaaW.PrintWords Go.Proofs.YtcjpikjbjehjeaaW.PrintLast Go.Proofs.YtcjpikjbjehjeaaW.PrintMore
attribute [local go_sem] max2_int min2_int max_two min_two max_three min_three max_four min_four   -- for this text's walks alone
set_option linter.unusedVariables false
set_option linter.unusedSimpArgs false

/-! ### extent_Runs: function 43 -/
def extent_Runs.l0 : Nat → List (S53) → List (S53) → Int → Int → Option ((List (S53)))
 | 0, _, _, _, _ => none
 | k + 1, x4, x13, x14, x15 => if x15 < x14 then (if 0 ≤ x15 then (if x15 < (x13.length : Int) then (if (wrap64 ((x4.length : Int) - 1)) ≥ 0 then (if 0 ≤ (wrap64 ((x4.length : Int) - 1)) then (if (wrap64 ((x4.length : Int) - 1)) < (x4.length : Int) then (if ((rd_T53 x13 x15).f2) ≤ (wrap64 (((rd_T53 x4 (wrap64 ((x4.length : Int) - 1))).f2) + ((rd_T53 x4 (wrap64 ((x4.length : Int) - 1))).f1))) then (extent_Runs.l0 k (x4.set ((wrap64 ((x4.length : Int) - 1)) : Int).toNat (⟨(rd_T53 x4 (wrap64 ((x4.length : Int) - 1))).f0, mx ((rd_T53 x4 (wrap64 ((x4.length : Int) - 1))).f1) (wrap64 ((wrap64 (((rd_T53 x13 x15).f2) + ((rd_T53 x13 x15).f1))) - ((rd_T53 x4 (wrap64 ((x4.length : Int) - 1))).f2))), (rd_T53 x4 (wrap64 ((x4.length : Int) - 1))).f2⟩ : S53)) x13 x14 (wrap64 (x15 + 1))) else (if x4.length < 5864062014805 then (extent_Runs.l0 k (x4 ++ [(⟨0, (rd_T53 x13 x15).f1, (rd_T53 x13 x15).f2⟩ : S53)]) x13 x14 (wrap64 (x15 + 1))) else (none))) else (none)) else (none)) else (if x4.length < 5864062014805 then (extent_Runs.l0 k (x4 ++ [(⟨0, (rd_T53 x13 x15).f1, (rd_T53 x13 x15).f2⟩ : S53)]) x13 x14 (wrap64 (x15 + 1))) else (none))) else (none)) else (none)) else (some x4)
def extent_Runs.f (k : Nat) (l0 : List (S53)) : Option ((List (S53))) := (api_Extent_55.f l0).bind fun t112 => (extent_Runs.l0 k ([] : List (S53)) t112 (t112.length : Int) 0)
theorem extent_Runs.mono_l : ∀ k, (∀ y0 y1 y2 y3, LeO (extent_Runs.l0 k y0 y1 y2 y3) (extent_Runs.l0 (k + 1) y0 y1 y2 y3))
 | 0 => fun _ _ _ _ r h => by simp [extent_Runs.l0] at h
 | k + 1 => by
  have ih0 := extent_Runs.mono_l k
  ·
   intro y0 y1 y2 y3
   unfold extent_Runs.l0
   repeat' first
   | (with_reducible exact ih0 _ _ _ _)
   | (with_reducible exact LeO.refl _)
   | (with_reducible exact LeO.none _)
   | (with_reducible refine LeO.ite ?_ ?_)
   | (with_reducible refine LeO.bind ?_ (fun _ => ?_))
   | exact ih0 _ _ _ _
   | exact LeO.none _
   | refine LeO.ite ?_ ?_
   | refine LeO.bind ?_ (fun _ => ?_)
theorem extent_Runs.mono : ∀ a0 k, LeO (extent_Runs.f k a0) (extent_Runs.f (k + 1) a0) := by
 intro a0 k
 have ih0 := extent_Runs.mono_l k
 unfold extent_Runs.f
 repeat' first
   | (with_reducible exact ih0 _ _ _ _)
   | (with_reducible exact LeO.refl _)
   | (with_reducible exact LeO.none _)
   | (with_reducible refine LeO.ite ?_ ?_)
   | (with_reducible refine LeO.bind ?_ (fun _ => ?_))
   | exact ih0 _ _ _ _
   | exact LeO.none _
   | refine LeO.ite ?_ ?_
   | refine LeO.bind ?_ (fun _ => ?_)
def extent_Runs.T8 : Bool × List (List Nat × List Nat) := (true, [([], []), ([0], [0]), ([1], [1]), ([2], [2]), ([3, 2], [2, 3]), ([2], [2]), ([2], [2]), ([5, 6, 2], [2, 5, 6]), ([7, 2], [2, 7]), ([8, 2], [2, 8]), ([2], [2]), ([2], [2]), ([10, 11, 2], [2, 10, 11]), ([12, 2], [2, 12]), ([13, 2], [2, 13]), ([9, 14, 2], [2, 9, 14]), ([4, 15, 2], [2, 4, 15]), ([2, 16], [2, 16])])
def extent_Runs.B8 : List Nat := [0, 1, 3, 7, 15, 7, 7, 103, 231, 487, 7, 7, 3079, 7175, 15367, 32743, 65535, 131071]
theorem extent_Runs.tab8 : rtab .any (opsOf Try.f43 8) = extent_Runs.T8 := by kernel_rfl
theorem extent_Runs.bits8 : waitsOk extent_Runs.T8.2 extent_Runs.B8 = true := by kernel_rfl
def extent_Runs.T9 : Bool × List (List Nat × List Nat) := (true, [([], []), ([], []), ([], []), ([], []), ([2, 3], [2, 3]), ([4], [4]), ([5], [5]), ([], []), ([7], [7]), ([], []), ([9], [9]), ([8, 10], [8, 10]), ([], []), ([], []), ([12, 13], [12, 13]), ([14], [14]), ([15], [15]), ([11, 16], [11, 16]), ([6, 17], [6, 17]), ([0, 1, 0, 1, 2, 3, 4, 5, 6, 7, 8, 9, 10, 11, 12, 13, 14, 15, 16, 17, 18], [0, 1]), ([19, 0, 1, 2, 3, 4, 5, 6, 7, 8, 9, 10, 11, 12, 13, 14, 15, 16, 17, 18], [19]), ([20, 18, 0, 1, 2, 3, 4, 5, 6, 7, 8, 9, 10, 11, 12, 13, 14, 15, 16, 17, 18], [18, 20])])
def extent_Runs.B9 : List Nat := [0, 0, 0, 0, 12, 28, 60, 0, 128, 0, 512, 1920, 0, 0, 12288, 28672, 61440, 130944, 262140, 524287, 1048575, 2097151]
theorem extent_Runs.tab9 : rtab .any (opsOf Try.f43 9) = extent_Runs.T9 := by kernel_rfl
theorem extent_Runs.bits9 : waitsOk extent_Runs.T9.2 extent_Runs.B9 = true := by kernel_rfl
set_option maxHeartbeats 8000000 in
set_option maxRecDepth 100000 in
theorem extent_Runs.calls (k : Nat) (A0 : Option Addr) (c0 : Nat) (l0 : List (S53)) (r : List (S53)) (w : World) (hr0 : Kd.C k53 w A0 l0.length l0) (hc0 : l0.length ≤ c0) (h : extent_Runs.f k l0 = some r) :
  Calls Try.prog 43 #[.slice A0 l0.length c0] w fun e w' => ∃ v0_ : Value, e = .returned (v0_) ∧ Kd.R k53 53 w' w.heap.size (fun _ => True) v0_ r ∧ Below w.heap.size w w' := by
 have hu53 := Try.underlying53
 have HR0 := Aside0.mk hr0
 have HC0 := Aside0.mk hc0
 clear hr0 hc0
 have HB := Aa (Below.refl w.heap.size w)
 have H : ((api_Extent_55.f l0).bind fun t112 => (extent_Runs.l0 k ([] : List (S53)) t112 (t112.length : Int) 0)) = some r := h
 clear h
 replace H := Option.bind_eq_some_iff.mp H
 obtain ⟨t112, A20, H⟩ := H
 replace H : (extent_Runs.l0 k ([] : List (S53)) t112 (t112.length : Int) 0) = some r := H
 have A2 := Aside0.mk A20
 clear A20
 have H' := Aside0.mk H
 clear H
 go_enter Try.func43, Try.ntmps43
 obtain ⟨hT1, hT2, hT3⟩ := api_Extent_55.told A2.1
 go_wp2_with (first | (go_at_call 32; refine (clone_calls _ _ l0 _ ?side1 hT1).mono ?_; (case side1 => repeat (first | exact HR0.1 | (with_reducible refine Kd.C_alloc ?_ _) | (with_reducible refine Kd.C_drewN ?_ _) | (with_reducible refine Kd.C_drew ?_))); rintro e w3a ⟨v113, rfl, ho0, hb⟩; have HOa := Aa (Kd.R_lower ho0 (below_size (bU HB.1))); have HBa := sU HB hb; clear HB ho0 hb) | (go_at_call 55; refine (delete_full _ _ _ _ _ (rU HOa.1) hT1).mono ?_; rintro e w3b ⟨v3b, rfl, ho0, hg⟩; have HBb := Aa (below_sorted (bU HBa.1) (rU HOa.1) hg (below_size (bU HBa.1))); have HOb := Aside0.mk ho0; clear HOa HBa hg ho0) | (go_at_call 58; refine (sort_calls _ _ _ _ _ (rU HOb.1) hT2).mono ?_; rintro e w3 ⟨rfl, ho0, hg⟩; rw [← hT3] at ho0; have HB := Aa (below_sorted (bU HBb.1) (rU HOb.1) hg (below_size (bU HBb.1))); have HO114 := Aside0.mk ho0; clear HOb HBb ho0 hg hT1 hT2 hT3; obtain ⟨Ao4, co4, eo4⟩ := Kd.R_slice HO114.1; subst eo4))
 go_loopg [4, 15] k (fun kq v4 v15 w' => ∃ (x4_1 : List (S53)) (x13_1 : List (S53)) (x15_1 : Int), v15 = .int .i64 x15_1 ∧ Aside0 (extent_Runs.l0 kq x4_1 x13_1 (t112.length : Int) x15_1 = some r) ∧ Aside0 (kq ≤ k) ∧ Aside0 (Kd.R k53 53 w' w.heap.size (fun k_ => some k_ ≠ ((.slice Ao4 t112.length co4) : Value).ownBlock) v4 x4_1) ∧ Aside0 (Kd.R k53 53 w' w.heap.size (fun k_ => some k_ ≠ (v4 : Value).ownBlock) (.slice Ao4 t112.length co4) x13_1) ∧ Aside0 (Below w.heap.size w w'))
 case atStart => exact ⟨(([] : List (S53))), (t112), (0), (by first | rfl | (simp; done) | (simp [*]; done)), H', ⟨Nat.le_refl _⟩, ⟨by first | exact Kd.R_nil _ _ _ _ _ | exact Kd.N_nil _ _ _ _ _ | exact Kd.V_nil _ _ _ _ _ | exact Kd.Q_nil _ _ _ _ _ | exact Kd.S_nil _ _ _ _ _⟩, ⟨rU (Kd.R_mono HO114.1 (fun _ hk => (by simp [Value.ownBlock])))⟩, ⟨bU HB.1⟩⟩
 case round =>
  clear H'
  try clear p2
  try clear c4
  obtain ⟨x4_1, x13_1, x15_1, rfl, HA, HK1, HO_4, HO_13, HB⟩ := hrel
  have hl13_1 := (Kd.R_reads' HO_13.1).1
  rw [hl13_1] at HO_13
  (try simp only [hl13_1])
  (try simp only [hl13_1] at HO_4)
  cases gk with
  | zero => exact absurd HA.1 (by simp [extent_Runs.l0])
  | succ k1 =>
   have H := HA.1
   clear HA
   simp only [extent_Runs.l0] at H
   by_cases c5 : x15_1 < (t112.length : Int)
   ·
    rw [if_pos c5] at H
    have c5b0 := decide_eq_true c5
    clear c5
    by_cases c6 : 0 ≤ x15_1
    ·
     rw [if_pos c6] at H
     have c6b0 := decide_eq_true c6
     clear c6
     by_cases c7 : x15_1 < (x13_1.length : Int)
     ·
      rw [if_pos c7] at H
      have c7b0 := decide_eq_true c7
      clear c7
      by_cases c8 : (wrap64 ((x4_1.length : Int) - 1)) ≥ 0
      ·
       rw [if_pos c8] at H
       have c8b0 := decide_eq_true c8
       clear c8
       obtain ⟨ji9, hji9⟩ : ∃ j_ : Int, (wrap64 ((x4_1.length : Int) - 1)) = j_ := ⟨_, rfl⟩
       replace H : (if 0 ≤ (ji9) then (if (ji9) < (x4_1.length : Int) then (if ((rd_T53 x13_1 x15_1).f2) ≤ (wrap64 (((rd_T53 x4_1 (ji9)).f2) + ((rd_T53 x4_1 (ji9)).f1))) then (extent_Runs.l0 k1 (x4_1.set ((ji9) : Int).toNat (⟨(rd_T53 x4_1 (ji9)).f0, mx ((rd_T53 x4_1 (ji9)).f1) (wrap64 ((wrap64 (((rd_T53 x13_1 x15_1).f2) + ((rd_T53 x13_1 x15_1).f1))) - ((rd_T53 x4_1 (ji9)).f2))), (rd_T53 x4_1 (ji9)).f2⟩ : S53)) x13_1 (t112.length : Int) (wrap64 (x15_1 + 1))) else (if x4_1.length < 5864062014805 then (extent_Runs.l0 k1 (x4_1 ++ [(⟨0, (rd_T53 x13_1 x15_1).f1, (rd_T53 x13_1 x15_1).f2⟩ : S53)]) x13_1 (t112.length : Int) (wrap64 (x15_1 + 1))) else (none))) else (none)) else (none)) = some r := by first | (rw [hji9] at H; exact H) | (simp only [hji9] at H ⊢; exact H)
       (try rw [hji9] at c8b0)
       have hji9w : (IntKind.i64.wrap ((x4_1.length : Int) - 1)) = ji9 := (i64_w _).trans hji9
       by_cases c10 : 0 ≤ (ji9)
       ·
        rw [if_pos c10] at H
        have c10b0 := decide_eq_true c10
        clear c10
        by_cases c11 : (ji9) < (x4_1.length : Int)
        ·
         rw [if_pos c11] at H
         have c11b0 := decide_eq_true c11
         clear c11
         by_cases c12 : ((rd_T53 x13_1 x15_1).f2) ≤ (wrap64 (((rd_T53 x4_1 (ji9)).f2) + ((rd_T53 x4_1 (ji9)).f1)))
         ·
          rw [if_pos c12] at H
          have c12b0 := decide_eq_true c12
          clear c12
          obtain ⟨ji13, hji13⟩ : ∃ j_ : Int, (mx ((rd_T53 x4_1 (ji9)).f1) (wrap64 ((wrap64 (((rd_T53 x13_1 x15_1).f2) + ((rd_T53 x13_1 x15_1).f1))) - ((rd_T53 x4_1 (ji9)).f2)))) = j_ := ⟨_, rfl⟩
          replace H : (extent_Runs.l0 k1 (x4_1.set ((ji9) : Int).toNat (⟨(rd_T53 x4_1 (ji9)).f0, ji13, (rd_T53 x4_1 (ji9)).f2⟩ : S53)) x13_1 (t112.length : Int) (wrap64 (x15_1 + 1))) = some r := by first | (rw [hji13] at H; exact H) | (simp only [hji13] at H ⊢; exact H)
          have hji13_ : (if ((rd_T53 x4_1 (ji9)).f1) < (wrap64 ((wrap64 (((rd_T53 x13_1 x15_1).f2) + ((rd_T53 x13_1 x15_1).f1))) - ((rd_T53 x4_1 (ji9)).f2))) then (wrap64 ((wrap64 (((rd_T53 x13_1 x15_1).f2) + ((rd_T53 x13_1 x15_1).f1))) - ((rd_T53 x4_1 (ji9)).f2))) else ((rd_T53 x4_1 (ji9)).f1)) = ji13 := hji13
          obtain ⟨y121, hy121⟩ : ∃ y_ : List (S53), y_ = (x4_1.set ((ji9) : Int).toNat (⟨(rd_T53 x4_1 (ji9)).f0, ji13, (rd_T53 x4_1 (ji9)).f2⟩ : S53)) := ⟨_, rfl⟩
          replace H : (extent_Runs.l0 k1 y121 x13_1 (t112.length : Int) (wrap64 (x15_1 + 1))) = some r := by first | (rw [hy121]; exact H) | exact H
          have Ny121 := Aside0.mk hy121
          clear hy121
          have H' := Aside0.mk H
          clear H
          have p115 : 0 ≤ (x15_1 : Int) := dT
          have q115 : x15_1 < (x13_1.length : Int) := dT
          obtain ⟨ad115, e115, hx115_0, hx115_1, hx115_2⟩ := at_T53 (Kd.R_reads' HO_13.1).2.2 x15_1 p115 q115
          cases e115
          replace p115 := eq_true p115
          replace q115 := eq_true q115
          try go_wp2_with (first | ((with_reducible refine gD 6 ?_); refine bE #[.int .i64 0, .int .i64 0, .int .i64 0] 53 ?_; intro gb116 hg w15 hbox hb; replace HO_4 := Aa (Kd.R_below (Kd.R_elderB (rU HO_4.1) gb116 (Nat.le_of_eq hg.symm)) hb); replace HO_13 := Aa (Kd.R_below (Kd.R_elderB (rU HO_13.1) gb116 (Nat.le_of_eq hg.symm)) hb); have BK116 := Aa (hbox); have GW116 := gU HB hg; have GE116 := gU HB hg; have iE116 := Nonempty.intro GE116.1; replace HB := sU HB hb; clear hb hbox hg; have hcz16_0 : w15.cell? ⟨gb116, 0, none⟩ = some (.int .i64 0) := cC BK116 0; have hcz16_1 : w15.cell? ⟨gb116, 1, none⟩ = some (.int .i64 0) := cC BK116 1; have hcz16_2 : w15.cell? ⟨gb116, 2, none⟩ = some (.int .i64 0) := cC BK116 2; have hfz16_0 := fC BK116 0; have hfz16_1 := fC BK116 1; have hfz16_2 := fC BK116 2; obtain ⟨Ao17, co17, eo17⟩ := Kd.R_slice HO_4.1; subst eo17))
          have n0_ : Aside0 (Kd.R k53 53 (((w15.setCell ⟨gb116, 0, none⟩ (.int .i64 ((rd_T53 x13_1 x15_1).f0))).setCell ⟨gb116, 1, none⟩ (.int .i64 ((rd_T53 x13_1 x15_1).f1))).setCell ⟨gb116, 2, none⟩ (.int .i64 ((rd_T53 x13_1 x15_1).f2))) w.heap.size (fun k_ => nb k_ (some ad115) x13_1.length co4 ∧ k_ ≠ gb116) (.slice Ao17 x4_1.length co17) x4_1) := ⟨rU (Kd.R_mono (Kd.R_far (p := ⟨gb116, 2, none⟩) (Kd.R_far (p := ⟨gb116, 1, none⟩) (Kd.R_far (p := ⟨gb116, 0, none⟩) (Kd.R_mono HO_4.1 (fun k_ hk => (⟨hk, hk.2⟩ : _ ∧ k_ ≠ gb116))) (fun _ hk => hk.2) (.int .i64 ((rd_T53 x13_1 x15_1).f0))) (fun _ hk => hk.2) (.int .i64 ((rd_T53 x13_1 x15_1).f1))) (fun _ hk => hk.2) (.int .i64 ((rd_T53 x13_1 x15_1).f2))) (fun _ hk => ⟨hk.1.1, hk.1.2⟩))⟩
          have n1_ : Aside0 (Kd.R k53 53 (((w15.setCell ⟨gb116, 0, none⟩ (.int .i64 ((rd_T53 x13_1 x15_1).f0))).setCell ⟨gb116, 1, none⟩ (.int .i64 ((rd_T53 x13_1 x15_1).f1))).setCell ⟨gb116, 2, none⟩ (.int .i64 ((rd_T53 x13_1 x15_1).f2))) w.heap.size (fun k_ => nb k_ Ao17 x4_1.length co17 ∧ k_ ≠ gb116) (.slice (some ad115) x13_1.length co4) x13_1) := ⟨rU (Kd.R_mono (Kd.R_far (p := ⟨gb116, 2, none⟩) (Kd.R_far (p := ⟨gb116, 1, none⟩) (Kd.R_far (p := ⟨gb116, 0, none⟩) (Kd.R_mono HO_13.1 (fun k_ hk => (⟨hk, hk.2⟩ : _ ∧ k_ ≠ gb116))) (fun _ hk => hk.2) (.int .i64 ((rd_T53 x13_1 x15_1).f0))) (fun _ hk => hk.2) (.int .i64 ((rd_T53 x13_1 x15_1).f1))) (fun _ hk => hk.2) (.int .i64 ((rd_T53 x13_1 x15_1).f2))) (fun _ hk => ⟨hk.1.1, hk.1.2⟩))⟩
          have n2_ : Aside0 ((((w15.setCell ⟨gb116, 0, none⟩ (.int .i64 ((rd_T53 x13_1 x15_1).f0))).setCell ⟨gb116, 1, none⟩ (.int .i64 ((rd_T53 x13_1 x15_1).f1))).setCell ⟨gb116, 2, none⟩ (.int .i64 ((rd_T53 x13_1 x15_1).f2))).heap[gb116]? = some (.cells #[.int .i64 ((rd_T53 x13_1 x15_1).f0), .int .i64 ((rd_T53 x13_1 x15_1).f1), .int .i64 ((rd_T53 x13_1 x15_1).f2)] 53 (0, 0))) := ⟨by refine kP ?_; refine blk_put (cs := #[.int .i64 ((rd_T53 x13_1 x15_1).f0), .int .i64 ((rd_T53 x13_1 x15_1).f1), .int .i64 0]) ?_ 2 _ rfl; refine kP ?_; refine blk_put (cs := #[.int .i64 ((rd_T53 x13_1 x15_1).f0), .int .i64 0, .int .i64 0]) ?_ 1 _ rfl; refine kP ?_; refine blk_put (cs := #[.int .i64 0, .int .i64 0, .int .i64 0]) ?_ 0 _ rfl; refine kP ?_; exact BK116.1⟩
          have n3_ : Aside0 (Below w.heap.size w (((w15.setCell ⟨gb116, 0, none⟩ (.int .i64 ((rd_T53 x13_1 x15_1).f0))).setCell ⟨gb116, 1, none⟩ (.int .i64 ((rd_T53 x13_1 x15_1).f1))).setCell ⟨gb116, 2, none⟩ (.int .i64 ((rd_T53 x13_1 x15_1).f2)))) := ⟨bS HB.1⟩
          (try clear HO_4)
          (try clear HO_13)
          (try clear BK116)
          (try clear HB)
          generalize (((w15.setCell ⟨gb116, 0, none⟩ (.int .i64 ((rd_T53 x13_1 x15_1).f0))).setCell ⟨gb116, 1, none⟩ (.int .i64 ((rd_T53 x13_1 x15_1).f1))).setCell ⟨gb116, 2, none⟩ (.int .i64 ((rd_T53 x13_1 x15_1).f2))) = w18 at n0_ n1_ n2_ n3_ ⊢
          have HO_4 := n0_
          have HO_13 := n1_
          have BK116 := n2_
          have HB := n3_
          clear n0_ n1_ n2_ n3_
          replace HO_4 := Aa (Kd.R_drew HO_4.1)
          replace HO_13 := Aa (Kd.R_drew HO_13.1)
          replace BK116 := Aa (blk_drew BK116.1)
          replace HB := Aa (below_drew1 HB.1)
          have p117 : 0 ≤ ((ji9) : Int) := dT
          have q117 : (ji9) < (x4_1.length : Int) := dT
          obtain ⟨ad117, e117, hx117_0, hx117_1, hx117_2⟩ := at_T53 (Kd.R_reads' HO_4.1).2.2 (ji9) p117 q117
          cases e117
          replace p117 := eq_true p117
          replace q117 := eq_true q117
          have p118 : 0 ≤ ((ji9) : Int) := dT
          have q118 : (ji9) < (x4_1.length : Int) := dT
          obtain ⟨ad118, e118, hx118_0, hx118_1, hx118_2⟩ := at_T53 (Kd.R_reads' HO_4.1).2.2 (ji9) p118 q118
          obtain rfl : ad117 = ad118 := (by injection e118)
          replace p118 := eq_true p118
          replace q118 := eq_true q118
          refine start_ (n := 18) (S := fun w' => w'.cell? ⟨gb116, 0, none⟩ = some (.int .i64 ((rd_T53 x13_1 x15_1).f0)) ∧ w'.cell? ⟨gb116, 1, none⟩ = some (.int .i64 ((rd_T53 x13_1 x15_1).f1)) ∧ w'.cell? ⟨gb116, 2, none⟩ = some (.int .i64 ((rd_T53 x13_1 x15_1).f2)) ∧ w'.cell? (ad117.add (((ji9)).toNat * 3)) = some (.int .i64 ((rd_T53 x4_1 (ji9)).f0)) ∧ w'.cell? ⟨(ad117.add (((ji9)).toNat * 3)).block, (ad117.add (((ji9)).toNat * 3)).off + 1, none⟩ = some (.int .i64 ((rd_T53 x4_1 (ji9)).f1)) ∧ w'.cell? ⟨(ad117.add (((ji9)).toNat * 3)).block, (ad117.add (((ji9)).toNat * 3)).off + 2, none⟩ = some (.int .i64 ((rd_T53 x4_1 (ji9)).f2)) ∧ w'.cell? (ad117.add (((ji9)).toNat * 3)) = some (.int .i64 ((rd_T53 x4_1 (ji9)).f0)) ∧ w'.cell? ⟨(ad117.add (((ji9)).toNat * 3)).block, (ad117.add (((ji9)).toNat * 3)).off + 1, none⟩ = some (.int .i64 ((rd_T53 x4_1 (ji9)).f1)) ∧ w'.cell? ⟨(ad117.add (((ji9)).toNat * 3)).block, (ad117.add (((ji9)).toNat * 3)).off + 2, none⟩ = some (.int .i64 ((rd_T53 x4_1 (ji9)).f2))) (ds := []) (bm 18 0) (by kernel_rfl) rfl (bm0 _) ⟨cC BK116 0, cC BK116 1, cC BK116 2, hx117_0, hx117_1, hx117_2, hx118_0, hx118_1, hx118_2⟩ (fun hHeld => ?_); refine with_tabW extent_Runs.tab8 extent_Runs.bits8 (fun HT_ HW_ => ?_)
          generalize w18.drew = w19 at HO_4 HO_13 BK116 HB hx117_0 hx117_1 hx117_2 hx118_0 hx118_1 hx118_2 hHeld ⊢
          refine pA 1 0 22 ?_
          refine pA 3 1 23 ?_
          refine pA 7 2 24 ?_
          refine pA 15 3 25 ?_
          refine pA 47 5 27 ?_
          refine pA 111 6 28 ?_
          refine pA 239 7 29 ?_
          refine pA 495 8 30 ?_
          refine pA 1519 10 32 ?_
          refine pA 3567 11 33 ?_
          refine pA 7663 12 34 ?_
          refine pA 15855 13 35 ?_
          refine tA 15871 4 26 hHeld ?_
          refine tA 16383 9 31 hHeld ?_
          refine tA 32767 14 36 hHeld ?_
          refine pA 65535 15 37 ?_
          refine pA 131071 16 38 ?_
          refine pA 262143 17 39 ?_
          refine done_ (done_of HT_.1 (by kernel_rfl)) ?_
          try go_wp2
          replace HO_4 := Aa (Kd.R_drew HO_4.1)
          replace HO_13 := Aa (Kd.R_drew HO_13.1)
          replace BK116 := Aa (blk_drew BK116.1)
          replace HB := Aa (below_drew1 HB.1)
          have p119 : 0 ≤ ((ji9) : Int) := dT
          have q119 : (ji9) < (x4_1.length : Int) := dT
          obtain ⟨ad119, e119, hx119_0, hx119_1, hx119_2⟩ := at_T53 (Kd.R_reads' HO_4.1).2.2 (ji9) p119 q119
          obtain rfl : ad117 = ad119 := (by injection e119)
          replace p119 := eq_true p119
          replace q119 := eq_true q119
          have p120 : 0 ≤ ((ji9) : Int) := dT
          have q120 : (ji9) < (x4_1.length : Int) := dT
          obtain ⟨ad120, e120, hx120_0, hx120_1, hx120_2⟩ := at_T53 (Kd.R_reads' HO_4.1).2.2 (ji9) p120 q120
          obtain rfl : ad117 = ad120 := (by injection e120)
          replace p120 := eq_true p120
          replace q120 := eq_true q120
          have p14 : 0 ≤ ((ji9) : Int) := dT
          have q14 : ((ji9) : Int) < ((x4_1.length : Int) : Int) := dT
          obtain ⟨go14, co14, eo14, gb14, gl14, cl14, HG14⟩ := Kd.R_form HO_4.1 (by omega)
          (first | cases eo14 | (injection eo14 with ea_ en_ ec_; (first | subst ea_ | (injection ea_ with ea_; subst ea_)); subst ec_; clear en_))
          have GB14 := Aside0.mk gb14
          have GG14 := Aside0.mk HG14
          clear gb14 gl14 HG14
          (first | simp only [add_plain] at hx117_0 | skip)
          (first | simp only [add_plain] at hx117_1 | skip)
          (first | simp only [add_plain] at hx117_2 | skip)
          (first | simp only [add_plain] at hx118_0 | skip)
          (first | simp only [add_plain] at hx118_1 | skip)
          (first | simp only [add_plain] at hx118_2 | skip)
          (first | simp only [add_plain] at hx119_0 | skip)
          (first | simp only [add_plain] at hx119_1 | skip)
          (first | simp only [add_plain] at hx119_2 | skip)
          (first | simp only [add_plain] at hx120_0 | skip)
          (first | simp only [add_plain] at hx120_1 | skip)
          (first | simp only [add_plain] at hx120_2 | skip)
          obtain ⟨ce14, hcl14, hM14, hcc14, hfr14⟩ := Kd.R_elem HO_4.1 z53 ((ji9) : Int) p14 q14
          obtain rfl := k53_openM hM14
          have hx14_0 : World.cell? _ ⟨go14, ((ji9) : Int).toNat * 3, none⟩ = some (.int .i64 ((rd_T53 x4_1 (ji9)).f0)) := hcc14 0 _ rfl
          have hx14_1 : World.cell? _ ⟨go14, ((ji9) : Int).toNat * 3 + 1, none⟩ = some (.int .i64 ((rd_T53 x4_1 (ji9)).f1)) := hcc14 1 _ rfl
          have hx14_2 : World.cell? _ ⟨go14, ((ji9) : Int).toNat * 3 + 2, none⟩ = some (.int .i64 ((rd_T53 x4_1 (ji9)).f2)) := hcc14 2 _ rfl
          have hf14_0 : World.frozen? _ ⟨go14, ((ji9) : Int).toNat * 3, none⟩ = false := hfr14 0
          have hf14_1 : World.frozen? _ ⟨go14, ((ji9) : Int).toNat * 3 + 1, none⟩ = false := hfr14 1
          have hf14_2 : World.frozen? _ ⟨go14, ((ji9) : Int).toNat * 3 + 2, none⟩ = false := hfr14 2
          clear hcl14 hcc14 hfr14 hM14
          replace p14 := eq_true p14
          replace q14 := eq_true q14
          obtain ⟨ce21, hcl21, hM21, hcc21, hfr21⟩ := Kd.R_elem HO_4.1 z53 ((ji9) : Int) (dT) (by have h_ : ((ji9) : Int) < ((x4_1.length : Int) : Int) := dT; first | exact h_ | (have e_ := (Kd.R_reads' HO_4.1).1; omega) | simpa using h_)
          obtain rfl := k53_openM hM21
          have HP21 := (Kd.R_seg HO_4.1 ((ji9) : Int) (dT) (by have h_ : ((ji9) : Int) < ((x4_1.length : Int) : Int) := dT; first | exact h_ | (have e_ := (Kd.R_reads' HO_4.1).1; omega) | simpa using h_) (seg := [.int .i64 ji13]) (j := 1) hcl21 hcc21 (show 2 ≤ 3 from by decide) (x' := (⟨(rd_T53 x4_1 (ji9)).f0, ji13, (rd_T53 x4_1 (ji9)).f2⟩ : S53)) (k53_mkM _ _ _ (⟨(rd_T53 x4_1 (ji9)).f0, ji13, (rd_T53 x4_1 (ji9)).f2⟩ : S53) ) (fun _ hk => hk)).1
          rw [← Ny121.1] at HP21
          have HQ21 := Aside0.mk HP21
          clear hcl21 hcc21 hfr21 hM21 HP21
          refine start_ (n := 22) (S := fun w' => w'.cell? ⟨gb116, 0, none⟩ = some (.int .i64 ((rd_T53 x13_1 x15_1).f0)) ∧ w'.cell? ⟨gb116, 1, none⟩ = some (.int .i64 ((rd_T53 x13_1 x15_1).f1)) ∧ w'.cell? ⟨gb116, 2, none⟩ = some (.int .i64 ((rd_T53 x13_1 x15_1).f2)) ∧ w'.cell? ⟨go14, ((ji9)).toNat * 3, none⟩ = some (.int .i64 ((rd_T53 x4_1 (ji9)).f0)) ∧ w'.cell? ⟨go14, ((ji9)).toNat * 3 + 1, none⟩ = some (.int .i64 ((rd_T53 x4_1 (ji9)).f1)) ∧ w'.cell? ⟨go14, ((ji9)).toNat * 3 + 2, none⟩ = some (.int .i64 ((rd_T53 x4_1 (ji9)).f2)) ∧ w'.cell? ⟨go14, ((ji9)).toNat * 3, none⟩ = some (.int .i64 ((rd_T53 x4_1 (ji9)).f0)) ∧ w'.cell? ⟨go14, ((ji9)).toNat * 3 + 1, none⟩ = some (.int .i64 ((rd_T53 x4_1 (ji9)).f1)) ∧ w'.cell? ⟨go14, ((ji9)).toNat * 3 + 2, none⟩ = some (.int .i64 ((rd_T53 x4_1 (ji9)).f2))) (ds := [21]) (bm 22 0) (by kernel_rfl) rfl (bm0 _) ⟨cC BK116 0, cC BK116 1, cC BK116 2, hx119_0, hx119_1, hx119_2, hx120_0, hx120_1, hx120_2⟩ (fun hHeld => ?_); refine with_tabW extent_Runs.tab9 extent_Runs.bits9 (fun HT_ HW_ => ?_)
          generalize w19.drew = w20 at HO_4 HO_13 BK116 HB GG14 HQ21 hf14_0 hf14_1 hf14_2 hx117_0 hx117_1 hx117_2 hx118_0 hx118_1 hx118_2 hx119_0 hx119_1 hx119_2 hx120_0 hx120_1 hx120_2 hx14_0 hx14_1 hx14_2 hHeld ⊢
          refine pA 1 0 40 ?_
          refine pA 3 1 41 ?_
          refine pA 7 2 42 ?_
          refine pA 15 3 43 ?_
          refine pA 31 4 44 ?_
          refine pA 63 5 45 ?_
          refine pA 191 7 47 ?_
          refine pA 703 9 49 ?_
          refine pA 4799 12 52 ?_
          refine pA 12991 13 53 ?_
          refine pA 29375 14 54 ?_
          refine pA 62143 15 55 ?_
          refine tA 62207 6 46 hHeld ?_
          refine tA 62463 8 48 hHeld ?_
          refine tA 63487 10 50 hHeld ?_
          refine pA 65535 11 51 ?_
          refine tA 131071 16 56 hHeld ?_
          refine pA 262143 17 57 ?_
          refine pA 524287 18 58 ?_
          refine pA 1048575 19 59 ?_
          refine pA 2097151 20 60 ?_
          refine last_ (i := 21) (N := none) (bm 22 4194303) rfl rfl (one_of HT_.1 (by kernel_rfl)) (by decide) (fun K hK => ?_)
          refine skip_ (w1 := ?_) (by rfl) rfl ?_ ?_
          rotate_left
          ·
           go_simp; rfl
          refine hK.out _ _ ?_
          clear hK K
          refine done_ (done_of HT_.1 (by kernel_rfl)) ?_
          try go_wp2
          (try simp only [← hl13_1])
          go_roundg k1
          case measure => have := HK1.1; omega
          case rel => exact ⟨(y121), (x13_1), (wrap64 (x15_1 + 1)), (by first | rfl | (simp; done) | (simp [*]; done)), H', ⟨by have := HK1.1; omega⟩, ⟨by (try simp only [hl13_1]); (with_reducible repeat (first | apply Kd.R_alloc | apply Kd.R_drewN | apply Kd.R_drew)); exact Kd.R_mono HQ21.1 (fun _ hk => hk.1)⟩, ⟨by (try simp only [hl13_1]); (with_reducible repeat (first | apply Kd.R_alloc | apply Kd.R_drewN | apply Kd.R_drew)); exact Kd.R_mono (Kd.R_far (p := ⟨go14, ((ji9) : Int).toNat * 3 + 1, none⟩) (Kd.R_mono HO_13.1 (fun k_ hk => (⟨hk, fun e_ => hk.1 (by rw [e_]; rfl)⟩ : _ ∧ k_ ≠ go14))) (fun _ hk => hk.2) (.int .i64 ji13)) (fun _ hk => hk.1.1)⟩, ⟨by repeat (first | (with_reducible first | exact HB.1 | apply below_alloc | apply pw_below_drewN | apply below_drew1 | refine below_set ?_ GB14.1 | refine below_set ?_ GE116.1) | exact HB.1)⟩⟩
         ·
          rw [if_neg c12] at H
          have c12b0 := decide_eq_false c12
          clear c12
          by_cases c22 : x4_1.length < 5864062014805
          ·
           rw [if_pos c22] at H
           have LMc22 := Aside0.mk c22
           clear c22
           obtain ⟨y122, hy122⟩ : ∃ y_ : List (S53), y_ = (x4_1 ++ [(⟨0, (rd_T53 x13_1 x15_1).f1, (rd_T53 x13_1 x15_1).f2⟩ : S53)]) := ⟨_, rfl⟩
           replace H : (extent_Runs.l0 k1 y122 x13_1 (t112.length : Int) (wrap64 (x15_1 + 1))) = some r := by first | (rw [hy122]; exact H) | exact H
           have Ny122 := Aside0.mk hy122
           clear hy122
           have H' := Aside0.mk H
           clear H
           have p115 : 0 ≤ (x15_1 : Int) := dT
           have q115 : x15_1 < (x13_1.length : Int) := dT
           obtain ⟨ad115, e115, hx115_0, hx115_1, hx115_2⟩ := at_T53 (Kd.R_reads' HO_13.1).2.2 x15_1 p115 q115
           cases e115
           replace p115 := eq_true p115
           replace q115 := eq_true q115
           try go_wp2_with (first | ((with_reducible refine gD 6 ?_); refine bE #[.int .i64 0, .int .i64 0, .int .i64 0] 53 ?_; intro gb116 hg w23 hbox hb; replace HO_4 := Aa (Kd.R_below (Kd.R_elderB (rU HO_4.1) gb116 (Nat.le_of_eq hg.symm)) hb); replace HO_13 := Aa (Kd.R_below (Kd.R_elderB (rU HO_13.1) gb116 (Nat.le_of_eq hg.symm)) hb); have BK116 := Aa (hbox); have GW116 := gU HB hg; have GE116 := gU HB hg; have iE116 := Nonempty.intro GE116.1; replace HB := sU HB hb; clear hb hbox hg; have hcz24_0 : w23.cell? ⟨gb116, 0, none⟩ = some (.int .i64 0) := cC BK116 0; have hcz24_1 : w23.cell? ⟨gb116, 1, none⟩ = some (.int .i64 0) := cC BK116 1; have hcz24_2 : w23.cell? ⟨gb116, 2, none⟩ = some (.int .i64 0) := cC BK116 2; have hfz24_0 := fC BK116 0; have hfz24_1 := fC BK116 1; have hfz24_2 := fC BK116 2; obtain ⟨Ao25, co25, eo25⟩ := Kd.R_slice HO_4.1; subst eo25))
           have n0_ : Aside0 (Kd.R k53 53 (((w23.setCell ⟨gb116, 0, none⟩ (.int .i64 ((rd_T53 x13_1 x15_1).f0))).setCell ⟨gb116, 1, none⟩ (.int .i64 ((rd_T53 x13_1 x15_1).f1))).setCell ⟨gb116, 2, none⟩ (.int .i64 ((rd_T53 x13_1 x15_1).f2))) w.heap.size (fun k_ => nb k_ (some ad115) x13_1.length co4 ∧ k_ ≠ gb116) (.slice Ao25 x4_1.length co25) x4_1) := ⟨rU (Kd.R_mono (Kd.R_far (p := ⟨gb116, 2, none⟩) (Kd.R_far (p := ⟨gb116, 1, none⟩) (Kd.R_far (p := ⟨gb116, 0, none⟩) (Kd.R_mono HO_4.1 (fun k_ hk => (⟨hk, hk.2⟩ : _ ∧ k_ ≠ gb116))) (fun _ hk => hk.2) (.int .i64 ((rd_T53 x13_1 x15_1).f0))) (fun _ hk => hk.2) (.int .i64 ((rd_T53 x13_1 x15_1).f1))) (fun _ hk => hk.2) (.int .i64 ((rd_T53 x13_1 x15_1).f2))) (fun _ hk => ⟨hk.1.1, hk.1.2⟩))⟩
           have n1_ : Aside0 (Kd.R k53 53 (((w23.setCell ⟨gb116, 0, none⟩ (.int .i64 ((rd_T53 x13_1 x15_1).f0))).setCell ⟨gb116, 1, none⟩ (.int .i64 ((rd_T53 x13_1 x15_1).f1))).setCell ⟨gb116, 2, none⟩ (.int .i64 ((rd_T53 x13_1 x15_1).f2))) w.heap.size (fun k_ => nb k_ Ao25 x4_1.length co25 ∧ k_ ≠ gb116) (.slice (some ad115) x13_1.length co4) x13_1) := ⟨rU (Kd.R_mono (Kd.R_far (p := ⟨gb116, 2, none⟩) (Kd.R_far (p := ⟨gb116, 1, none⟩) (Kd.R_far (p := ⟨gb116, 0, none⟩) (Kd.R_mono HO_13.1 (fun k_ hk => (⟨hk, hk.2⟩ : _ ∧ k_ ≠ gb116))) (fun _ hk => hk.2) (.int .i64 ((rd_T53 x13_1 x15_1).f0))) (fun _ hk => hk.2) (.int .i64 ((rd_T53 x13_1 x15_1).f1))) (fun _ hk => hk.2) (.int .i64 ((rd_T53 x13_1 x15_1).f2))) (fun _ hk => ⟨hk.1.1, hk.1.2⟩))⟩
           have n2_ : Aside0 ((((w23.setCell ⟨gb116, 0, none⟩ (.int .i64 ((rd_T53 x13_1 x15_1).f0))).setCell ⟨gb116, 1, none⟩ (.int .i64 ((rd_T53 x13_1 x15_1).f1))).setCell ⟨gb116, 2, none⟩ (.int .i64 ((rd_T53 x13_1 x15_1).f2))).heap[gb116]? = some (.cells #[.int .i64 ((rd_T53 x13_1 x15_1).f0), .int .i64 ((rd_T53 x13_1 x15_1).f1), .int .i64 ((rd_T53 x13_1 x15_1).f2)] 53 (0, 0))) := ⟨by refine kP ?_; refine blk_put (cs := #[.int .i64 ((rd_T53 x13_1 x15_1).f0), .int .i64 ((rd_T53 x13_1 x15_1).f1), .int .i64 0]) ?_ 2 _ rfl; refine kP ?_; refine blk_put (cs := #[.int .i64 ((rd_T53 x13_1 x15_1).f0), .int .i64 0, .int .i64 0]) ?_ 1 _ rfl; refine kP ?_; refine blk_put (cs := #[.int .i64 0, .int .i64 0, .int .i64 0]) ?_ 0 _ rfl; refine kP ?_; exact BK116.1⟩
           have n3_ : Aside0 (Below w.heap.size w (((w23.setCell ⟨gb116, 0, none⟩ (.int .i64 ((rd_T53 x13_1 x15_1).f0))).setCell ⟨gb116, 1, none⟩ (.int .i64 ((rd_T53 x13_1 x15_1).f1))).setCell ⟨gb116, 2, none⟩ (.int .i64 ((rd_T53 x13_1 x15_1).f2)))) := ⟨bS HB.1⟩
           (try clear HO_4)
           (try clear HO_13)
           (try clear BK116)
           (try clear HB)
           generalize (((w23.setCell ⟨gb116, 0, none⟩ (.int .i64 ((rd_T53 x13_1 x15_1).f0))).setCell ⟨gb116, 1, none⟩ (.int .i64 ((rd_T53 x13_1 x15_1).f1))).setCell ⟨gb116, 2, none⟩ (.int .i64 ((rd_T53 x13_1 x15_1).f2))) = w26 at n0_ n1_ n2_ n3_ ⊢
           have HO_4 := n0_
           have HO_13 := n1_
           have BK116 := n2_
           have HB := n3_
           clear n0_ n1_ n2_ n3_
           replace HO_4 := Aa (Kd.R_drew HO_4.1)
           replace HO_13 := Aa (Kd.R_drew HO_13.1)
           replace BK116 := Aa (blk_drew BK116.1)
           replace HB := Aa (below_drew1 HB.1)
           have p117 : 0 ≤ ((ji9) : Int) := dT
           have q117 : (ji9) < (x4_1.length : Int) := dT
           obtain ⟨ad117, e117, hx117_0, hx117_1, hx117_2⟩ := at_T53 (Kd.R_reads' HO_4.1).2.2 (ji9) p117 q117
           cases e117
           replace p117 := eq_true p117
           replace q117 := eq_true q117
           have p118 : 0 ≤ ((ji9) : Int) := dT
           have q118 : (ji9) < (x4_1.length : Int) := dT
           obtain ⟨ad118, e118, hx118_0, hx118_1, hx118_2⟩ := at_T53 (Kd.R_reads' HO_4.1).2.2 (ji9) p118 q118
           obtain rfl : ad117 = ad118 := (by injection e118)
           replace p118 := eq_true p118
           replace q118 := eq_true q118
           refine start_ (n := 18) (S := fun w' => w'.cell? ⟨gb116, 0, none⟩ = some (.int .i64 ((rd_T53 x13_1 x15_1).f0)) ∧ w'.cell? ⟨gb116, 1, none⟩ = some (.int .i64 ((rd_T53 x13_1 x15_1).f1)) ∧ w'.cell? ⟨gb116, 2, none⟩ = some (.int .i64 ((rd_T53 x13_1 x15_1).f2)) ∧ w'.cell? (ad117.add (((ji9)).toNat * 3)) = some (.int .i64 ((rd_T53 x4_1 (ji9)).f0)) ∧ w'.cell? ⟨(ad117.add (((ji9)).toNat * 3)).block, (ad117.add (((ji9)).toNat * 3)).off + 1, none⟩ = some (.int .i64 ((rd_T53 x4_1 (ji9)).f1)) ∧ w'.cell? ⟨(ad117.add (((ji9)).toNat * 3)).block, (ad117.add (((ji9)).toNat * 3)).off + 2, none⟩ = some (.int .i64 ((rd_T53 x4_1 (ji9)).f2)) ∧ w'.cell? (ad117.add (((ji9)).toNat * 3)) = some (.int .i64 ((rd_T53 x4_1 (ji9)).f0)) ∧ w'.cell? ⟨(ad117.add (((ji9)).toNat * 3)).block, (ad117.add (((ji9)).toNat * 3)).off + 1, none⟩ = some (.int .i64 ((rd_T53 x4_1 (ji9)).f1)) ∧ w'.cell? ⟨(ad117.add (((ji9)).toNat * 3)).block, (ad117.add (((ji9)).toNat * 3)).off + 2, none⟩ = some (.int .i64 ((rd_T53 x4_1 (ji9)).f2))) (ds := []) (bm 18 0) (by kernel_rfl) rfl (bm0 _) ⟨cC BK116 0, cC BK116 1, cC BK116 2, hx117_0, hx117_1, hx117_2, hx118_0, hx118_1, hx118_2⟩ (fun hHeld => ?_); refine with_tabW extent_Runs.tab8 extent_Runs.bits8 (fun HT_ HW_ => ?_)
           generalize w26.drew = w27 at HO_4 HO_13 BK116 HB hx117_0 hx117_1 hx117_2 hx118_0 hx118_1 hx118_2 hHeld ⊢
           refine pA 1 0 22 ?_
           refine pA 3 1 23 ?_
           refine pA 7 2 24 ?_
           refine pA 15 3 25 ?_
           refine pA 47 5 27 ?_
           refine pA 111 6 28 ?_
           refine pA 239 7 29 ?_
           refine pA 495 8 30 ?_
           refine pA 1519 10 32 ?_
           refine pA 3567 11 33 ?_
           refine pA 7663 12 34 ?_
           refine pA 15855 13 35 ?_
           refine tA 15871 4 26 hHeld ?_
           refine tA 16383 9 31 hHeld ?_
           refine tA 32767 14 36 hHeld ?_
           refine pA 65535 15 37 ?_
           refine pA 131071 16 38 ?_
           refine pA 262143 17 39 ?_
           refine done_ (done_of HT_.1 (by kernel_rfl)) ?_
           have hcz28_0 : w27.cell? ⟨gb116, 0, none⟩ = some (.int .i64 ((rd_T53 x13_1 x15_1).f0)) := cC BK116 0
           have hcz28_1 : w27.cell? ⟨gb116, 1, none⟩ = some (.int .i64 ((rd_T53 x13_1 x15_1).f1)) := cC BK116 1
           have hcz28_2 : w27.cell? ⟨gb116, 2, none⟩ = some (.int .i64 ((rd_T53 x13_1 x15_1).f2)) := cC BK116 2
           have hfz28_0 := fC BK116 0
           have hfz28_1 := fC BK116 1
           have hfz28_2 := fC BK116 2
           try go_wp2_with (first | ((with_reducible refine gate_builtin (b := .append) (xs := #[.tmp 61, .tmp 67]) rfl ?_); at_builtin; refine Kd.R_append k53 (w0 := w) w.heap.size rfl (.tmp 61) (.tmp 67) 24 53 (.agg #[(.int .i64 0), (.int .i64 0), (.int .i64 0)]) 24 rfl Try.underlying24 info53 rfl (by decide) (by omega) (.slice (some ad117) x4_1.length co25) x4_1 (⟨0, (rd_T53 x13_1 x15_1).f1, (rd_T53 x13_1 x15_1).f2⟩ : S53) [.int .i64 0, .int .i64 ((rd_T53 x13_1 x15_1).f1), .int .i64 ((rd_T53 x13_1 x15_1).f2)] (fun k_ => nb k_ (some ad115) x13_1.length co4 ∧ k_ ≠ gb116) (fun _ => False) rfl rfl ?aP (fun _ hk => hk.elim) ?aF ?aO ?aB ?aS ?aL ?_; (case aP => exact k53_mkM _ _ _ (⟨0, (rd_T53 x13_1 x15_1).f1, (rd_T53 x13_1 x15_1).f2⟩ : S53)); (case aB => exact (bS HB.1)); (case aF => exact (fun k_ hk => ⟨Kd.fresh' (Kd.R_lt (rU HO_13.1)) k_ hk, Kd.freshB (g := gb116) (o := .cells #[.int .i64 ((rd_T53 x13_1 x15_1).f0), .int .i64 ((rd_T53 x13_1 x15_1).f1), .int .i64 ((rd_T53 x13_1 x15_1).f2)] 53 (0, 0)) (kU BK116.1) k_ hk⟩)); (case aO => exact (rU HO_4.1)); (case aS => exact (below_size (bS HB.1))); (case aL => have := LMc22.1; omega); intro v123 w29 ho hb hg hat; rw [← Ny122.1] at ho; have n0_ := Aa (Kd.R_after (ok := (fun k_ => k_ ≠ gb116)) (rU (Kd.R_mono HO_13.1 (fun _ hk => ⟨hk.2, hk.1⟩))) hg hat); have n1_ := Aa (blk_grown (g := gb116) (o := .cells #[.int .i64 ((rd_T53 x13_1 x15_1).f0), .int .i64 ((rd_T53 x13_1 x15_1).f1), .int .i64 ((rd_T53 x13_1 x15_1).f2)] 53 (0, 0)) (kU BK116.1) hg (Kd.R_away HO_4.1 (fun _ hk => hk.2))); have n2_ := Aa (hb); have n3_ := Aa (ho); clear HO_13; clear BK116; clear HB; clear HO_4; have HO_13 := n0_; have BK116 := n1_; have HB := n2_; have HO124 := n3_; clear n0_ n1_ n2_ n3_; clear ho hb hg hat))
           (try simp only [← hl13_1])
           go_roundg k1
           case measure => have := HK1.1; omega
           case rel => exact ⟨(y122), (x13_1), (wrap64 (x15_1 + 1)), (by first | rfl | (simp; done) | (simp [*]; done)), H', ⟨by have := HK1.1; omega⟩, ⟨by (try simp only [hl13_1]); (with_reducible repeat (first | apply Kd.R_alloc | apply Kd.R_drewN | apply Kd.R_drew)); exact Kd.R_mono HO124.1 (fun _ hk => hk.1)⟩, ⟨by (try simp only [hl13_1]); (with_reducible repeat (first | apply Kd.R_alloc | apply Kd.R_drewN | apply Kd.R_drew)); exact Kd.R_mono HO_13.1 (fun _ hk => hk.2)⟩, ⟨bS HB.1⟩⟩
          ·
           rw [if_neg c22] at H
           exact absurd H (by simp)
        ·
         rw [if_neg c11] at H
         exact absurd H (by simp)
       ·
        rw [if_neg c10] at H
        exact absurd H (by simp)
      ·
       rw [if_neg c8] at H
       have c8b0 := decide_eq_false c8
       clear c8
       by_cases c30 : x4_1.length < 5864062014805
       ·
        rw [if_pos c30] at H
        have LMc30 := Aside0.mk c30
        clear c30
        obtain ⟨y125, hy125⟩ : ∃ y_ : List (S53), y_ = (x4_1 ++ [(⟨0, (rd_T53 x13_1 x15_1).f1, (rd_T53 x13_1 x15_1).f2⟩ : S53)]) := ⟨_, rfl⟩
        replace H : (extent_Runs.l0 k1 y125 x13_1 (t112.length : Int) (wrap64 (x15_1 + 1))) = some r := by first | (rw [hy125]; exact H) | exact H
        have Ny125 := Aside0.mk hy125
        clear hy125
        have H' := Aside0.mk H
        clear H
        have p115 : 0 ≤ (x15_1 : Int) := dT
        have q115 : x15_1 < (x13_1.length : Int) := dT
        obtain ⟨ad115, e115, hx115_0, hx115_1, hx115_2⟩ := at_T53 (Kd.R_reads' HO_13.1).2.2 x15_1 p115 q115
        cases e115
        replace p115 := eq_true p115
        replace q115 := eq_true q115
        try go_wp2_with (first | ((with_reducible refine gD 6 ?_); refine bE #[.int .i64 0, .int .i64 0, .int .i64 0] 53 ?_; intro gb116 hg w31 hbox hb; replace HO_4 := Aa (Kd.R_below (Kd.R_elderB (rU HO_4.1) gb116 (Nat.le_of_eq hg.symm)) hb); replace HO_13 := Aa (Kd.R_below (Kd.R_elderB (rU HO_13.1) gb116 (Nat.le_of_eq hg.symm)) hb); have BK116 := Aa (hbox); have GW116 := gU HB hg; have GE116 := gU HB hg; have iE116 := Nonempty.intro GE116.1; replace HB := sU HB hb; clear hb hbox hg; have hcz32_0 : w31.cell? ⟨gb116, 0, none⟩ = some (.int .i64 0) := cC BK116 0; have hcz32_1 : w31.cell? ⟨gb116, 1, none⟩ = some (.int .i64 0) := cC BK116 1; have hcz32_2 : w31.cell? ⟨gb116, 2, none⟩ = some (.int .i64 0) := cC BK116 2; have hfz32_0 := fC BK116 0; have hfz32_1 := fC BK116 1; have hfz32_2 := fC BK116 2; obtain ⟨Ao33, co33, eo33⟩ := Kd.R_slice HO_4.1; subst eo33))
        have n0_ : Aside0 (Kd.R k53 53 (((w31.setCell ⟨gb116, 0, none⟩ (.int .i64 ((rd_T53 x13_1 x15_1).f0))).setCell ⟨gb116, 1, none⟩ (.int .i64 ((rd_T53 x13_1 x15_1).f1))).setCell ⟨gb116, 2, none⟩ (.int .i64 ((rd_T53 x13_1 x15_1).f2))) w.heap.size (fun k_ => nb k_ (some ad115) x13_1.length co4 ∧ k_ ≠ gb116) (.slice Ao33 x4_1.length co33) x4_1) := ⟨rU (Kd.R_mono (Kd.R_far (p := ⟨gb116, 2, none⟩) (Kd.R_far (p := ⟨gb116, 1, none⟩) (Kd.R_far (p := ⟨gb116, 0, none⟩) (Kd.R_mono HO_4.1 (fun k_ hk => (⟨hk, hk.2⟩ : _ ∧ k_ ≠ gb116))) (fun _ hk => hk.2) (.int .i64 ((rd_T53 x13_1 x15_1).f0))) (fun _ hk => hk.2) (.int .i64 ((rd_T53 x13_1 x15_1).f1))) (fun _ hk => hk.2) (.int .i64 ((rd_T53 x13_1 x15_1).f2))) (fun _ hk => ⟨hk.1.1, hk.1.2⟩))⟩
        have n1_ : Aside0 (Kd.R k53 53 (((w31.setCell ⟨gb116, 0, none⟩ (.int .i64 ((rd_T53 x13_1 x15_1).f0))).setCell ⟨gb116, 1, none⟩ (.int .i64 ((rd_T53 x13_1 x15_1).f1))).setCell ⟨gb116, 2, none⟩ (.int .i64 ((rd_T53 x13_1 x15_1).f2))) w.heap.size (fun k_ => nb k_ Ao33 x4_1.length co33 ∧ k_ ≠ gb116) (.slice (some ad115) x13_1.length co4) x13_1) := ⟨rU (Kd.R_mono (Kd.R_far (p := ⟨gb116, 2, none⟩) (Kd.R_far (p := ⟨gb116, 1, none⟩) (Kd.R_far (p := ⟨gb116, 0, none⟩) (Kd.R_mono HO_13.1 (fun k_ hk => (⟨hk, hk.2⟩ : _ ∧ k_ ≠ gb116))) (fun _ hk => hk.2) (.int .i64 ((rd_T53 x13_1 x15_1).f0))) (fun _ hk => hk.2) (.int .i64 ((rd_T53 x13_1 x15_1).f1))) (fun _ hk => hk.2) (.int .i64 ((rd_T53 x13_1 x15_1).f2))) (fun _ hk => ⟨hk.1.1, hk.1.2⟩))⟩
        have n2_ : Aside0 ((((w31.setCell ⟨gb116, 0, none⟩ (.int .i64 ((rd_T53 x13_1 x15_1).f0))).setCell ⟨gb116, 1, none⟩ (.int .i64 ((rd_T53 x13_1 x15_1).f1))).setCell ⟨gb116, 2, none⟩ (.int .i64 ((rd_T53 x13_1 x15_1).f2))).heap[gb116]? = some (.cells #[.int .i64 ((rd_T53 x13_1 x15_1).f0), .int .i64 ((rd_T53 x13_1 x15_1).f1), .int .i64 ((rd_T53 x13_1 x15_1).f2)] 53 (0, 0))) := ⟨by refine kP ?_; refine blk_put (cs := #[.int .i64 ((rd_T53 x13_1 x15_1).f0), .int .i64 ((rd_T53 x13_1 x15_1).f1), .int .i64 0]) ?_ 2 _ rfl; refine kP ?_; refine blk_put (cs := #[.int .i64 ((rd_T53 x13_1 x15_1).f0), .int .i64 0, .int .i64 0]) ?_ 1 _ rfl; refine kP ?_; refine blk_put (cs := #[.int .i64 0, .int .i64 0, .int .i64 0]) ?_ 0 _ rfl; refine kP ?_; exact BK116.1⟩
        have n3_ : Aside0 (Below w.heap.size w (((w31.setCell ⟨gb116, 0, none⟩ (.int .i64 ((rd_T53 x13_1 x15_1).f0))).setCell ⟨gb116, 1, none⟩ (.int .i64 ((rd_T53 x13_1 x15_1).f1))).setCell ⟨gb116, 2, none⟩ (.int .i64 ((rd_T53 x13_1 x15_1).f2)))) := ⟨bS HB.1⟩
        (try clear HO_4)
        (try clear HO_13)
        (try clear BK116)
        (try clear HB)
        generalize (((w31.setCell ⟨gb116, 0, none⟩ (.int .i64 ((rd_T53 x13_1 x15_1).f0))).setCell ⟨gb116, 1, none⟩ (.int .i64 ((rd_T53 x13_1 x15_1).f1))).setCell ⟨gb116, 2, none⟩ (.int .i64 ((rd_T53 x13_1 x15_1).f2))) = w34 at n0_ n1_ n2_ n3_ ⊢
        have HO_4 := n0_
        have HO_13 := n1_
        have BK116 := n2_
        have HB := n3_
        clear n0_ n1_ n2_ n3_
        replace HO_4 := Aa (Kd.R_drew HO_4.1)
        replace HO_13 := Aa (Kd.R_drew HO_13.1)
        replace BK116 := Aa (blk_drew BK116.1)
        replace HB := Aa (below_drew1 HB.1)
        refine start_ (n := 18) (S := fun w' => True) (ds := []) (bm 18 0) (by kernel_rfl) rfl (bm0 _) trivial (fun hHeld => ?_); refine with_tabW extent_Runs.tab8 extent_Runs.bits8 (fun HT_ HW_ => ?_)
        generalize w34.drew = w35 at HO_4 HO_13 BK116 HB hHeld ⊢
        refine pA 1 0 22 ?_
        refine pA 3 1 23 ?_
        refine pA 7 2 24 ?_
        refine pU 15 3 25 ?_
        refine pU 31 4 26 ?_
        refine pU 63 5 27 ?_
        refine pU 127 6 28 ?_
        refine pU 255 7 29 ?_
        refine pU 511 8 30 ?_
        refine pU 1023 9 31 ?_
        refine pU 2047 10 32 ?_
        refine pU 4095 11 33 ?_
        refine pU 8191 12 34 ?_
        refine pU 16383 13 35 ?_
        refine pU 32767 14 36 ?_
        refine pU 65535 15 37 ?_
        refine pU 131071 16 38 ?_
        refine pA 262143 17 39 ?_
        refine done_ (done_of HT_.1 (by kernel_rfl)) ?_
        have hcz36_0 : w35.cell? ⟨gb116, 0, none⟩ = some (.int .i64 ((rd_T53 x13_1 x15_1).f0)) := cC BK116 0
        have hcz36_1 : w35.cell? ⟨gb116, 1, none⟩ = some (.int .i64 ((rd_T53 x13_1 x15_1).f1)) := cC BK116 1
        have hcz36_2 : w35.cell? ⟨gb116, 2, none⟩ = some (.int .i64 ((rd_T53 x13_1 x15_1).f2)) := cC BK116 2
        have hfz36_0 := fC BK116 0
        have hfz36_1 := fC BK116 1
        have hfz36_2 := fC BK116 2
        try go_wp2_with (first | ((with_reducible refine gate_builtin (b := .append) (xs := #[.tmp 61, .tmp 67]) rfl ?_); at_builtin; refine Kd.R_append k53 (w0 := w) w.heap.size rfl (.tmp 61) (.tmp 67) 24 53 (.agg #[(.int .i64 0), (.int .i64 0), (.int .i64 0)]) 24 rfl Try.underlying24 info53 rfl (by decide) (by omega) (.slice Ao33 x4_1.length co33) x4_1 (⟨0, (rd_T53 x13_1 x15_1).f1, (rd_T53 x13_1 x15_1).f2⟩ : S53) [.int .i64 0, .int .i64 ((rd_T53 x13_1 x15_1).f1), .int .i64 ((rd_T53 x13_1 x15_1).f2)] (fun k_ => nb k_ (some ad115) x13_1.length co4 ∧ k_ ≠ gb116) (fun _ => False) rfl rfl ?aP (fun _ hk => hk.elim) ?aF ?aO ?aB ?aS ?aL ?_; (case aP => exact k53_mkM _ _ _ (⟨0, (rd_T53 x13_1 x15_1).f1, (rd_T53 x13_1 x15_1).f2⟩ : S53)); (case aB => exact (bS HB.1)); (case aF => exact (fun k_ hk => ⟨Kd.fresh' (Kd.R_lt (rU HO_13.1)) k_ hk, Kd.freshB (g := gb116) (o := .cells #[.int .i64 ((rd_T53 x13_1 x15_1).f0), .int .i64 ((rd_T53 x13_1 x15_1).f1), .int .i64 ((rd_T53 x13_1 x15_1).f2)] 53 (0, 0)) (kU BK116.1) k_ hk⟩)); (case aO => exact (rU HO_4.1)); (case aS => exact (below_size (bS HB.1))); (case aL => have := LMc30.1; omega); intro v126 w37 ho hb hg hat; rw [← Ny125.1] at ho; have n0_ := Aa (Kd.R_after (ok := (fun k_ => k_ ≠ gb116)) (rU (Kd.R_mono HO_13.1 (fun _ hk => ⟨hk.2, hk.1⟩))) hg hat); have n1_ := Aa (blk_grown (g := gb116) (o := .cells #[.int .i64 ((rd_T53 x13_1 x15_1).f0), .int .i64 ((rd_T53 x13_1 x15_1).f1), .int .i64 ((rd_T53 x13_1 x15_1).f2)] 53 (0, 0)) (kU BK116.1) hg (Kd.R_away HO_4.1 (fun _ hk => hk.2))); have n2_ := Aa (hb); have n3_ := Aa (ho); clear HO_13; clear BK116; clear HB; clear HO_4; have HO_13 := n0_; have BK116 := n1_; have HB := n2_; have HO127 := n3_; clear n0_ n1_ n2_ n3_; clear ho hb hg hat))
        (try simp only [← hl13_1])
        go_roundg k1
        case measure => have := HK1.1; omega
        case rel => exact ⟨(y125), (x13_1), (wrap64 (x15_1 + 1)), (by first | rfl | (simp; done) | (simp [*]; done)), H', ⟨by have := HK1.1; omega⟩, ⟨by (try simp only [hl13_1]); (with_reducible repeat (first | apply Kd.R_alloc | apply Kd.R_drewN | apply Kd.R_drew)); exact Kd.R_mono HO127.1 (fun _ hk => hk.1)⟩, ⟨by (try simp only [hl13_1]); (with_reducible repeat (first | apply Kd.R_alloc | apply Kd.R_drewN | apply Kd.R_drew)); exact Kd.R_mono HO_13.1 (fun _ hk => hk.2)⟩, ⟨bS HB.1⟩⟩
       ·
        rw [if_neg c30] at H
        exact absurd H (by simp)
     ·
      rw [if_neg c7] at H
      exact absurd H (by simp)
    ·
     rw [if_neg c6] at H
     exact absurd H (by simp)
   ·
    rw [if_neg c5] at H
    have c5b0 := decide_eq_false c5
    clear c5
    obtain rfl := Option.some.inj H
    (try simp only [hl13_1] at c5b0)
    go_wp2
    go_ret
    exact ⟨_, fT, rU (Kd.R_mono HO_4.1 (fun _ hk => trivial)), bU HB.1⟩

end Go.Proofs.Ytcjpikjbjehjeaa.PAllocB
