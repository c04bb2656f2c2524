-- Written for this claim by a program of this session (wip/), out of the translation's own print: Lean checks it
import Derived.Test.YtcgihjpnemnkeaaPExtentRunsx0
import Derived.Test.YtcgihjpnemnkeaaPExtentRunsx2
namespace Go.Proofs.Ytcgihjpnemnkeaa.PExtentRuns
open Go.RowKit Go.Proofs.YtcgihjpnemnkeaaW.PrintWords Go.Proofs.YtcgihjpnemnkeaaW.PrintLast Go.Proofs.YtcgihjpnemnkeaaW.PrintMore
attribute [local go_sem] max2_int min2_int max_two min_two max_three min_three max_four min_four   -- for this text's walks alone
set_option linter.unusedVariables false
set_option linter.unusedSimpArgs false

/-! ### extent_Valid: function 19 -/
def extent_Valid.l0 : Nat → List (S33) → List (S33) → Int → Int → Option (Bool)
 | 0, _, _, _, _ => none
 | k + 1, x0, x5, x6, x7 => if x7 < x6 then (if 0 ≤ x7 then (if x7 < (x5.length : Int) then ((extent_proper.f ((rd_T33 x5 x7).f0) ((rd_T33 x5 x7).f1) ((rd_T33 x5 x7).f2)).bind fun t107 => (if t107 = true then (if x7 > 0 then (if 0 ≤ (wrap64 (x7 - 1)) then (if (wrap64 (x7 - 1)) < (x0.length : Int) then ((extent_end.f ((rd_T33 x0 (wrap64 (x7 - 1))).f0) ((rd_T33 x0 (wrap64 (x7 - 1))).f1) ((rd_T33 x0 (wrap64 (x7 - 1))).f2)).bind fun t109 => (if ((rd_T33 x5 x7).f0) < t109 then (some false) else (extent_Valid.l0 k x0 x5 x6 (wrap64 (x7 + 1))))) else (none)) else (none)) else (extent_Valid.l0 k x0 x5 x6 (wrap64 (x7 + 1)))) else (some false))) else (none)) else (none)) else (some true)
def extent_Valid.f (k : Nat) (l0 : List (S33)) : Option (Bool) := extent_Valid.l0 k l0 l0 (l0.length : Int) 0
theorem extent_Valid.mono_l : ∀ k, (∀ y0 y1 y2 y3, LeO (extent_Valid.l0 k y0 y1 y2 y3) (extent_Valid.l0 (k + 1) y0 y1 y2 y3))
 | 0 => fun _ _ _ _ r h => by simp [extent_Valid.l0] at h
 | k + 1 => by
  have ih0 := extent_Valid.mono_l k
  ·
   intro y0 y1 y2 y3
   unfold extent_Valid.l0
   repeat' first
   | (with_reducible exact ih0 _ _ _ _)
   | (with_reducible exact LeO.refl _)
   | (with_reducible exact LeO.none _)
   | (with_reducible refine LeO.ite ?_ ?_)
   | (with_reducible refine LeO.bind ?_ (fun _ => ?_))
   | exact ih0 _ _ _ _
   | exact LeO.none _
   | refine LeO.ite ?_ ?_
   | refine LeO.bind ?_ (fun _ => ?_)
theorem extent_Valid.mono : ∀ a0 k, LeO (extent_Valid.f k a0) (extent_Valid.f (k + 1) a0) := by
 intro a0 k
 have ih0 := extent_Valid.mono_l k
 unfold extent_Valid.f
 repeat' first
   | (with_reducible exact ih0 _ _ _ _)
   | (with_reducible exact LeO.refl _)
   | (with_reducible exact LeO.none _)
   | (with_reducible refine LeO.ite ?_ ?_)
   | (with_reducible refine LeO.bind ?_ (fun _ => ?_))
   | exact ih0 _ _ _ _
   | exact LeO.none _
   | refine LeO.ite ?_ ?_
   | refine LeO.bind ?_ (fun _ => ?_)
def extent_Valid.T4 : Bool × List (List Nat × List Nat) := (true, [([], []), ([0], [0]), ([1], [1]), ([2, 1], [2]), ([3], [3]), ([4, 3], [3, 4]), ([5, 3, 3], [3, 5]), ([6], [6]), ([7, 6], [6, 7]), ([6], [6]), ([6], [6]), ([10, 6], [6, 10]), ([9, 11, 6], [6, 9, 11]), ([12, 6], [6, 12]), ([13, 6, 6], [6, 13]), ([8, 14, 6], [6, 8, 14]), ([6, 15, 3], [3, 6, 15]), ([3, 16], [3, 16])])
def extent_Valid.B4 : List Nat := [0, 1, 3, 7, 15, 31, 63, 127, 255, 127, 127, 1151, 3711, 7807, 15999, 32767, 65535, 131071]
theorem extent_Valid.tab4 : rtab .any (opsOf Try.f19 4) = extent_Valid.T4 := by kernel_rfl
theorem extent_Valid.bits4 : waitsOk extent_Valid.T4.2 extent_Valid.B4 = true := by kernel_rfl
set_option maxHeartbeats 8000000 in
set_option maxRecDepth 100000 in
theorem extent_Valid.calls (k : Nat) (A0 : Option Addr) (c0 : Nat) (l0 : List (S33)) (r : Bool) (w : World) (hr0 : Kd.C k33 w A0 l0.length l0) (hc0 : l0.length ≤ c0) (h : extent_Valid.f k l0 = some r) :
  Calls Try.prog 19 #[.slice A0 l0.length c0] w fun e w' => e = .returned (.bool r) ∧ Below w.heap.size w w' := by
 have hu33 := Try.underlying33
 have HR0 := Aside0.mk hr0
 have HC0 := Aside0.mk hc0
 clear hr0 hc0
 have HB := Aside0.mk (Below.refl w.heap.size w)
 have H : (extent_Valid.l0 k l0 l0 (l0.length : Int) 0) = some r := h
 clear h
 have H' := Aside0.mk H
 clear H
 go_enter Try.func19, Try.ntmps19
 go_wp2
 go_loopg [7] k (fun kq v7 w' => ∃ (x7_1 : Int), v7 = .int .i64 x7_1 ∧ Aside0 (extent_Valid.l0 kq l0 l0 (l0.length : Int) x7_1 = some r) ∧ Aside0 (kq ≤ k) ∧ Aside0 (Below w.heap.size w w'))
 case atStart => exact ⟨(0), (by first | rfl | (simp; done) | (simp [*]; done)), H', ⟨Nat.le_refl _⟩, ⟨bU HB.out⟩⟩
 case round =>
  clear H'
  try clear c1
  obtain ⟨x7_1, rfl, HA, HK1, HB⟩ := hrel
  cases gk with
  | zero => exact absurd HA.out (by simp [extent_Valid.l0])
  | succ k1 =>
   have H := HA.out
   clear HA
   simp only [extent_Valid.l0] at H
   by_cases c2 : x7_1 < (l0.length : Int)
   ·
    rw [if_pos c2] at H
    have c2b0 := decide_eq_true c2
    clear c2
    by_cases c3 : 0 ≤ x7_1
    ·
     rw [if_pos c3] at H
     have c3b0 := decide_eq_true c3
     clear c3
     by_cases c4 : x7_1 < (l0.length : Int)
     ·
      rw [if_pos c4] at H
      have c4b0 := decide_eq_true c4
      clear c4
      replace H := Option.bind_eq_some_iff.mp H
      obtain ⟨t107, A50, H⟩ := H
      replace H : (if t107 = true then (if x7_1 > 0 then (if 0 ≤ (wrap64 (x7_1 - 1)) then (if (wrap64 (x7_1 - 1)) < (l0.length : Int) then ((extent_end.f ((rd_T33 l0 (wrap64 (x7_1 - 1))).f0) ((rd_T33 l0 (wrap64 (x7_1 - 1))).f1) ((rd_T33 l0 (wrap64 (x7_1 - 1))).f2)).bind fun t109 => (if ((rd_T33 l0 x7_1).f0) < t109 then (some false) else (extent_Valid.l0 k1 l0 l0 (l0.length : Int) (wrap64 (x7_1 + 1))))) else (none)) else (none)) else (extent_Valid.l0 k1 l0 l0 (l0.length : Int) (wrap64 (x7_1 + 1)))) else (some false)) = some r := H
      have A5 := Aside0.mk A50
      clear A50
      by_cases c6 : t107 = true
      ·
       subst c6
       have H1 : (if x7_1 > 0 then (if 0 ≤ (wrap64 (x7_1 - 1)) then (if (wrap64 (x7_1 - 1)) < (l0.length : Int) then ((extent_end.f ((rd_T33 l0 (wrap64 (x7_1 - 1))).f0) ((rd_T33 l0 (wrap64 (x7_1 - 1))).f1) ((rd_T33 l0 (wrap64 (x7_1 - 1))).f2)).bind fun t109 => (if ((rd_T33 l0 x7_1).f0) < t109 then (some false) else (extent_Valid.l0 k1 l0 l0 (l0.length : Int) (wrap64 (x7_1 + 1))))) else (none)) else (none)) else (extent_Valid.l0 k1 l0 l0 (l0.length : Int) (wrap64 (x7_1 + 1)))) = some r := by rw [if_pos rfl] at H; exact H
       clear H
       have H := H1
       clear H1
       by_cases c7 : x7_1 > 0
       ·
        rw [if_pos c7] at H
        have c7b0 := decide_eq_true c7
        clear c7
        obtain ⟨ji8, hji8⟩ : ∃ j_ : Int, (wrap64 (x7_1 - 1)) = j_ := ⟨_, rfl⟩
        replace H : (if 0 ≤ (ji8) then (if (ji8) < (l0.length : Int) then ((extent_end.f ((rd_T33 l0 (ji8)).f0) ((rd_T33 l0 (ji8)).f1) ((rd_T33 l0 (ji8)).f2)).bind fun t109 => (if ((rd_T33 l0 x7_1).f0) < t109 then (some false) else (extent_Valid.l0 k1 l0 l0 (l0.length : Int) (wrap64 (x7_1 + 1))))) else (none)) else (none)) = some r := by first | (rw [hji8] at H; exact H) | (simp only [hji8] at H ⊢; exact H)
        (try rw [hji8] at A5)
        have hji8w : (IntKind.i64.wrap (x7_1 - 1)) = ji8 := (i64_w _).trans hji8
        by_cases c9 : 0 ≤ (ji8)
        ·
         rw [if_pos c9] at H
         have c9b0 := decide_eq_true c9
         clear c9
         by_cases c10 : (ji8) < (l0.length : Int)
         ·
          rw [if_pos c10] at H
          have c10b0 := decide_eq_true c10
          clear c10
          replace H := Option.bind_eq_some_iff.mp H
          obtain ⟨t109, A110, H⟩ := H
          replace H : (if ((rd_T33 l0 x7_1).f0) < t109 then (some false) else (extent_Valid.l0 k1 l0 l0 (l0.length : Int) (wrap64 (x7_1 + 1)))) = some r := H
          have A11 := Aside0.mk A110
          clear A110
          by_cases c12 : ((rd_T33 l0 x7_1).f0) < t109
          ·
           rw [if_pos c12] at H
           have c12b0 := decide_eq_true c12
           clear c12
           obtain rfl := Option.some.inj H
           have p105 : 0 ≤ (x7_1 : Int) := of_decide_eq_true (by first | (with_reducible assumption) | assumption)
           have q105 : x7_1 < (l0.length : Int) := of_decide_eq_true (by first | (with_reducible assumption) | assumption)
           obtain ⟨ad105, e105, hx105_0, hx105_1, hx105_2⟩ := at_T33 HR0.out x7_1 p105 q105
           cases e105
           replace hx105_0 := (HB.out.cell (World.block_lt_of_cell? w _ hx105_0)).trans hx105_0
           replace hx105_1 := (HB.out.cell (World.block_lt_of_cell? w _ hx105_1)).trans hx105_1
           replace hx105_2 := (HB.out.cell (World.block_lt_of_cell? w _ hx105_2)).trans hx105_2
           replace p105 := eq_true p105
           replace q105 := eq_true q105
           try go_wp2_with (first | ((with_reducible refine gate_dst (N := 4) rfl ?_); refine box_event ?hg (N := 4) ?hd (cs := #[.int .i64 0, .int .i64 0, .int .i64 0]) (t := 33) ?hr ?_; (case hd => rfl); (case hg => rfl); (case hr => first | (go_simp; done) | (go_simp; rfl)); intro gb106 hg w13 hbox hb; have BK106 := Aside0.mk (hbox); have GW106 := Aside0.mk ((by rw [hg]; exact (below_size (bU HB.out)) : w.heap.size ≤ gb106)); have GE106 := Aside0.mk ((by rw [hg]; exact (below_size (bU HB.out)) : w.heap.size ≤ gb106)); replace HB := Aside0.mk (below_step (bU HB.out) hb); clear hb hbox hg; have hcz14_0 : w13.cell? ⟨gb106, 0, none⟩ = some (.int .i64 0) := (blk_cell BK106.out 0).trans rfl; have hcz14_1 : w13.cell? ⟨gb106, 1, none⟩ = some (.int .i64 0) := (blk_cell BK106.out 1).trans rfl; have hcz14_2 : w13.cell? ⟨gb106, 2, none⟩ = some (.int .i64 0) := (blk_cell BK106.out 2).trans rfl; have hfz14_0 := blk_frozen BK106.out 0; have hfz14_1 := blk_frozen BK106.out 1; have hfz14_2 := blk_frozen BK106.out 2))
           have n0_ : Aside0 ((((w13.setCell ⟨gb106, 0, none⟩ (.int .i64 ((rd_T33 l0 x7_1).f0))).setCell ⟨gb106, 1, none⟩ (.int .i64 ((rd_T33 l0 x7_1).f1))).setCell ⟨gb106, 2, none⟩ (.int .i64 ((rd_T33 l0 x7_1).f2))).heap[gb106]? = some (.cells #[.int .i64 ((rd_T33 l0 x7_1).f0), .int .i64 ((rd_T33 l0 x7_1).f1), .int .i64 ((rd_T33 l0 x7_1).f2)] 33 (0, 0))) := ⟨by (with_reducible repeat (first | refine blk_drewN ?_ _ | refine blk_drew ?_ | refine blk_alloc ?_ _)); refine blk_put (cs := #[.int .i64 ((rd_T33 l0 x7_1).f0), .int .i64 ((rd_T33 l0 x7_1).f1), .int .i64 0]) ?_ 2 _ rfl; (with_reducible repeat (first | refine blk_drewN ?_ _ | refine blk_drew ?_ | refine blk_alloc ?_ _)); refine blk_put (cs := #[.int .i64 ((rd_T33 l0 x7_1).f0), .int .i64 0, .int .i64 0]) ?_ 1 _ rfl; (with_reducible repeat (first | refine blk_drewN ?_ _ | refine blk_drew ?_ | refine blk_alloc ?_ _)); refine blk_put (cs := #[.int .i64 0, .int .i64 0, .int .i64 0]) ?_ 0 _ rfl; (with_reducible repeat (first | refine blk_drewN ?_ _ | refine blk_drew ?_ | refine blk_alloc ?_ _)); exact BK106.out⟩
           have n1_ : Aside0 (Below w.heap.size w (((w13.setCell ⟨gb106, 0, none⟩ (.int .i64 ((rd_T33 l0 x7_1).f0))).setCell ⟨gb106, 1, none⟩ (.int .i64 ((rd_T33 l0 x7_1).f1))).setCell ⟨gb106, 2, none⟩ (.int .i64 ((rd_T33 l0 x7_1).f2)))) := ⟨by repeat (first | (with_reducible first | exact HB.out | apply below_alloc | apply pw_below_drewN | apply below_drew1 | refine below_set ?_ GE106.out) | exact HB.out)⟩
           (try clear BK106)
           (try clear HB)
           generalize (((w13.setCell ⟨gb106, 0, none⟩ (.int .i64 ((rd_T33 l0 x7_1).f0))).setCell ⟨gb106, 1, none⟩ (.int .i64 ((rd_T33 l0 x7_1).f1))).setCell ⟨gb106, 2, none⟩ (.int .i64 ((rd_T33 l0 x7_1).f2))) = w15 at n0_ n1_ ⊢
           have BK106 := n0_
           have HB := n1_
           clear n0_ n1_
           have n0_ := Aside0.mk (blk_drew BK106.out)
           have n1_ := Aside0.mk (below_drew1 HB.out)
           clear BK106
           clear HB
           have BK106 := n0_
           have HB := n1_
           clear n0_ n1_
           have p108 : 0 ≤ ((ji8) : Int) := of_decide_eq_true (by first | (with_reducible assumption) | assumption)
           have q108 : (ji8) < (l0.length : Int) := of_decide_eq_true (by first | (with_reducible assumption) | assumption)
           obtain ⟨ad108, e108, hx108_0, hx108_1, hx108_2⟩ := at_T33 HR0.out (ji8) p108 q108
           have hw108_2 := hx108_2
           have hw108_1 := hx108_1
           have hw108_0 := hx108_0
           obtain rfl : ad105 = ad108 := (by injection e108)
           replace hx108_0 := (HB.out.cell (World.block_lt_of_cell? w _ hx108_0)).trans hx108_0
           replace hx108_1 := (HB.out.cell (World.block_lt_of_cell? w _ hx108_1)).trans hx108_1
           replace hx108_2 := (HB.out.cell (World.block_lt_of_cell? w _ hx108_2)).trans hx108_2
           replace p108 := eq_true p108
           replace q108 := eq_true q108
           refine start_ (n := 18) (S := fun w' => w'.cell? ⟨gb106, 0, none⟩ = some (.int .i64 ((rd_T33 l0 x7_1).f0)) ∧ w'.cell? ⟨gb106, 1, none⟩ = some (.int .i64 ((rd_T33 l0 x7_1).f1)) ∧ w'.cell? ⟨gb106, 2, none⟩ = some (.int .i64 ((rd_T33 l0 x7_1).f2)) ∧ w'.cell? (ad105.add (((ji8)).toNat * 3)) = some (.int .i64 ((rd_T33 l0 (ji8)).f0)) ∧ w'.cell? ⟨(ad105.add (((ji8)).toNat * 3)).block, (ad105.add (((ji8)).toNat * 3)).off + 1, none⟩ = some (.int .i64 ((rd_T33 l0 (ji8)).f1)) ∧ w'.cell? ⟨(ad105.add (((ji8)).toNat * 3)).block, (ad105.add (((ji8)).toNat * 3)).off + 2, none⟩ = some (.int .i64 ((rd_T33 l0 (ji8)).f2))) (ds := []) #[false, false, false, false, false, false, false, false, false, false, false, false, false, false, false, false, false, false] (by kernel_rfl) rfl rfl ⟨(blk_cell BK106.out 0).trans rfl, (blk_cell BK106.out 1).trans rfl, (blk_cell BK106.out 2).trans rfl, ((HB.out.cell (World.block_lt_of_cell? w _ hw108_0)).trans hw108_0), ((HB.out.cell (World.block_lt_of_cell? w _ hw108_1)).trans hw108_1), ((HB.out.cell (World.block_lt_of_cell? w _ hw108_2)).trans hw108_2)⟩ (fun hHeld => ?_); refine with_tabW extent_Valid.tab4 extent_Valid.bits4 (fun HT_ HW_ => ?_)
           generalize w15.drew = w16 at BK106 HB hx108_0 hx108_1 hx108_2 hHeld ⊢
           refine take_ (i := 0) (N := some 12) (v := ?_) (a' := ?_) #[true, false, false, false, false, false, false, false, false, false, false, false, false, false, false, false, false, false] rfl rfl (take_ofW HT_.out HW_.out (by kernel_rfl)) (fun _ _ _ h => h) (Or.inl ⟨by rfl, ?_⟩) hHeld ?_ ?_
           rotate_left
           ·
            rintro w' ⟨s0, s1, s2, s3, s4, s5⟩
            go_simp; with_reducible rfl
           rotate_left
           ·
            simp only [AP]; rfl
           refine one_ (i := 1) (N := some 13) #[true, true, false, false, false, false, false, false, false, false, false, false, false, false, false, false, false, false] rfl rfl (one_of HT_.out (by kernel_rfl)) (by decide) (fun K hK => ?_)
           refine goes_ Try.func34 (by kernel_rfl) rfl #[.agg #[.int .i64 ((rd_T33 l0 x7_1).f0), .int .i64 ((rd_T33 l0 x7_1).f1), .int .i64 ((rd_T33 l0 x7_1).f2)]] (by rfl) rfl rfl (by (try simp only [List.map_toArray, List.map_cons, List.map_nil]); first | done | rfl | (simp only [List.length_drop, List.length_take]; rfl)) ?_
           with_reducible refine (extent_proper.calls ((rd_T33 l0 x7_1).f0) ((rd_T33 l0 x7_1).f1) ((rd_T33 l0 x7_1).f2) true _ A5.out).mono ?_
           rintro e w17 ⟨rfl, hb⟩
           refine ⟨_, rfl, ?_⟩
           have n0_ := Aside0.mk (blk_below (g := gb106) (o := .cells #[.int .i64 ((rd_T33 l0 x7_1).f0), .int .i64 ((rd_T33 l0 x7_1).f1), .int .i64 ((rd_T33 l0 x7_1).f2)] 33 (0, 0)) (kU BK106.out) hb)
           have n1_ := Aside0.mk (below_step (by repeat (first | (with_reducible first | exact HB.out | apply below_alloc | apply pw_below_drewN | apply below_drew1 | refine below_set ?_ GE106.out) | exact HB.out)) hb)
           clear BK106
           clear HB
           have BK106 := n0_
           have HB := n1_
           clear n0_ n1_
           (try clear hb)
           (try clear hb2)
           (try clear hk)
           (try clear hi)
           refine hK.out _ _ ⟨(blk_cell BK106.out 0).trans rfl, (blk_cell BK106.out 1).trans rfl, (blk_cell BK106.out 2).trans rfl, ((HB.out.cell (World.block_lt_of_cell? w _ hw108_0)).trans hw108_0), ((HB.out.cell (World.block_lt_of_cell? w _ hw108_1)).trans hw108_1), ((HB.out.cell (World.block_lt_of_cell? w _ hw108_2)).trans hw108_2)⟩ (fun hHeld => ?_)
           clear hK K
           refine norm_ (a' := ?_) ?_ ?_
           rotate_left
           ·
            show Act.put _ (some 13) _ = _
            simp only [AP]; rfl
           refine pure_ (i := 2) (N := some 14) (v := ?_) (a' := ?_) #[true, true, true, false, false, false, false, false, false, false, false, false, false, false, false, false, false, false] rfl rfl (any_of HT_.out (by kernel_rfl)) (fun _ _ _ h => h) (Or.inl ⟨by rfl, ?_⟩) ?_ ?_
           rotate_left
           ·
            intro w'; go_simp; with_reducible rfl
           rotate_left
           ·
            simp only [AP]; rfl
           refine pure_ (i := 3) (N := some 15) (v := ?_) (a' := ?_) #[true, true, true, true, false, false, false, false, false, false, false, false, false, false, false, false, false, false] rfl rfl (any_of HT_.out (by kernel_rfl)) (fun _ _ _ h => h) (Or.inl ⟨by rfl, ?_⟩) ?_ ?_
           rotate_left
           ·
            intro w'; go_simp; with_reducible rfl
           rotate_left
           ·
            simp only [AP]; rfl
           refine pure_ (i := 4) (N := some 16) (v := ?_) (a' := ?_) #[true, true, true, true, true, false, false, false, false, false, false, false, false, false, false, false, false, false] rfl rfl (any_of HT_.out (by kernel_rfl)) (fun _ _ _ h => h) (Or.inl ⟨by rfl, ?_⟩) ?_ ?_
           rotate_left
           ·
            intro w'; go_simp; with_reducible rfl
           rotate_left
           ·
            simp only [AP]; rfl
           refine pure_ (i := 5) (N := some 17) (v := ?_) (a' := ?_) #[true, true, true, true, true, true, false, false, false, false, false, false, false, false, false, false, false, false] rfl rfl (any_of HT_.out (by kernel_rfl)) (fun _ _ _ h => h) (Or.inl ⟨by rfl, ?_⟩) ?_ ?_
           rotate_left
           ·
            intro w'; go_simp; with_reducible rfl
           rotate_left
           ·
            simp only [AP]; rfl
           refine pure_ (i := 6) (N := some 18) (v := ?_) (a' := ?_) #[true, true, true, true, true, true, true, false, false, false, false, false, false, false, false, false, false, false] rfl rfl (any_of HT_.out (by kernel_rfl)) (fun _ _ _ h => h) (Or.inl ⟨by rfl, ?_⟩) ?_ ?_
           rotate_left
           ·
            intro w'; go_simp; with_reducible rfl
           rotate_left
           ·
            simp only [AP]; rfl
           refine pure_ (i := 7) (N := some 19) (v := ?_) (a' := ?_) #[true, true, true, true, true, true, true, true, false, false, false, false, false, false, false, false, false, false] rfl rfl (any_of HT_.out (by kernel_rfl)) (fun _ _ _ h => h) (Or.inl ⟨by rfl, ?_⟩) ?_ ?_
           rotate_left
           ·
            intro w'; go_simp; with_reducible rfl
           rotate_left
           ·
            simp only [AP]; rfl
           refine pure_ (i := 9) (N := some 21) (v := ?_) (a' := ?_) #[true, true, true, true, true, true, true, true, false, true, false, false, false, false, false, false, false, false] rfl rfl (any_of HT_.out (by kernel_rfl)) (fun _ _ _ h => h) (Or.inl ⟨by rfl, ?_⟩) ?_ ?_
           rotate_left
           ·
            intro w'; go_simp; with_reducible rfl
           rotate_left
           ·
            simp only [AP]; rfl
           refine pure_ (i := 10) (N := some 22) (v := ?_) (a' := ?_) #[true, true, true, true, true, true, true, true, false, true, true, false, false, false, false, false, false, false] rfl rfl (any_of HT_.out (by kernel_rfl)) (fun _ _ _ h => h) (Or.inl ⟨by rfl, ?_⟩) ?_ ?_
           rotate_left
           ·
            intro w'; go_simp; with_reducible rfl
           rotate_left
           ·
            simp only [AP]; rfl
           refine pure_ (i := 11) (N := some 23) (v := ?_) (a' := ?_) #[true, true, true, true, true, true, true, true, false, true, true, true, false, false, false, false, false, false] rfl rfl (any_of HT_.out (by kernel_rfl)) (fun _ _ _ h => h) (Or.inl ⟨by rfl, ?_⟩) ?_ ?_
           rotate_left
           ·
            intro w'; go_simp; with_reducible rfl
           rotate_left
           ·
            simp only [AP]; rfl
           refine pure_ (i := 12) (N := some 24) (v := ?_) (a' := ?_) #[true, true, true, true, true, true, true, true, false, true, true, true, true, false, false, false, false, false] rfl rfl (any_of HT_.out (by kernel_rfl)) (fun _ _ _ h => h) (Or.inl ⟨by rfl, ?_⟩) ?_ ?_
           rotate_left
           ·
            intro w'; go_simp; with_reducible rfl
           rotate_left
           ·
            simp only [AP]; rfl
           refine take_ (i := 8) (N := some 20) (v := ?_) (a' := ?_) #[true, true, true, true, true, true, true, true, true, true, true, true, true, false, false, false, false, false] rfl rfl (take_ofW HT_.out HW_.out (by kernel_rfl)) (fun _ _ _ h => h) (Or.inl ⟨by rfl, ?_⟩) hHeld ?_ ?_
           rotate_left
           ·
            rintro w' ⟨s0, s1, s2, s3, s4, s5⟩
            go_simp; with_reducible rfl
           rotate_left
           ·
            simp only [AP]; rfl
           refine take_ (i := 13) (N := some 25) (v := ?_) (a' := ?_) #[true, true, true, true, true, true, true, true, true, true, true, true, true, true, false, false, false, false] rfl rfl (take_ofW HT_.out HW_.out (by kernel_rfl)) (fun _ _ _ h => h) (Or.inl ⟨by rfl, ?_⟩) hHeld ?_ ?_
           rotate_left
           ·
            rintro w' ⟨s0, s1, s2, s3, s4, s5⟩
            go_simp; with_reducible rfl
           rotate_left
           ·
            simp only [AP]; rfl
           refine one_ (i := 14) (N := some 26) #[true, true, true, true, true, true, true, true, true, true, true, true, true, true, true, false, false, false] rfl rfl (one_of HT_.out (by kernel_rfl)) (by decide) (fun K hK => ?_)
           refine goes_ Try.func35 (by kernel_rfl) rfl #[.agg #[.int .i64 ((rd_T33 l0 (ji8)).f0), .int .i64 ((rd_T33 l0 (ji8)).f1), .int .i64 ((rd_T33 l0 (ji8)).f2)]] (by rfl) rfl rfl (by (try simp only [List.map_toArray, List.map_cons, List.map_nil]); first | done | (simp only [hji8]; rfl) | rfl | (simp only [List.length_drop, List.length_take]; rfl)) ?_
           with_reducible refine (extent_end.calls ((rd_T33 l0 (ji8)).f0) ((rd_T33 l0 (ji8)).f1) ((rd_T33 l0 (ji8)).f2) t109 _ A11.out).mono ?_
           rintro e w18 ⟨rfl, hb⟩
           refine ⟨_, rfl, ?_⟩
           have n0_ := Aside0.mk (blk_below (g := gb106) (o := .cells #[.int .i64 ((rd_T33 l0 x7_1).f0), .int .i64 ((rd_T33 l0 x7_1).f1), .int .i64 ((rd_T33 l0 x7_1).f2)] 33 (0, 0)) (kU BK106.out) hb)
           have n1_ := Aside0.mk (below_step (by repeat (first | (with_reducible first | exact HB.out | apply below_alloc | apply pw_below_drewN | apply below_drew1 | refine below_set ?_ GE106.out) | exact HB.out)) hb)
           clear BK106
           clear HB
           have BK106 := n0_
           have HB := n1_
           clear n0_ n1_
           (try clear hb)
           (try clear hb2)
           (try clear hk)
           (try clear hi)
           refine hK.out _ _ ⟨(blk_cell BK106.out 0).trans rfl, (blk_cell BK106.out 1).trans rfl, (blk_cell BK106.out 2).trans rfl, ((HB.out.cell (World.block_lt_of_cell? w _ hw108_0)).trans hw108_0), ((HB.out.cell (World.block_lt_of_cell? w _ hw108_1)).trans hw108_1), ((HB.out.cell (World.block_lt_of_cell? w _ hw108_2)).trans hw108_2)⟩ (fun hHeld => ?_)
           clear hK K
           refine norm_ (a' := ?_) ?_ ?_
           rotate_left
           ·
            show Act.put _ (some 26) _ = _
            simp only [AP]; rfl
           refine pure_ (i := 15) (N := some 27) (v := ?_) (a' := ?_) #[true, true, true, true, true, true, true, true, true, true, true, true, true, true, true, true, false, false] rfl rfl (any_of HT_.out (by kernel_rfl)) (fun _ _ _ h => h) (Or.inl ⟨by rfl, ?_⟩) ?_ ?_
           rotate_left
           ·
            intro w'; go_simp; with_reducible rfl
           rotate_left
           ·
            simp only [AP]; rfl
           refine pure_ (i := 16) (N := some 28) (v := ?_) (a' := ?_) #[true, true, true, true, true, true, true, true, true, true, true, true, true, true, true, true, true, false] rfl rfl (any_of HT_.out (by kernel_rfl)) (fun _ _ _ h => h) (Or.inl ⟨by rfl, ?_⟩) ?_ ?_
           rotate_left
           ·
            intro w'; go_simp; with_reducible rfl
           rotate_left
           ·
            simp only [AP]; rfl
           refine pure_ (i := 17) (N := some 29) (v := ?_) (a' := ?_) #[true, true, true, true, true, true, true, true, true, true, true, true, true, true, true, true, true, true] rfl rfl (any_of HT_.out (by kernel_rfl)) (fun _ _ _ h => h) (Or.inl ⟨by rfl, ?_⟩) ?_ ?_
           rotate_left
           ·
            intro w'; go_simp; with_reducible rfl
           rotate_left
           ·
            simp only [AP]; rfl
           refine done_ (done_of HT_.out (by kernel_rfl)) ?_
           try go_wp2
           go_ret
           exact ⟨by first | rfl | (simp [errW_none, errW_some] <;> rfl) | (simp only [← hji8]; first | rfl | (simp [errW_none, errW_some] <;> rfl)) | (simp [*, errW_none, errW_some] <;> rfl), by repeat (first | (with_reducible first | exact HB.out | apply below_alloc | apply pw_below_drewN | apply below_drew1 | refine below_set ?_ GE106.out) | exact HB.out)⟩
          ·
           rw [if_neg c12] at H
           have c12b0 := decide_eq_false c12
           clear c12
           have H' := Aside0.mk H
           clear H
           have p105 : 0 ≤ (x7_1 : Int) := of_decide_eq_true (by first | (with_reducible assumption) | assumption)
           have q105 : x7_1 < (l0.length : Int) := of_decide_eq_true (by first | (with_reducible assumption) | assumption)
           obtain ⟨ad105, e105, hx105_0, hx105_1, hx105_2⟩ := at_T33 HR0.out x7_1 p105 q105
           cases e105
           replace hx105_0 := (HB.out.cell (World.block_lt_of_cell? w _ hx105_0)).trans hx105_0
           replace hx105_1 := (HB.out.cell (World.block_lt_of_cell? w _ hx105_1)).trans hx105_1
           replace hx105_2 := (HB.out.cell (World.block_lt_of_cell? w _ hx105_2)).trans hx105_2
           replace p105 := eq_true p105
           replace q105 := eq_true q105
           try go_wp2_with (first | ((with_reducible refine gate_dst (N := 4) rfl ?_); refine box_event ?hg (N := 4) ?hd (cs := #[.int .i64 0, .int .i64 0, .int .i64 0]) (t := 33) ?hr ?_; (case hd => rfl); (case hg => rfl); (case hr => first | (go_simp; done) | (go_simp; rfl)); intro gb106 hg w19 hbox hb; have BK106 := Aside0.mk (hbox); have GW106 := Aside0.mk ((by rw [hg]; exact (below_size (bU HB.out)) : w.heap.size ≤ gb106)); have GE106 := Aside0.mk ((by rw [hg]; exact (below_size (bU HB.out)) : w.heap.size ≤ gb106)); replace HB := Aside0.mk (below_step (bU HB.out) hb); clear hb hbox hg; have hcz20_0 : w19.cell? ⟨gb106, 0, none⟩ = some (.int .i64 0) := (blk_cell BK106.out 0).trans rfl; have hcz20_1 : w19.cell? ⟨gb106, 1, none⟩ = some (.int .i64 0) := (blk_cell BK106.out 1).trans rfl; have hcz20_2 : w19.cell? ⟨gb106, 2, none⟩ = some (.int .i64 0) := (blk_cell BK106.out 2).trans rfl; have hfz20_0 := blk_frozen BK106.out 0; have hfz20_1 := blk_frozen BK106.out 1; have hfz20_2 := blk_frozen BK106.out 2))
           have n0_ : Aside0 ((((w19.setCell ⟨gb106, 0, none⟩ (.int .i64 ((rd_T33 l0 x7_1).f0))).setCell ⟨gb106, 1, none⟩ (.int .i64 ((rd_T33 l0 x7_1).f1))).setCell ⟨gb106, 2, none⟩ (.int .i64 ((rd_T33 l0 x7_1).f2))).heap[gb106]? = some (.cells #[.int .i64 ((rd_T33 l0 x7_1).f0), .int .i64 ((rd_T33 l0 x7_1).f1), .int .i64 ((rd_T33 l0 x7_1).f2)] 33 (0, 0))) := ⟨by (with_reducible repeat (first | refine blk_drewN ?_ _ | refine blk_drew ?_ | refine blk_alloc ?_ _)); refine blk_put (cs := #[.int .i64 ((rd_T33 l0 x7_1).f0), .int .i64 ((rd_T33 l0 x7_1).f1), .int .i64 0]) ?_ 2 _ rfl; (with_reducible repeat (first | refine blk_drewN ?_ _ | refine blk_drew ?_ | refine blk_alloc ?_ _)); refine blk_put (cs := #[.int .i64 ((rd_T33 l0 x7_1).f0), .int .i64 0, .int .i64 0]) ?_ 1 _ rfl; (with_reducible repeat (first | refine blk_drewN ?_ _ | refine blk_drew ?_ | refine blk_alloc ?_ _)); refine blk_put (cs := #[.int .i64 0, .int .i64 0, .int .i64 0]) ?_ 0 _ rfl; (with_reducible repeat (first | refine blk_drewN ?_ _ | refine blk_drew ?_ | refine blk_alloc ?_ _)); exact BK106.out⟩
           have n1_ : Aside0 (Below w.heap.size w (((w19.setCell ⟨gb106, 0, none⟩ (.int .i64 ((rd_T33 l0 x7_1).f0))).setCell ⟨gb106, 1, none⟩ (.int .i64 ((rd_T33 l0 x7_1).f1))).setCell ⟨gb106, 2, none⟩ (.int .i64 ((rd_T33 l0 x7_1).f2)))) := ⟨by repeat (first | (with_reducible first | exact HB.out | apply below_alloc | apply pw_below_drewN | apply below_drew1 | refine below_set ?_ GE106.out) | exact HB.out)⟩
           (try clear BK106)
           (try clear HB)
           generalize (((w19.setCell ⟨gb106, 0, none⟩ (.int .i64 ((rd_T33 l0 x7_1).f0))).setCell ⟨gb106, 1, none⟩ (.int .i64 ((rd_T33 l0 x7_1).f1))).setCell ⟨gb106, 2, none⟩ (.int .i64 ((rd_T33 l0 x7_1).f2))) = w21 at n0_ n1_ ⊢
           have BK106 := n0_
           have HB := n1_
           clear n0_ n1_
           have n0_ := Aside0.mk (blk_drew BK106.out)
           have n1_ := Aside0.mk (below_drew1 HB.out)
           clear BK106
           clear HB
           have BK106 := n0_
           have HB := n1_
           clear n0_ n1_
           have p108 : 0 ≤ ((ji8) : Int) := of_decide_eq_true (by first | (with_reducible assumption) | assumption)
           have q108 : (ji8) < (l0.length : Int) := of_decide_eq_true (by first | (with_reducible assumption) | assumption)
           obtain ⟨ad108, e108, hx108_0, hx108_1, hx108_2⟩ := at_T33 HR0.out (ji8) p108 q108
           have hw108_2 := hx108_2
           have hw108_1 := hx108_1
           have hw108_0 := hx108_0
           obtain rfl : ad105 = ad108 := (by injection e108)
           replace hx108_0 := (HB.out.cell (World.block_lt_of_cell? w _ hx108_0)).trans hx108_0
           replace hx108_1 := (HB.out.cell (World.block_lt_of_cell? w _ hx108_1)).trans hx108_1
           replace hx108_2 := (HB.out.cell (World.block_lt_of_cell? w _ hx108_2)).trans hx108_2
           replace p108 := eq_true p108
           replace q108 := eq_true q108
           refine start_ (n := 18) (S := fun w' => w'.cell? ⟨gb106, 0, none⟩ = some (.int .i64 ((rd_T33 l0 x7_1).f0)) ∧ w'.cell? ⟨gb106, 1, none⟩ = some (.int .i64 ((rd_T33 l0 x7_1).f1)) ∧ w'.cell? ⟨gb106, 2, none⟩ = some (.int .i64 ((rd_T33 l0 x7_1).f2)) ∧ w'.cell? (ad105.add (((ji8)).toNat * 3)) = some (.int .i64 ((rd_T33 l0 (ji8)).f0)) ∧ w'.cell? ⟨(ad105.add (((ji8)).toNat * 3)).block, (ad105.add (((ji8)).toNat * 3)).off + 1, none⟩ = some (.int .i64 ((rd_T33 l0 (ji8)).f1)) ∧ w'.cell? ⟨(ad105.add (((ji8)).toNat * 3)).block, (ad105.add (((ji8)).toNat * 3)).off + 2, none⟩ = some (.int .i64 ((rd_T33 l0 (ji8)).f2))) (ds := []) #[false, false, false, false, false, false, false, false, false, false, false, false, false, false, false, false, false, false] (by kernel_rfl) rfl rfl ⟨(blk_cell BK106.out 0).trans rfl, (blk_cell BK106.out 1).trans rfl, (blk_cell BK106.out 2).trans rfl, ((HB.out.cell (World.block_lt_of_cell? w _ hw108_0)).trans hw108_0), ((HB.out.cell (World.block_lt_of_cell? w _ hw108_1)).trans hw108_1), ((HB.out.cell (World.block_lt_of_cell? w _ hw108_2)).trans hw108_2)⟩ (fun hHeld => ?_); refine with_tabW extent_Valid.tab4 extent_Valid.bits4 (fun HT_ HW_ => ?_)
           generalize w21.drew = w22 at BK106 HB hx108_0 hx108_1 hx108_2 hHeld ⊢
           refine take_ (i := 0) (N := some 12) (v := ?_) (a' := ?_) #[true, false, false, false, false, false, false, false, false, false, false, false, false, false, false, false, false, false] rfl rfl (take_ofW HT_.out HW_.out (by kernel_rfl)) (fun _ _ _ h => h) (Or.inl ⟨by rfl, ?_⟩) hHeld ?_ ?_
           rotate_left
           ·
            rintro w' ⟨s0, s1, s2, s3, s4, s5⟩
            go_simp; with_reducible rfl
           rotate_left
           ·
            simp only [AP]; rfl
           refine one_ (i := 1) (N := some 13) #[true, true, false, false, false, false, false, false, false, false, false, false, false, false, false, false, false, false] rfl rfl (one_of HT_.out (by kernel_rfl)) (by decide) (fun K hK => ?_)
           refine goes_ Try.func34 (by kernel_rfl) rfl #[.agg #[.int .i64 ((rd_T33 l0 x7_1).f0), .int .i64 ((rd_T33 l0 x7_1).f1), .int .i64 ((rd_T33 l0 x7_1).f2)]] (by rfl) rfl rfl (by (try simp only [List.map_toArray, List.map_cons, List.map_nil]); first | done | rfl | (simp only [List.length_drop, List.length_take]; rfl)) ?_
           with_reducible refine (extent_proper.calls ((rd_T33 l0 x7_1).f0) ((rd_T33 l0 x7_1).f1) ((rd_T33 l0 x7_1).f2) true _ A5.out).mono ?_
           rintro e w23 ⟨rfl, hb⟩
           refine ⟨_, rfl, ?_⟩
           have n0_ := Aside0.mk (blk_below (g := gb106) (o := .cells #[.int .i64 ((rd_T33 l0 x7_1).f0), .int .i64 ((rd_T33 l0 x7_1).f1), .int .i64 ((rd_T33 l0 x7_1).f2)] 33 (0, 0)) (kU BK106.out) hb)
           have n1_ := Aside0.mk (below_step (by repeat (first | (with_reducible first | exact HB.out | apply below_alloc | apply pw_below_drewN | apply below_drew1 | refine below_set ?_ GE106.out) | exact HB.out)) hb)
           clear BK106
           clear HB
           have BK106 := n0_
           have HB := n1_
           clear n0_ n1_
           (try clear hb)
           (try clear hb2)
           (try clear hk)
           (try clear hi)
           refine hK.out _ _ ⟨(blk_cell BK106.out 0).trans rfl, (blk_cell BK106.out 1).trans rfl, (blk_cell BK106.out 2).trans rfl, ((HB.out.cell (World.block_lt_of_cell? w _ hw108_0)).trans hw108_0), ((HB.out.cell (World.block_lt_of_cell? w _ hw108_1)).trans hw108_1), ((HB.out.cell (World.block_lt_of_cell? w _ hw108_2)).trans hw108_2)⟩ (fun hHeld => ?_)
           clear hK K
           refine norm_ (a' := ?_) ?_ ?_
           rotate_left
           ·
            show Act.put _ (some 13) _ = _
            simp only [AP]; rfl
           refine pure_ (i := 2) (N := some 14) (v := ?_) (a' := ?_) #[true, true, true, false, false, false, false, false, false, false, false, false, false, false, false, false, false, false] rfl rfl (any_of HT_.out (by kernel_rfl)) (fun _ _ _ h => h) (Or.inl ⟨by rfl, ?_⟩) ?_ ?_
           rotate_left
           ·
            intro w'; go_simp; with_reducible rfl
           rotate_left
           ·
            simp only [AP]; rfl
           refine pure_ (i := 3) (N := some 15) (v := ?_) (a' := ?_) #[true, true, true, true, false, false, false, false, false, false, false, false, false, false, false, false, false, false] rfl rfl (any_of HT_.out (by kernel_rfl)) (fun _ _ _ h => h) (Or.inl ⟨by rfl, ?_⟩) ?_ ?_
           rotate_left
           ·
            intro w'; go_simp; with_reducible rfl
           rotate_left
           ·
            simp only [AP]; rfl
           refine pure_ (i := 4) (N := some 16) (v := ?_) (a' := ?_) #[true, true, true, true, true, false, false, false, false, false, false, false, false, false, false, false, false, false] rfl rfl (any_of HT_.out (by kernel_rfl)) (fun _ _ _ h => h) (Or.inl ⟨by rfl, ?_⟩) ?_ ?_
           rotate_left
           ·
            intro w'; go_simp; with_reducible rfl
           rotate_left
           ·
            simp only [AP]; rfl
           refine pure_ (i := 5) (N := some 17) (v := ?_) (a' := ?_) #[true, true, true, true, true, true, false, false, false, false, false, false, false, false, false, false, false, false] rfl rfl (any_of HT_.out (by kernel_rfl)) (fun _ _ _ h => h) (Or.inl ⟨by rfl, ?_⟩) ?_ ?_
           rotate_left
           ·
            intro w'; go_simp; with_reducible rfl
           rotate_left
           ·
            simp only [AP]; rfl
           refine pure_ (i := 6) (N := some 18) (v := ?_) (a' := ?_) #[true, true, true, true, true, true, true, false, false, false, false, false, false, false, false, false, false, false] rfl rfl (any_of HT_.out (by kernel_rfl)) (fun _ _ _ h => h) (Or.inl ⟨by rfl, ?_⟩) ?_ ?_
           rotate_left
           ·
            intro w'; go_simp; with_reducible rfl
           rotate_left
           ·
            simp only [AP]; rfl
           refine pure_ (i := 7) (N := some 19) (v := ?_) (a' := ?_) #[true, true, true, true, true, true, true, true, false, false, false, false, false, false, false, false, false, false] rfl rfl (any_of HT_.out (by kernel_rfl)) (fun _ _ _ h => h) (Or.inl ⟨by rfl, ?_⟩) ?_ ?_
           rotate_left
           ·
            intro w'; go_simp; with_reducible rfl
           rotate_left
           ·
            simp only [AP]; rfl
           refine pure_ (i := 9) (N := some 21) (v := ?_) (a' := ?_) #[true, true, true, true, true, true, true, true, false, true, false, false, false, false, false, false, false, false] rfl rfl (any_of HT_.out (by kernel_rfl)) (fun _ _ _ h => h) (Or.inl ⟨by rfl, ?_⟩) ?_ ?_
           rotate_left
           ·
            intro w'; go_simp; with_reducible rfl
           rotate_left
           ·
            simp only [AP]; rfl
           refine pure_ (i := 10) (N := some 22) (v := ?_) (a' := ?_) #[true, true, true, true, true, true, true, true, false, true, true, false, false, false, false, false, false, false] rfl rfl (any_of HT_.out (by kernel_rfl)) (fun _ _ _ h => h) (Or.inl ⟨by rfl, ?_⟩) ?_ ?_
           rotate_left
           ·
            intro w'; go_simp; with_reducible rfl
           rotate_left
           ·
            simp only [AP]; rfl
           refine pure_ (i := 11) (N := some 23) (v := ?_) (a' := ?_) #[true, true, true, true, true, true, true, true, false, true, true, true, false, false, false, false, false, false] rfl rfl (any_of HT_.out (by kernel_rfl)) (fun _ _ _ h => h) (Or.inl ⟨by rfl, ?_⟩) ?_ ?_
           rotate_left
           ·
            intro w'; go_simp; with_reducible rfl
           rotate_left
           ·
            simp only [AP]; rfl
           refine pure_ (i := 12) (N := some 24) (v := ?_) (a' := ?_) #[true, true, true, true, true, true, true, true, false, true, true, true, true, false, false, false, false, false] rfl rfl (any_of HT_.out (by kernel_rfl)) (fun _ _ _ h => h) (Or.inl ⟨by rfl, ?_⟩) ?_ ?_
           rotate_left
           ·
            intro w'; go_simp; with_reducible rfl
           rotate_left
           ·
            simp only [AP]; rfl
           refine take_ (i := 8) (N := some 20) (v := ?_) (a' := ?_) #[true, true, true, true, true, true, true, true, true, true, true, true, true, false, false, false, false, false] rfl rfl (take_ofW HT_.out HW_.out (by kernel_rfl)) (fun _ _ _ h => h) (Or.inl ⟨by rfl, ?_⟩) hHeld ?_ ?_
           rotate_left
           ·
            rintro w' ⟨s0, s1, s2, s3, s4, s5⟩
            go_simp; with_reducible rfl
           rotate_left
           ·
            simp only [AP]; rfl
           refine take_ (i := 13) (N := some 25) (v := ?_) (a' := ?_) #[true, true, true, true, true, true, true, true, true, true, true, true, true, true, false, false, false, false] rfl rfl (take_ofW HT_.out HW_.out (by kernel_rfl)) (fun _ _ _ h => h) (Or.inl ⟨by rfl, ?_⟩) hHeld ?_ ?_
           rotate_left
           ·
            rintro w' ⟨s0, s1, s2, s3, s4, s5⟩
            go_simp; with_reducible rfl
           rotate_left
           ·
            simp only [AP]; rfl
           refine one_ (i := 14) (N := some 26) #[true, true, true, true, true, true, true, true, true, true, true, true, true, true, true, false, false, false] rfl rfl (one_of HT_.out (by kernel_rfl)) (by decide) (fun K hK => ?_)
           refine goes_ Try.func35 (by kernel_rfl) rfl #[.agg #[.int .i64 ((rd_T33 l0 (ji8)).f0), .int .i64 ((rd_T33 l0 (ji8)).f1), .int .i64 ((rd_T33 l0 (ji8)).f2)]] (by rfl) rfl rfl (by (try simp only [List.map_toArray, List.map_cons, List.map_nil]); first | done | (simp only [hji8]; rfl) | rfl | (simp only [List.length_drop, List.length_take]; rfl)) ?_
           with_reducible refine (extent_end.calls ((rd_T33 l0 (ji8)).f0) ((rd_T33 l0 (ji8)).f1) ((rd_T33 l0 (ji8)).f2) t109 _ A11.out).mono ?_
           rintro e w24 ⟨rfl, hb⟩
           refine ⟨_, rfl, ?_⟩
           have n0_ := Aside0.mk (blk_below (g := gb106) (o := .cells #[.int .i64 ((rd_T33 l0 x7_1).f0), .int .i64 ((rd_T33 l0 x7_1).f1), .int .i64 ((rd_T33 l0 x7_1).f2)] 33 (0, 0)) (kU BK106.out) hb)
           have n1_ := Aside0.mk (below_step (by repeat (first | (with_reducible first | exact HB.out | apply below_alloc | apply pw_below_drewN | apply below_drew1 | refine below_set ?_ GE106.out) | exact HB.out)) hb)
           clear BK106
           clear HB
           have BK106 := n0_
           have HB := n1_
           clear n0_ n1_
           (try clear hb)
           (try clear hb2)
           (try clear hk)
           (try clear hi)
           refine hK.out _ _ ⟨(blk_cell BK106.out 0).trans rfl, (blk_cell BK106.out 1).trans rfl, (blk_cell BK106.out 2).trans rfl, ((HB.out.cell (World.block_lt_of_cell? w _ hw108_0)).trans hw108_0), ((HB.out.cell (World.block_lt_of_cell? w _ hw108_1)).trans hw108_1), ((HB.out.cell (World.block_lt_of_cell? w _ hw108_2)).trans hw108_2)⟩ (fun hHeld => ?_)
           clear hK K
           refine norm_ (a' := ?_) ?_ ?_
           rotate_left
           ·
            show Act.put _ (some 26) _ = _
            simp only [AP]; rfl
           refine pure_ (i := 15) (N := some 27) (v := ?_) (a' := ?_) #[true, true, true, true, true, true, true, true, true, true, true, true, true, true, true, true, false, false] rfl rfl (any_of HT_.out (by kernel_rfl)) (fun _ _ _ h => h) (Or.inl ⟨by rfl, ?_⟩) ?_ ?_
           rotate_left
           ·
            intro w'; go_simp; with_reducible rfl
           rotate_left
           ·
            simp only [AP]; rfl
           refine pure_ (i := 16) (N := some 28) (v := ?_) (a' := ?_) #[true, true, true, true, true, true, true, true, true, true, true, true, true, true, true, true, true, false] rfl rfl (any_of HT_.out (by kernel_rfl)) (fun _ _ _ h => h) (Or.inl ⟨by rfl, ?_⟩) ?_ ?_
           rotate_left
           ·
            intro w'; go_simp; with_reducible rfl
           rotate_left
           ·
            simp only [AP]; rfl
           refine pure_ (i := 17) (N := some 29) (v := ?_) (a' := ?_) #[true, true, true, true, true, true, true, true, true, true, true, true, true, true, true, true, true, true] rfl rfl (any_of HT_.out (by kernel_rfl)) (fun _ _ _ h => h) (Or.inl ⟨by rfl, ?_⟩) ?_ ?_
           rotate_left
           ·
            intro w'; go_simp; with_reducible rfl
           rotate_left
           ·
            simp only [AP]; rfl
           refine done_ (done_of HT_.out (by kernel_rfl)) ?_
           try go_wp2
           go_roundg k1
           case measure => have := HK1.out; omega
           case rel => exact ⟨(wrap64 (x7_1 + 1)), (by first | rfl | (simp; done) | (simp [*]; done)), H', ⟨by have := HK1.out; omega⟩, ⟨by repeat (first | (with_reducible first | exact HB.out | apply below_alloc | apply pw_below_drewN | apply below_drew1 | refine below_set ?_ GE106.out) | exact HB.out)⟩⟩
         ·
          rw [if_neg c10] at H
          exact absurd H (by simp)
        ·
         rw [if_neg c9] at H
         exact absurd H (by simp)
       ·
        rw [if_neg c7] at H
        have c7b0 := decide_eq_false c7
        clear c7
        have H' := Aside0.mk H
        clear H
        have p105 : 0 ≤ (x7_1 : Int) := of_decide_eq_true (by first | (with_reducible assumption) | assumption)
        have q105 : x7_1 < (l0.length : Int) := of_decide_eq_true (by first | (with_reducible assumption) | assumption)
        obtain ⟨ad105, e105, hx105_0, hx105_1, hx105_2⟩ := at_T33 HR0.out x7_1 p105 q105
        cases e105
        replace hx105_0 := (HB.out.cell (World.block_lt_of_cell? w _ hx105_0)).trans hx105_0
        replace hx105_1 := (HB.out.cell (World.block_lt_of_cell? w _ hx105_1)).trans hx105_1
        replace hx105_2 := (HB.out.cell (World.block_lt_of_cell? w _ hx105_2)).trans hx105_2
        replace p105 := eq_true p105
        replace q105 := eq_true q105
        try go_wp2_with (first | ((with_reducible refine gate_dst (N := 4) rfl ?_); refine box_event ?hg (N := 4) ?hd (cs := #[.int .i64 0, .int .i64 0, .int .i64 0]) (t := 33) ?hr ?_; (case hd => rfl); (case hg => rfl); (case hr => first | (go_simp; done) | (go_simp; rfl)); intro gb106 hg w25 hbox hb; have BK106 := Aside0.mk (hbox); have GW106 := Aside0.mk ((by rw [hg]; exact (below_size (bU HB.out)) : w.heap.size ≤ gb106)); have GE106 := Aside0.mk ((by rw [hg]; exact (below_size (bU HB.out)) : w.heap.size ≤ gb106)); replace HB := Aside0.mk (below_step (bU HB.out) hb); clear hb hbox hg; have hcz26_0 : w25.cell? ⟨gb106, 0, none⟩ = some (.int .i64 0) := (blk_cell BK106.out 0).trans rfl; have hcz26_1 : w25.cell? ⟨gb106, 1, none⟩ = some (.int .i64 0) := (blk_cell BK106.out 1).trans rfl; have hcz26_2 : w25.cell? ⟨gb106, 2, none⟩ = some (.int .i64 0) := (blk_cell BK106.out 2).trans rfl; have hfz26_0 := blk_frozen BK106.out 0; have hfz26_1 := blk_frozen BK106.out 1; have hfz26_2 := blk_frozen BK106.out 2))
        have n0_ : Aside0 ((((w25.setCell ⟨gb106, 0, none⟩ (.int .i64 ((rd_T33 l0 x7_1).f0))).setCell ⟨gb106, 1, none⟩ (.int .i64 ((rd_T33 l0 x7_1).f1))).setCell ⟨gb106, 2, none⟩ (.int .i64 ((rd_T33 l0 x7_1).f2))).heap[gb106]? = some (.cells #[.int .i64 ((rd_T33 l0 x7_1).f0), .int .i64 ((rd_T33 l0 x7_1).f1), .int .i64 ((rd_T33 l0 x7_1).f2)] 33 (0, 0))) := ⟨by (with_reducible repeat (first | refine blk_drewN ?_ _ | refine blk_drew ?_ | refine blk_alloc ?_ _)); refine blk_put (cs := #[.int .i64 ((rd_T33 l0 x7_1).f0), .int .i64 ((rd_T33 l0 x7_1).f1), .int .i64 0]) ?_ 2 _ rfl; (with_reducible repeat (first | refine blk_drewN ?_ _ | refine blk_drew ?_ | refine blk_alloc ?_ _)); refine blk_put (cs := #[.int .i64 ((rd_T33 l0 x7_1).f0), .int .i64 0, .int .i64 0]) ?_ 1 _ rfl; (with_reducible repeat (first | refine blk_drewN ?_ _ | refine blk_drew ?_ | refine blk_alloc ?_ _)); refine blk_put (cs := #[.int .i64 0, .int .i64 0, .int .i64 0]) ?_ 0 _ rfl; (with_reducible repeat (first | refine blk_drewN ?_ _ | refine blk_drew ?_ | refine blk_alloc ?_ _)); exact BK106.out⟩
        have n1_ : Aside0 (Below w.heap.size w (((w25.setCell ⟨gb106, 0, none⟩ (.int .i64 ((rd_T33 l0 x7_1).f0))).setCell ⟨gb106, 1, none⟩ (.int .i64 ((rd_T33 l0 x7_1).f1))).setCell ⟨gb106, 2, none⟩ (.int .i64 ((rd_T33 l0 x7_1).f2)))) := ⟨by repeat (first | (with_reducible first | exact HB.out | apply below_alloc | apply pw_below_drewN | apply below_drew1 | refine below_set ?_ GE106.out) | exact HB.out)⟩
        (try clear BK106)
        (try clear HB)
        generalize (((w25.setCell ⟨gb106, 0, none⟩ (.int .i64 ((rd_T33 l0 x7_1).f0))).setCell ⟨gb106, 1, none⟩ (.int .i64 ((rd_T33 l0 x7_1).f1))).setCell ⟨gb106, 2, none⟩ (.int .i64 ((rd_T33 l0 x7_1).f2))) = w27 at n0_ n1_ ⊢
        have BK106 := n0_
        have HB := n1_
        clear n0_ n1_
        have n0_ := Aside0.mk (blk_drew BK106.out)
        have n1_ := Aside0.mk (below_drew1 HB.out)
        clear BK106
        clear HB
        have BK106 := n0_
        have HB := n1_
        clear n0_ n1_
        refine start_ (n := 18) (S := fun w' => w'.cell? ⟨gb106, 0, none⟩ = some (.int .i64 ((rd_T33 l0 x7_1).f0)) ∧ w'.cell? ⟨gb106, 1, none⟩ = some (.int .i64 ((rd_T33 l0 x7_1).f1)) ∧ w'.cell? ⟨gb106, 2, none⟩ = some (.int .i64 ((rd_T33 l0 x7_1).f2))) (ds := []) #[false, false, false, false, false, false, false, false, false, false, false, false, false, false, false, false, false, false] (by kernel_rfl) rfl rfl ⟨(blk_cell BK106.out 0).trans rfl, (blk_cell BK106.out 1).trans rfl, (blk_cell BK106.out 2).trans rfl⟩ (fun hHeld => ?_); refine with_tabW extent_Valid.tab4 extent_Valid.bits4 (fun HT_ HW_ => ?_)
        generalize w27.drew = w28 at BK106 HB hHeld ⊢
        refine take_ (i := 0) (N := some 12) (v := ?_) (a' := ?_) #[true, false, false, false, false, false, false, false, false, false, false, false, false, false, false, false, false, false] rfl rfl (take_ofW HT_.out HW_.out (by kernel_rfl)) (fun _ _ _ h => h) (Or.inl ⟨by rfl, ?_⟩) hHeld ?_ ?_
        rotate_left
        ·
         rintro w' ⟨s0, s1, s2⟩
         go_simp; with_reducible rfl
        rotate_left
        ·
         simp only [AP]; rfl
        refine one_ (i := 1) (N := some 13) #[true, true, false, false, false, false, false, false, false, false, false, false, false, false, false, false, false, false] rfl rfl (one_of HT_.out (by kernel_rfl)) (by decide) (fun K hK => ?_)
        refine goes_ Try.func34 (by kernel_rfl) rfl #[.agg #[.int .i64 ((rd_T33 l0 x7_1).f0), .int .i64 ((rd_T33 l0 x7_1).f1), .int .i64 ((rd_T33 l0 x7_1).f2)]] (by rfl) rfl rfl (by (try simp only [List.map_toArray, List.map_cons, List.map_nil]); first | done | rfl | (simp only [List.length_drop, List.length_take]; rfl)) ?_
        with_reducible refine (extent_proper.calls ((rd_T33 l0 x7_1).f0) ((rd_T33 l0 x7_1).f1) ((rd_T33 l0 x7_1).f2) true _ A5.out).mono ?_
        rintro e w29 ⟨rfl, hb⟩
        refine ⟨_, rfl, ?_⟩
        have n0_ := Aside0.mk (blk_below (g := gb106) (o := .cells #[.int .i64 ((rd_T33 l0 x7_1).f0), .int .i64 ((rd_T33 l0 x7_1).f1), .int .i64 ((rd_T33 l0 x7_1).f2)] 33 (0, 0)) (kU BK106.out) hb)
        have n1_ := Aside0.mk (below_step (by repeat (first | (with_reducible first | exact HB.out | apply below_alloc | apply pw_below_drewN | apply below_drew1 | refine below_set ?_ GE106.out) | exact HB.out)) hb)
        clear BK106
        clear HB
        have BK106 := n0_
        have HB := n1_
        clear n0_ n1_
        (try clear hb)
        (try clear hb2)
        (try clear hk)
        (try clear hi)
        refine hK.out _ _ ⟨(blk_cell BK106.out 0).trans rfl, (blk_cell BK106.out 1).trans rfl, (blk_cell BK106.out 2).trans rfl⟩ (fun hHeld => ?_)
        clear hK K
        refine norm_ (a' := ?_) ?_ ?_
        rotate_left
        ·
         show Act.put _ (some 13) _ = _
         simp only [AP]; rfl
        refine pure_ (i := 2) (N := some 14) (v := ?_) (a' := ?_) #[true, true, true, false, false, false, false, false, false, false, false, false, false, false, false, false, false, false] rfl rfl (any_of HT_.out (by kernel_rfl)) (fun _ _ _ h => h) (Or.inl ⟨by rfl, ?_⟩) ?_ ?_
        rotate_left
        ·
         intro w'; go_simp; with_reducible rfl
        rotate_left
        ·
         simp only [AP]; rfl
        refine pure_ (i := 3) (N := some 15) (v := ?_) (a' := ?_) #[true, true, true, true, false, false, false, false, false, false, false, false, false, false, false, false, false, false] rfl rfl (any_of HT_.out (by kernel_rfl)) (fun _ _ _ h => h) (Or.inl ⟨by rfl, ?_⟩) ?_ ?_
        rotate_left
        ·
         intro w'; go_simp; with_reducible rfl
        rotate_left
        ·
         simp only [AP]; rfl
        refine pure_ (i := 4) (N := some 16) (v := ?_) (a' := ?_) #[true, true, true, true, true, false, false, false, false, false, false, false, false, false, false, false, false, false] rfl rfl (any_of HT_.out (by kernel_rfl)) (fun _ _ _ h => h) (Or.inl ⟨by rfl, ?_⟩) ?_ ?_
        rotate_left
        ·
         intro w'; go_simp; with_reducible rfl
        rotate_left
        ·
         simp only [AP]; rfl
        refine pure_ (i := 5) (N := some 17) (v := ?_) (a' := ?_) #[true, true, true, true, true, true, false, false, false, false, false, false, false, false, false, false, false, false] rfl rfl (any_of HT_.out (by kernel_rfl)) (fun _ _ _ h => h) (Or.inl ⟨by rfl, ?_⟩) ?_ ?_
        rotate_left
        ·
         intro w'; go_simp; with_reducible rfl
        rotate_left
        ·
         simp only [AP]; rfl
        refine pure_ (i := 6) (N := some 18) (v := ?_) (a' := ?_) #[true, true, true, true, true, true, true, false, false, false, false, false, false, false, false, false, false, false] rfl rfl (any_of HT_.out (by kernel_rfl)) (fun _ _ _ h => h) (Or.inl ⟨by rfl, ?_⟩) ?_ ?_
        rotate_left
        ·
         intro w'; go_simp; with_reducible rfl
        rotate_left
        ·
         simp only [AP]; rfl
        refine pure_ (i := 7) (N := some 19) (v := undef) (a' := ?_) #[true, true, true, true, true, true, true, true, false, false, false, false, false, false, false, false, false, false] rfl rfl (any_of HT_.out (by kernel_rfl)) (fun _ _ _ h => h) (Or.inr ⟨by rfl, rfl⟩) ?_ ?_
        rotate_left
        ·
         simp only [AP]; rfl
        refine pure_ (i := 8) (N := some 20) (v := undef) (a' := ?_) #[true, true, true, true, true, true, true, true, true, false, false, false, false, false, false, false, false, false] rfl rfl (any_of HT_.out (by kernel_rfl)) (fun _ _ _ h => h) (Or.inr ⟨by rfl, rfl⟩) ?_ ?_
        rotate_left
        ·
         simp only [AP]; rfl
        refine pure_ (i := 9) (N := some 21) (v := undef) (a' := ?_) #[true, true, true, true, true, true, true, true, true, true, false, false, false, false, false, false, false, false] rfl rfl (any_of HT_.out (by kernel_rfl)) (fun _ _ _ h => h) (Or.inr ⟨by rfl, rfl⟩) ?_ ?_
        rotate_left
        ·
         simp only [AP]; rfl
        refine pure_ (i := 10) (N := some 22) (v := undef) (a' := ?_) #[true, true, true, true, true, true, true, true, true, true, true, false, false, false, false, false, false, false] rfl rfl (any_of HT_.out (by kernel_rfl)) (fun _ _ _ h => h) (Or.inr ⟨by rfl, rfl⟩) ?_ ?_
        rotate_left
        ·
         simp only [AP]; rfl
        refine pure_ (i := 11) (N := some 23) (v := undef) (a' := ?_) #[true, true, true, true, true, true, true, true, true, true, true, true, false, false, false, false, false, false] rfl rfl (any_of HT_.out (by kernel_rfl)) (fun _ _ _ h => h) (Or.inr ⟨by rfl, rfl⟩) ?_ ?_
        rotate_left
        ·
         simp only [AP]; rfl
        refine pure_ (i := 12) (N := some 24) (v := undef) (a' := ?_) #[true, true, true, true, true, true, true, true, true, true, true, true, true, false, false, false, false, false] rfl rfl (any_of HT_.out (by kernel_rfl)) (fun _ _ _ h => h) (Or.inr ⟨by rfl, rfl⟩) ?_ ?_
        rotate_left
        ·
         simp only [AP]; rfl
        refine pure_ (i := 13) (N := some 25) (v := undef) (a' := ?_) #[true, true, true, true, true, true, true, true, true, true, true, true, true, true, false, false, false, false] rfl rfl (any_of HT_.out (by kernel_rfl)) (fun _ _ _ h => h) (Or.inr ⟨by rfl, rfl⟩) ?_ ?_
        rotate_left
        ·
         simp only [AP]; rfl
        refine pure_ (i := 14) (N := some 26) (v := undef) (a' := ?_) #[true, true, true, true, true, true, true, true, true, true, true, true, true, true, true, false, false, false] rfl rfl (any_of HT_.out (by kernel_rfl)) (fun _ _ _ h => h) (Or.inr ⟨by rfl, rfl⟩) ?_ ?_
        rotate_left
        ·
         simp only [AP]; rfl
        refine pure_ (i := 15) (N := some 27) (v := undef) (a' := ?_) #[true, true, true, true, true, true, true, true, true, true, true, true, true, true, true, true, false, false] rfl rfl (any_of HT_.out (by kernel_rfl)) (fun _ _ _ h => h) (Or.inr ⟨by rfl, rfl⟩) ?_ ?_
        rotate_left
        ·
         simp only [AP]; rfl
        refine pure_ (i := 16) (N := some 28) (v := ?_) (a' := ?_) #[true, true, true, true, true, true, true, true, true, true, true, true, true, true, true, true, true, false] rfl rfl (any_of HT_.out (by kernel_rfl)) (fun _ _ _ h => h) (Or.inl ⟨by rfl, ?_⟩) ?_ ?_
        rotate_left
        ·
         intro w'; go_simp; with_reducible rfl
        rotate_left
        ·
         simp only [AP]; rfl
        refine pure_ (i := 17) (N := some 29) (v := ?_) (a' := ?_) #[true, true, true, true, true, true, true, true, true, true, true, true, true, true, true, true, true, true] rfl rfl (any_of HT_.out (by kernel_rfl)) (fun _ _ _ h => h) (Or.inl ⟨by rfl, ?_⟩) ?_ ?_
        rotate_left
        ·
         intro w'; go_simp; with_reducible rfl
        rotate_left
        ·
         simp only [AP]; rfl
        refine done_ (done_of HT_.out (by kernel_rfl)) ?_
        try go_wp2
        go_roundg k1
        case measure => have := HK1.out; omega
        case rel => exact ⟨(wrap64 (x7_1 + 1)), (by first | rfl | (simp; done) | (simp [*]; done)), H', ⟨by have := HK1.out; omega⟩, ⟨by repeat (first | (with_reducible first | exact HB.out | apply below_alloc | apply pw_below_drewN | apply below_drew1 | refine below_set ?_ GE106.out) | exact HB.out)⟩⟩
      ·
       replace c6 := Bool.eq_false_iff.mpr c6
       subst c6
       have H1 : (some false) = some r := by rw [if_neg (show ¬ (false = true) by decide)] at H; exact H
       clear H
       have H := H1
       clear H1
       obtain rfl := Option.some.inj H
       have p105 : 0 ≤ (x7_1 : Int) := of_decide_eq_true (by first | (with_reducible assumption) | assumption)
       have q105 : x7_1 < (l0.length : Int) := of_decide_eq_true (by first | (with_reducible assumption) | assumption)
       obtain ⟨ad105, e105, hx105_0, hx105_1, hx105_2⟩ := at_T33 HR0.out x7_1 p105 q105
       cases e105
       replace hx105_0 := (HB.out.cell (World.block_lt_of_cell? w _ hx105_0)).trans hx105_0
       replace hx105_1 := (HB.out.cell (World.block_lt_of_cell? w _ hx105_1)).trans hx105_1
       replace hx105_2 := (HB.out.cell (World.block_lt_of_cell? w _ hx105_2)).trans hx105_2
       replace p105 := eq_true p105
       replace q105 := eq_true q105
       try go_wp2_with (first | ((with_reducible refine gate_dst (N := 4) rfl ?_); refine box_event ?hg (N := 4) ?hd (cs := #[.int .i64 0, .int .i64 0, .int .i64 0]) (t := 33) ?hr ?_; (case hd => rfl); (case hg => rfl); (case hr => first | (go_simp; done) | (go_simp; rfl)); intro gb106 hg w30 hbox hb; have BK106 := Aside0.mk (hbox); have GW106 := Aside0.mk ((by rw [hg]; exact (below_size (bU HB.out)) : w.heap.size ≤ gb106)); have GE106 := Aside0.mk ((by rw [hg]; exact (below_size (bU HB.out)) : w.heap.size ≤ gb106)); replace HB := Aside0.mk (below_step (bU HB.out) hb); clear hb hbox hg; have hcz31_0 : w30.cell? ⟨gb106, 0, none⟩ = some (.int .i64 0) := (blk_cell BK106.out 0).trans rfl; have hcz31_1 : w30.cell? ⟨gb106, 1, none⟩ = some (.int .i64 0) := (blk_cell BK106.out 1).trans rfl; have hcz31_2 : w30.cell? ⟨gb106, 2, none⟩ = some (.int .i64 0) := (blk_cell BK106.out 2).trans rfl; have hfz31_0 := blk_frozen BK106.out 0; have hfz31_1 := blk_frozen BK106.out 1; have hfz31_2 := blk_frozen BK106.out 2))
       have n0_ : Aside0 ((((w30.setCell ⟨gb106, 0, none⟩ (.int .i64 ((rd_T33 l0 x7_1).f0))).setCell ⟨gb106, 1, none⟩ (.int .i64 ((rd_T33 l0 x7_1).f1))).setCell ⟨gb106, 2, none⟩ (.int .i64 ((rd_T33 l0 x7_1).f2))).heap[gb106]? = some (.cells #[.int .i64 ((rd_T33 l0 x7_1).f0), .int .i64 ((rd_T33 l0 x7_1).f1), .int .i64 ((rd_T33 l0 x7_1).f2)] 33 (0, 0))) := ⟨by (with_reducible repeat (first | refine blk_drewN ?_ _ | refine blk_drew ?_ | refine blk_alloc ?_ _)); refine blk_put (cs := #[.int .i64 ((rd_T33 l0 x7_1).f0), .int .i64 ((rd_T33 l0 x7_1).f1), .int .i64 0]) ?_ 2 _ rfl; (with_reducible repeat (first | refine blk_drewN ?_ _ | refine blk_drew ?_ | refine blk_alloc ?_ _)); refine blk_put (cs := #[.int .i64 ((rd_T33 l0 x7_1).f0), .int .i64 0, .int .i64 0]) ?_ 1 _ rfl; (with_reducible repeat (first | refine blk_drewN ?_ _ | refine blk_drew ?_ | refine blk_alloc ?_ _)); refine blk_put (cs := #[.int .i64 0, .int .i64 0, .int .i64 0]) ?_ 0 _ rfl; (with_reducible repeat (first | refine blk_drewN ?_ _ | refine blk_drew ?_ | refine blk_alloc ?_ _)); exact BK106.out⟩
       have n1_ : Aside0 (Below w.heap.size w (((w30.setCell ⟨gb106, 0, none⟩ (.int .i64 ((rd_T33 l0 x7_1).f0))).setCell ⟨gb106, 1, none⟩ (.int .i64 ((rd_T33 l0 x7_1).f1))).setCell ⟨gb106, 2, none⟩ (.int .i64 ((rd_T33 l0 x7_1).f2)))) := ⟨by repeat (first | (with_reducible first | exact HB.out | apply below_alloc | apply pw_below_drewN | apply below_drew1 | refine below_set ?_ GE106.out) | exact HB.out)⟩
       (try clear BK106)
       (try clear HB)
       generalize (((w30.setCell ⟨gb106, 0, none⟩ (.int .i64 ((rd_T33 l0 x7_1).f0))).setCell ⟨gb106, 1, none⟩ (.int .i64 ((rd_T33 l0 x7_1).f1))).setCell ⟨gb106, 2, none⟩ (.int .i64 ((rd_T33 l0 x7_1).f2))) = w32 at n0_ n1_ ⊢
       have BK106 := n0_
       have HB := n1_
       clear n0_ n1_
       have n0_ := Aside0.mk (blk_drew BK106.out)
       have n1_ := Aside0.mk (below_drew1 HB.out)
       clear BK106
       clear HB
       have BK106 := n0_
       have HB := n1_
       clear n0_ n1_
       refine start_ (n := 18) (S := fun w' => w'.cell? ⟨gb106, 0, none⟩ = some (.int .i64 ((rd_T33 l0 x7_1).f0)) ∧ w'.cell? ⟨gb106, 1, none⟩ = some (.int .i64 ((rd_T33 l0 x7_1).f1)) ∧ w'.cell? ⟨gb106, 2, none⟩ = some (.int .i64 ((rd_T33 l0 x7_1).f2))) (ds := []) #[false, false, false, false, false, false, false, false, false, false, false, false, false, false, false, false, false, false] (by kernel_rfl) rfl rfl ⟨(blk_cell BK106.out 0).trans rfl, (blk_cell BK106.out 1).trans rfl, (blk_cell BK106.out 2).trans rfl⟩ (fun hHeld => ?_); refine with_tabW extent_Valid.tab4 extent_Valid.bits4 (fun HT_ HW_ => ?_)
       generalize w32.drew = w33 at BK106 HB hHeld ⊢
       refine take_ (i := 0) (N := some 12) (v := ?_) (a' := ?_) #[true, false, false, false, false, false, false, false, false, false, false, false, false, false, false, false, false, false] rfl rfl (take_ofW HT_.out HW_.out (by kernel_rfl)) (fun _ _ _ h => h) (Or.inl ⟨by rfl, ?_⟩) hHeld ?_ ?_
       rotate_left
       ·
        rintro w' ⟨s0, s1, s2⟩
        go_simp; with_reducible rfl
       rotate_left
       ·
        simp only [AP]; rfl
       refine one_ (i := 1) (N := some 13) #[true, true, false, false, false, false, false, false, false, false, false, false, false, false, false, false, false, false] rfl rfl (one_of HT_.out (by kernel_rfl)) (by decide) (fun K hK => ?_)
       refine goes_ Try.func34 (by kernel_rfl) rfl #[.agg #[.int .i64 ((rd_T33 l0 x7_1).f0), .int .i64 ((rd_T33 l0 x7_1).f1), .int .i64 ((rd_T33 l0 x7_1).f2)]] (by rfl) rfl rfl (by (try simp only [List.map_toArray, List.map_cons, List.map_nil]); first | done | rfl | (simp only [List.length_drop, List.length_take]; rfl)) ?_
       with_reducible refine (extent_proper.calls ((rd_T33 l0 x7_1).f0) ((rd_T33 l0 x7_1).f1) ((rd_T33 l0 x7_1).f2) false _ A5.out).mono ?_
       rintro e w34 ⟨rfl, hb⟩
       refine ⟨_, rfl, ?_⟩
       have n0_ := Aside0.mk (blk_below (g := gb106) (o := .cells #[.int .i64 ((rd_T33 l0 x7_1).f0), .int .i64 ((rd_T33 l0 x7_1).f1), .int .i64 ((rd_T33 l0 x7_1).f2)] 33 (0, 0)) (kU BK106.out) hb)
       have n1_ := Aside0.mk (below_step (by repeat (first | (with_reducible first | exact HB.out | apply below_alloc | apply pw_below_drewN | apply below_drew1 | refine below_set ?_ GE106.out) | exact HB.out)) hb)
       clear BK106
       clear HB
       have BK106 := n0_
       have HB := n1_
       clear n0_ n1_
       (try clear hb)
       (try clear hb2)
       (try clear hk)
       (try clear hi)
       refine hK.out _ _ ⟨(blk_cell BK106.out 0).trans rfl, (blk_cell BK106.out 1).trans rfl, (blk_cell BK106.out 2).trans rfl⟩ (fun hHeld => ?_)
       clear hK K
       refine norm_ (a' := ?_) ?_ ?_
       rotate_left
       ·
        show Act.put _ (some 13) _ = _
        simp only [AP]; rfl
       refine pure_ (i := 2) (N := some 14) (v := ?_) (a' := ?_) #[true, true, true, false, false, false, false, false, false, false, false, false, false, false, false, false, false, false] rfl rfl (any_of HT_.out (by kernel_rfl)) (fun _ _ _ h => h) (Or.inl ⟨by rfl, ?_⟩) ?_ ?_
       rotate_left
       ·
        intro w'; go_simp; with_reducible rfl
       rotate_left
       ·
        simp only [AP]; rfl
       refine pure_ (i := 3) (N := some 15) (v := ?_) (a' := ?_) #[true, true, true, true, false, false, false, false, false, false, false, false, false, false, false, false, false, false] rfl rfl (any_of HT_.out (by kernel_rfl)) (fun _ _ _ h => h) (Or.inl ⟨by rfl, ?_⟩) ?_ ?_
       rotate_left
       ·
        intro w'; go_simp; with_reducible rfl
       rotate_left
       ·
        simp only [AP]; rfl
       refine pure_ (i := 4) (N := some 16) (v := undef) (a' := ?_) #[true, true, true, true, true, false, false, false, false, false, false, false, false, false, false, false, false, false] rfl rfl (any_of HT_.out (by kernel_rfl)) (fun _ _ _ h => h) (Or.inr ⟨by rfl, rfl⟩) ?_ ?_
       rotate_left
       ·
        simp only [AP]; rfl
       refine pure_ (i := 5) (N := some 17) (v := undef) (a' := ?_) #[true, true, true, true, true, true, false, false, false, false, false, false, false, false, false, false, false, false] rfl rfl (any_of HT_.out (by kernel_rfl)) (fun _ _ _ h => h) (Or.inr ⟨by rfl, rfl⟩) ?_ ?_
       rotate_left
       ·
        simp only [AP]; rfl
       refine pure_ (i := 6) (N := some 18) (v := undef) (a' := ?_) #[true, true, true, true, true, true, true, false, false, false, false, false, false, false, false, false, false, false] rfl rfl (any_of HT_.out (by kernel_rfl)) (fun _ _ _ h => h) (Or.inr ⟨by rfl, rfl⟩) ?_ ?_
       rotate_left
       ·
        simp only [AP]; rfl
       refine pure_ (i := 7) (N := some 19) (v := undef) (a' := ?_) #[true, true, true, true, true, true, true, true, false, false, false, false, false, false, false, false, false, false] rfl rfl (any_of HT_.out (by kernel_rfl)) (fun _ _ _ h => h) (Or.inr ⟨by rfl, rfl⟩) ?_ ?_
       rotate_left
       ·
        simp only [AP]; rfl
       refine pure_ (i := 8) (N := some 20) (v := undef) (a' := ?_) #[true, true, true, true, true, true, true, true, true, false, false, false, false, false, false, false, false, false] rfl rfl (any_of HT_.out (by kernel_rfl)) (fun _ _ _ h => h) (Or.inr ⟨by rfl, rfl⟩) ?_ ?_
       rotate_left
       ·
        simp only [AP]; rfl
       refine pure_ (i := 9) (N := some 21) (v := undef) (a' := ?_) #[true, true, true, true, true, true, true, true, true, true, false, false, false, false, false, false, false, false] rfl rfl (any_of HT_.out (by kernel_rfl)) (fun _ _ _ h => h) (Or.inr ⟨by rfl, rfl⟩) ?_ ?_
       rotate_left
       ·
        simp only [AP]; rfl
       refine pure_ (i := 10) (N := some 22) (v := undef) (a' := ?_) #[true, true, true, true, true, true, true, true, true, true, true, false, false, false, false, false, false, false] rfl rfl (any_of HT_.out (by kernel_rfl)) (fun _ _ _ h => h) (Or.inr ⟨by rfl, rfl⟩) ?_ ?_
       rotate_left
       ·
        simp only [AP]; rfl
       refine pure_ (i := 11) (N := some 23) (v := undef) (a' := ?_) #[true, true, true, true, true, true, true, true, true, true, true, true, false, false, false, false, false, false] rfl rfl (any_of HT_.out (by kernel_rfl)) (fun _ _ _ h => h) (Or.inr ⟨by rfl, rfl⟩) ?_ ?_
       rotate_left
       ·
        simp only [AP]; rfl
       refine pure_ (i := 12) (N := some 24) (v := undef) (a' := ?_) #[true, true, true, true, true, true, true, true, true, true, true, true, true, false, false, false, false, false] rfl rfl (any_of HT_.out (by kernel_rfl)) (fun _ _ _ h => h) (Or.inr ⟨by rfl, rfl⟩) ?_ ?_
       rotate_left
       ·
        simp only [AP]; rfl
       refine pure_ (i := 13) (N := some 25) (v := undef) (a' := ?_) #[true, true, true, true, true, true, true, true, true, true, true, true, true, true, false, false, false, false] rfl rfl (any_of HT_.out (by kernel_rfl)) (fun _ _ _ h => h) (Or.inr ⟨by rfl, rfl⟩) ?_ ?_
       rotate_left
       ·
        simp only [AP]; rfl
       refine pure_ (i := 14) (N := some 26) (v := undef) (a' := ?_) #[true, true, true, true, true, true, true, true, true, true, true, true, true, true, true, false, false, false] rfl rfl (any_of HT_.out (by kernel_rfl)) (fun _ _ _ h => h) (Or.inr ⟨by rfl, rfl⟩) ?_ ?_
       rotate_left
       ·
        simp only [AP]; rfl
       refine pure_ (i := 15) (N := some 27) (v := undef) (a' := ?_) #[true, true, true, true, true, true, true, true, true, true, true, true, true, true, true, true, false, false] rfl rfl (any_of HT_.out (by kernel_rfl)) (fun _ _ _ h => h) (Or.inr ⟨by rfl, rfl⟩) ?_ ?_
       rotate_left
       ·
        simp only [AP]; rfl
       refine pure_ (i := 16) (N := some 28) (v := undef) (a' := ?_) #[true, true, true, true, true, true, true, true, true, true, true, true, true, true, true, true, true, false] rfl rfl (any_of HT_.out (by kernel_rfl)) (fun _ _ _ h => h) (Or.inr ⟨by rfl, rfl⟩) ?_ ?_
       rotate_left
       ·
        simp only [AP]; rfl
       refine pure_ (i := 17) (N := some 29) (v := ?_) (a' := ?_) #[true, true, true, true, true, true, true, true, true, true, true, true, true, true, true, true, true, true] rfl rfl (any_of HT_.out (by kernel_rfl)) (fun _ _ _ h => h) (Or.inl ⟨by rfl, ?_⟩) ?_ ?_
       rotate_left
       ·
        intro w'; go_simp; with_reducible rfl
       rotate_left
       ·
        simp only [AP]; rfl
       refine done_ (done_of HT_.out (by kernel_rfl)) ?_
       try go_wp2
       go_ret
       exact ⟨by first | rfl | (simp [errW_none, errW_some] <;> rfl) | (simp [*, errW_none, errW_some] <;> rfl), by repeat (first | (with_reducible first | exact HB.out | apply below_alloc | apply pw_below_drewN | apply below_drew1 | refine below_set ?_ GE106.out) | exact HB.out)⟩
     ·
      rw [if_neg c4] at H
      exact absurd H (by simp)
    ·
     rw [if_neg c3] at H
     exact absurd H (by simp)
   ·
    rw [if_neg c2] at H
    have c2b0 := decide_eq_false c2
    clear c2
    obtain rfl := Option.some.inj H
    go_wp2
    go_ret
    exact ⟨by first | rfl | (simp [errW_none, errW_some] <;> rfl) | (simp [*, errW_none, errW_some] <;> rfl), bU HB.out⟩

end Go.Proofs.Ytcgihjpnemnkeaa.PExtentRuns
