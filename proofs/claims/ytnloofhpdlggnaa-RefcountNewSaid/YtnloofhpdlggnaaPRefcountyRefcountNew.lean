-- Written for this claim by a program of this session (wip/), out of the translation's own print: Lean checks it
import Derived.Test.YtnloofhpdlggnaaPRefcountx0
import Derived.Test.YtnloofhpdlggnaaWGuard
import Derived.Test.YtnloofhpdlggnaaPRefcountx2
import Derived.Test.YtnloofhpdlggnaaPRefcountx5
import Derived.Test.YtnloofhpdlggnaaPRefcountx6
import Derived.Test.YtnloofhpdlggnaaPRefcountx7
import Derived.Test.YtnloofhpdlggnaaPRefcountx8
import Derived.Test.YtnloofhpdlggnaaPRefcountx12
namespace Go.Proofs.Ytnloofhpdlggnaa.PRefcount
open Go.RowKit Go.Proofs.YtnloofhpdlggnaaW.PrintWords Go.Proofs.YtnloofhpdlggnaaW.PrintLast Go.Proofs.YtnloofhpdlggnaaW.PrintMore
attribute [local go_sem] max2_int min2_int max_two min_two max_three min_three max_four min_four   -- for this text's walks alone
set_option linter.unusedVariables false
set_option linter.unusedSimpArgs false

/-! ### tegulalaw34_RefcountNew: function 7 -/
mutual
def tegulalaw34_RefcountNew.j0 : Nat → Int → Int → Bool → List Int → Option (Bool)
 | 0, _, _, _, _ => none
 | k + 1, x0, x4, x44, x473000 => if x44 = true then (some false) else (if x0 < 0 then (tegulalaw34_RefcountNew.j1 k x0 x4 true x473000) else (tegulalaw34_RefcountNew.j1 k x0 x4 (decide (x0 > 65536)) x473000))
def tegulalaw34_RefcountNew.j1 : Nat → Int → Int → Bool → List Int → Option (Bool)
 | 0, _, _, _, _ => none
 | k + 1, x0, x4, x50, x473000 => if x50 = true then (some (x4 == 1)) else ((refcount_Counts_Zero.f k x473000).bind fun t488 => (if x4 = 0 then ((refcount_Counts_Slots.f x473000).bind fun t491 => (if t491 = x0 then ((refcount_Counts_Used.f x473000).bind fun t492 => (if t492 = 0 then (if x0 = 0 then (if (t488.length : Int) = 0 then (some true) else (if x0 > 0 then ((tegulalaw34_run.f 0 x0).bind fun t493 => ((tegularef32_Same.f k t488 t493).bind fun t496 => (some t496))) else (some false))) else (if x0 > 0 then ((tegulalaw34_run.f 0 x0).bind fun t497 => ((tegularef32_Same.f k t488 t497).bind fun t500 => (some t500))) else (some false))) else (some false))) else (some false))) else (some false)))
end
def tegulalaw34_RefcountNew.f (k : Nat) (a0 : Int) : Option (Bool) := (tegulalaw34_awake.f k).bind fun t467 => (if t467 = true then ((refcount_New.f a0).bind fun bt468 => ((tegulalaw34_run.f 0 1).bind fun t474 => ((refcount_Counts_Add.f k ([] : List Int) t474).bind fun bt477 => ((refcount_Counts_Slots.f ([] : List Int)).bind fun t482 => (if t482 = 0 then ((refcount_Counts_Used.f ([] : List Int)).bind fun t483 => (if t483 = 0 then ((refcount_Counts_Total.f ([] : List Int)).bind fun t484 => (if t484 = 0 then ((refcount_Counts_Zero.f k ([] : List Int)).bind fun t485 => (if (t485.length : Int) = 0 then (tegulalaw34_RefcountNew.j0 k a0 bt468.2 (bt477.2 != 2) bt468.1) else (tegulalaw34_RefcountNew.j0 k a0 bt468.2 true bt468.1))) else (tegulalaw34_RefcountNew.j0 k a0 bt468.2 true bt468.1))) else (tegulalaw34_RefcountNew.j0 k a0 bt468.2 true bt468.1))) else (tegulalaw34_RefcountNew.j0 k a0 bt468.2 true bt468.1)))))) else (some false))
theorem tegulalaw34_RefcountNew.mono_l : ∀ k, (∀ y0 y1 y2 y3, LeO (tegulalaw34_RefcountNew.j0 k y0 y1 y2 y3) (tegulalaw34_RefcountNew.j0 (k + 1) y0 y1 y2 y3)) ∧ (∀ y0 y1 y2 y3, LeO (tegulalaw34_RefcountNew.j1 k y0 y1 y2 y3) (tegulalaw34_RefcountNew.j1 (k + 1) y0 y1 y2 y3))
 | 0 => ⟨fun _ _ _ _ r h => by simp [tegulalaw34_RefcountNew.j0] at h, fun _ _ _ _ r h => by simp [tegulalaw34_RefcountNew.j1] at h⟩
 | k + 1 => by
  obtain ⟨ih0, ih1⟩ := tegulalaw34_RefcountNew.mono_l k
  refine ⟨?_, ?_⟩
  ·
   intro y0 y1 y2 y3
   unfold tegulalaw34_RefcountNew.j0
   repeat' first
   | (with_reducible exact ih0 _ _ _ _)
   | (with_reducible exact ih1 _ _ _ _)
   | (with_reducible exact refcount_Counts_Add.mono _ _ _)
   | (with_reducible exact refcount_Counts_Zero.mono _ _)
   | (with_reducible exact tegulalaw34_awake.mono _)
   | (with_reducible exact tegularef32_Same.mono _ _ _)
   | (with_reducible exact LeO.refl _)
   | (with_reducible exact LeO.none _)
   | (with_reducible refine LeO.ite ?_ ?_)
   | (with_reducible refine LeO.bind ?_ (fun _ => ?_))
   | exact ih0 _ _ _ _
   | exact ih1 _ _ _ _
   | exact refcount_Counts_Add.mono _ _ _
   | exact refcount_Counts_Zero.mono _ _
   | exact tegulalaw34_awake.mono _
   | exact tegularef32_Same.mono _ _ _
   | exact LeO.none _
   | refine LeO.ite ?_ ?_
   | refine LeO.bind ?_ (fun _ => ?_)
  ·
   intro y0 y1 y2 y3
   unfold tegulalaw34_RefcountNew.j1
   repeat' first
   | (with_reducible exact ih0 _ _ _ _)
   | (with_reducible exact ih1 _ _ _ _)
   | (with_reducible exact refcount_Counts_Add.mono _ _ _)
   | (with_reducible exact refcount_Counts_Zero.mono _ _)
   | (with_reducible exact tegulalaw34_awake.mono _)
   | (with_reducible exact tegularef32_Same.mono _ _ _)
   | (with_reducible exact LeO.refl _)
   | (with_reducible exact LeO.none _)
   | (with_reducible refine LeO.ite ?_ ?_)
   | (with_reducible refine LeO.bind ?_ (fun _ => ?_))
   | exact ih0 _ _ _ _
   | exact ih1 _ _ _ _
   | exact refcount_Counts_Add.mono _ _ _
   | exact refcount_Counts_Zero.mono _ _
   | exact tegulalaw34_awake.mono _
   | exact tegularef32_Same.mono _ _ _
   | exact LeO.none _
   | refine LeO.ite ?_ ?_
   | refine LeO.bind ?_ (fun _ => ?_)
theorem tegulalaw34_RefcountNew.mono : ∀ a0 k, LeO (tegulalaw34_RefcountNew.f k a0) (tegulalaw34_RefcountNew.f (k + 1) a0) := by
 intro a0 k
 obtain ⟨ih0, ih1⟩ := tegulalaw34_RefcountNew.mono_l k
 unfold tegulalaw34_RefcountNew.f
 repeat' first
   | (with_reducible exact ih0 _ _ _ _)
   | (with_reducible exact ih1 _ _ _ _)
   | (with_reducible exact refcount_Counts_Add.mono _ _ _)
   | (with_reducible exact refcount_Counts_Zero.mono _ _)
   | (with_reducible exact tegulalaw34_awake.mono _)
   | (with_reducible exact tegularef32_Same.mono _ _ _)
   | (with_reducible exact LeO.refl _)
   | (with_reducible exact LeO.none _)
   | (with_reducible refine LeO.ite ?_ ?_)
   | (with_reducible refine LeO.bind ?_ (fun _ => ?_))
   | exact ih0 _ _ _ _
   | exact ih1 _ _ _ _
   | exact refcount_Counts_Add.mono _ _ _
   | exact refcount_Counts_Zero.mono _ _
   | exact tegulalaw34_awake.mono _
   | exact tegularef32_Same.mono _ _ _
   | exact LeO.none _
   | refine LeO.ite ?_ ?_
   | refine LeO.bind ?_ (fun _ => ?_)
def tegulalaw34_RefcountNew.T5 : Bool × List (List Nat × List Nat) := (true, [([], []), ([], []), ([0, 1, 1], [0, 1]), ([2], [2]), ([3], [3]), ([3], [3]), ([], []), ([6, 4, 2, 0, 1, 2, 3, 4, 6], [4, 6]), ([5, 7, 0, 1, 2, 3, 4, 5, 6, 7], [5])])
def tegulalaw34_RefcountNew.B5 : List Nat := [0, 0, 3, 7, 15, 15, 0, 95, 255]
theorem tegulalaw34_RefcountNew.tab5 : rtab .any (opsOf Try.f7 5) = tegulalaw34_RefcountNew.T5 := by kernel_rfl
theorem tegulalaw34_RefcountNew.bits5 : waitsOk tegulalaw34_RefcountNew.T5.2 tegulalaw34_RefcountNew.B5 = true := by kernel_rfl
set_option maxHeartbeats 8000000 in
set_option maxRecDepth 100000 in
theorem tegulalaw34_RefcountNew.calls (k : Nat) (a0 : Int) (r : Bool) (w : World) (h : tegulalaw34_RefcountNew.f k a0 = some r) :
  Calls Try.prog 7 #[.int .i64 a0] w fun e w' => e = .returned (.bool r) ∧ Below w.heap.size w w' := by
 have hu27 := Try.underlying27
 have HB := Aside0.mk (Below.refl w.heap.size w)
 have H : ((tegulalaw34_awake.f k).bind fun t467 => (if t467 = true then ((refcount_New.f a0).bind fun bt468 => ((tegulalaw34_run.f 0 1).bind fun t474 => ((refcount_Counts_Add.f k ([] : List Int) t474).bind fun bt477 => ((refcount_Counts_Slots.f ([] : List Int)).bind fun t482 => (if t482 = 0 then ((refcount_Counts_Used.f ([] : List Int)).bind fun t483 => (if t483 = 0 then ((refcount_Counts_Total.f ([] : List Int)).bind fun t484 => (if t484 = 0 then ((refcount_Counts_Zero.f k ([] : List Int)).bind fun t485 => (if (t485.length : Int) = 0 then (tegulalaw34_RefcountNew.j0 k a0 bt468.2 (bt477.2 != 2) bt468.1) else (tegulalaw34_RefcountNew.j0 k a0 bt468.2 true bt468.1))) else (tegulalaw34_RefcountNew.j0 k a0 bt468.2 true bt468.1))) else (tegulalaw34_RefcountNew.j0 k a0 bt468.2 true bt468.1))) else (tegulalaw34_RefcountNew.j0 k a0 bt468.2 true bt468.1)))))) else (some false))) = some r := h
 clear h
 replace H := Option.bind_eq_some_iff.mp H
 obtain ⟨t467, A20, H⟩ := H
 replace H : (if t467 = true then ((refcount_New.f a0).bind fun bt468 => ((tegulalaw34_run.f 0 1).bind fun t474 => ((refcount_Counts_Add.f k ([] : List Int) t474).bind fun bt477 => ((refcount_Counts_Slots.f ([] : List Int)).bind fun t482 => (if t482 = 0 then ((refcount_Counts_Used.f ([] : List Int)).bind fun t483 => (if t483 = 0 then ((refcount_Counts_Total.f ([] : List Int)).bind fun t484 => (if t484 = 0 then ((refcount_Counts_Zero.f k ([] : List Int)).bind fun t485 => (if (t485.length : Int) = 0 then (tegulalaw34_RefcountNew.j0 k a0 bt468.2 (bt477.2 != 2) bt468.1) else (tegulalaw34_RefcountNew.j0 k a0 bt468.2 true bt468.1))) else (tegulalaw34_RefcountNew.j0 k a0 bt468.2 true bt468.1))) else (tegulalaw34_RefcountNew.j0 k a0 bt468.2 true bt468.1))) else (tegulalaw34_RefcountNew.j0 k a0 bt468.2 true bt468.1)))))) else (some false)) = some r := H
 have A2 := Aside0.mk A20
 clear A20
 by_cases c3 : t467 = true
 ·
  subst c3
  have H1 : ((refcount_New.f a0).bind fun bt468 => ((tegulalaw34_run.f 0 1).bind fun t474 => ((refcount_Counts_Add.f k ([] : List Int) t474).bind fun bt477 => ((refcount_Counts_Slots.f ([] : List Int)).bind fun t482 => (if t482 = 0 then ((refcount_Counts_Used.f ([] : List Int)).bind fun t483 => (if t483 = 0 then ((refcount_Counts_Total.f ([] : List Int)).bind fun t484 => (if t484 = 0 then ((refcount_Counts_Zero.f k ([] : List Int)).bind fun t485 => (if (t485.length : Int) = 0 then (tegulalaw34_RefcountNew.j0 k a0 bt468.2 (bt477.2 != 2) bt468.1) else (tegulalaw34_RefcountNew.j0 k a0 bt468.2 true bt468.1))) else (tegulalaw34_RefcountNew.j0 k a0 bt468.2 true bt468.1))) else (tegulalaw34_RefcountNew.j0 k a0 bt468.2 true bt468.1))) else (tegulalaw34_RefcountNew.j0 k a0 bt468.2 true bt468.1)))))) = some r := by rw [if_pos rfl] at H; exact H
  clear H
  have H := H1
  clear H1
  replace H := Option.bind_eq_some_iff.mp H
  obtain ⟨⟨t468, t471⟩, A40, H⟩ := H
  replace H : ((tegulalaw34_run.f 0 1).bind fun t474 => ((refcount_Counts_Add.f k ([] : List Int) t474).bind fun bt477 => ((refcount_Counts_Slots.f ([] : List Int)).bind fun t482 => (if t482 = 0 then ((refcount_Counts_Used.f ([] : List Int)).bind fun t483 => (if t483 = 0 then ((refcount_Counts_Total.f ([] : List Int)).bind fun t484 => (if t484 = 0 then ((refcount_Counts_Zero.f k ([] : List Int)).bind fun t485 => (if (t485.length : Int) = 0 then (tegulalaw34_RefcountNew.j0 k a0 t471 (bt477.2 != 2) t468) else (tegulalaw34_RefcountNew.j0 k a0 t471 true t468))) else (tegulalaw34_RefcountNew.j0 k a0 t471 true t468))) else (tegulalaw34_RefcountNew.j0 k a0 t471 true t468))) else (tegulalaw34_RefcountNew.j0 k a0 t471 true t468))))) = some r := H
  have A4 := Aside0.mk A40
  clear A40
  replace H := Option.bind_eq_some_iff.mp H
  obtain ⟨t474, A50, H⟩ := H
  replace H : ((refcount_Counts_Add.f k ([] : List Int) t474).bind fun bt477 => ((refcount_Counts_Slots.f ([] : List Int)).bind fun t482 => (if t482 = 0 then ((refcount_Counts_Used.f ([] : List Int)).bind fun t483 => (if t483 = 0 then ((refcount_Counts_Total.f ([] : List Int)).bind fun t484 => (if t484 = 0 then ((refcount_Counts_Zero.f k ([] : List Int)).bind fun t485 => (if (t485.length : Int) = 0 then (tegulalaw34_RefcountNew.j0 k a0 t471 (bt477.2 != 2) t468) else (tegulalaw34_RefcountNew.j0 k a0 t471 true t468))) else (tegulalaw34_RefcountNew.j0 k a0 t471 true t468))) else (tegulalaw34_RefcountNew.j0 k a0 t471 true t468))) else (tegulalaw34_RefcountNew.j0 k a0 t471 true t468)))) = some r := H
  have A5 := Aside0.mk A50
  clear A50
  replace H := Option.bind_eq_some_iff.mp H
  obtain ⟨⟨t477, t480⟩, A60, H⟩ := H
  replace H : ((refcount_Counts_Slots.f ([] : List Int)).bind fun t482 => (if t482 = 0 then ((refcount_Counts_Used.f ([] : List Int)).bind fun t483 => (if t483 = 0 then ((refcount_Counts_Total.f ([] : List Int)).bind fun t484 => (if t484 = 0 then ((refcount_Counts_Zero.f k ([] : List Int)).bind fun t485 => (if (t485.length : Int) = 0 then (tegulalaw34_RefcountNew.j0 k a0 t471 (t480 != 2) t468) else (tegulalaw34_RefcountNew.j0 k a0 t471 true t468))) else (tegulalaw34_RefcountNew.j0 k a0 t471 true t468))) else (tegulalaw34_RefcountNew.j0 k a0 t471 true t468))) else (tegulalaw34_RefcountNew.j0 k a0 t471 true t468))) = some r := H
  have A6 := Aside0.mk A60
  clear A60
  have HC7 := Aside0.mk H
  clear H
  go_enter Try.func7, Try.ntmps7
  try go_wp2_with (first | ((with_reducible refine gate_callee (f := 9) rfl ?_); refine goesL_ (some 9) rfl rfl Try.func9 (by kernel_rfl) rfl #[] rfl (by (try simp only [List.map_toArray, List.map_cons, List.map_nil]); first | done | rfl | (simp only [List.length_drop, List.length_take]; rfl)) ?_; (with_reducible refine (tegulalaw34_awake.calls k  true _ A2.out).mono ?_); rintro e w8 ⟨rfl, hb⟩; refine ⟨_, rfl, ?_⟩; have n0_ := Aside0.mk (below_step (bU HB.out) hb); clear HB; have HB := n0_; clear n0_; (try clear hb); (try clear hb2); (try clear hk); (try clear hi)) | ((with_reducible refine gate_callee (f := 22) rfl ?_); refine goesL_ (some 13) rfl rfl Try.func22 (by kernel_rfl) rfl #[.int .i64 a0] rfl (by (try simp only [List.map_toArray, List.map_cons, List.map_nil]); first | done | rfl | (simp only [List.length_drop, List.length_take]; rfl)) ?_; (with_reducible refine (refcount_New.calls a0 t468 t471 _ A4.out).mono ?_); rintro e w9 ⟨v469, rfl, ho0, hb⟩; refine ⟨_, rfl, ?_⟩; have n0_ := Aside0.mk (Kd.R_lower ho0 (below_size (bU HB.out))); have n1_ := Aside0.mk (below_step (bU HB.out) hb); clear HB; have HO470 := n0_; have HB := n1_; clear n0_ n1_; (try clear hb); (try clear hb2); (try clear hk); (try clear hi); (try clear ho0)) | ((with_reducible refine gate_dst (N := 3) rfl ?_); (try (refine gate_guard (by rfl) ?_; dsimp only)); refine box_event ?hg (N := 3) ?hd (cs := #[.slice none 0 0]) (t := 27) ?hr ?_; (case hd => rfl); (case hg => rfl); (case hr => first | (go_simp; done) | (go_simp; rfl)); intro gb472 hg w10 hbox hb; have n0_ := Aside0.mk (Kd.R_below (rU HO470.out) hb); have n1_ := Aside0.mk (below_step (bU HB.out) hb); have n2_ := Aside0.mk (hbox); have n3_ := Aside0.mk ((by rw [hg]; exact (below_size (bU HB.out)) : w.heap.size ≤ gb472)); have n4_ := Aside0.mk ((by rw [hg]; exact (below_size (bU HB.out)) : w.heap.size ≤ gb472)); clear HO470; clear HB; have HO470 := n0_; have HB := n1_; have BK472 := n2_; have GW472 := n3_; have GE472 := n4_; clear n0_ n1_ n2_ n3_ n4_; clear hb hbox hg; obtain ⟨Ao11, co11, eo11⟩ := Kd.R_slice HO470.out; subst eo11; have hcz12_0 : w10.cell? ⟨gb472, 0, none⟩ = some (.slice none 0 0) := (blk_cell BK472.out 0).trans rfl; have hfz12_0 := blk_frozen BK472.out 0) | ((with_reducible refine gate_dst (N := 5) rfl ?_); (try (refine gate_guard (by rfl) ?_; dsimp only)); refine box_event ?hg (N := 5) ?hd (cs := #[.slice none 0 0]) (t := 27) ?hr ?_; (case hd => rfl); (case hg => rfl); (case hr => first | (go_simp; done) | (go_simp; rfl)); intro gb473 hg w13 hbox hb; have n0_ := Aside0.mk (Kd.R_below (rU (Kd.R_mono (Kd.R_far (p := ⟨gb472, 0, none⟩) (Kd.R_types HO470.out BK472.out (by decide)) (fun _ hk => hk.2) (.slice Ao11 t468.length co11)) (fun _ h_ => h_.1))) hb); have n1_ := Aside0.mk (blk_below (g := gb472) (o := .cells #[.slice Ao11 t468.length co11] 27 (0, 0)) (by (with_reducible repeat (first | refine blk_drewN ?_ _ | refine blk_drew ?_ | refine blk_alloc ?_ _)); refine blk_put (cs := #[.slice none 0 0]) ?_ 0 _ rfl; (with_reducible repeat (first | refine blk_drewN ?_ _ | refine blk_drew ?_ | refine blk_alloc ?_ _)); exact BK472.out) hb); have n2_ := Aside0.mk (below_step (by repeat (first | (with_reducible first | exact HB.out | apply below_alloc | apply pw_below_drewN | apply below_drew1 | refine below_set ?_ GE472.out) | exact HB.out)) hb); have n3_ := Aside0.mk (hbox); have n4_ := Aside0.mk ((by rw [hg]; exact (below_size (by repeat (first | (with_reducible first | exact HB.out | apply below_alloc | apply pw_below_drewN | apply below_drew1 | refine below_set ?_ GE472.out) | exact HB.out))) : w.heap.size ≤ gb473)); have n5_ := Aside0.mk ((by rw [hg]; exact (below_size (by repeat (first | (with_reducible first | exact HB.out | apply below_alloc | apply pw_below_drewN | apply below_drew1 | refine below_set ?_ GE472.out) | exact HB.out))) : w.heap.size ≤ gb473)); have n6_ := Aside0.mk ((by rw [hg]; exact Nat.ne_of_lt (blk_lt (g := gb472) (o := .cells #[.slice Ao11 t468.length co11] 27 (0, 0)) (by (with_reducible repeat (first | refine blk_drewN ?_ _ | refine blk_drew ?_ | refine blk_alloc ?_ _)); refine blk_put (cs := #[.slice none 0 0]) ?_ 0 _ rfl; (with_reducible repeat (first | refine blk_drewN ?_ _ | refine blk_drew ?_ | refine blk_alloc ?_ _)); exact BK472.out)) : gb472 ≠ gb473)); have n7_ := Aside0.mk ((by rw [hg]; exact Nat.ne_of_gt (blk_lt (g := gb472) (o := .cells #[.slice Ao11 t468.length co11] 27 (0, 0)) (by (with_reducible repeat (first | refine blk_drewN ?_ _ | refine blk_drew ?_ | refine blk_alloc ?_ _)); refine blk_put (cs := #[.slice none 0 0]) ?_ 0 _ rfl; (with_reducible repeat (first | refine blk_drewN ?_ _ | refine blk_drew ?_ | refine blk_alloc ?_ _)); exact BK472.out)) : gb473 ≠ gb472)); clear HO470; clear BK472; clear HB; have HO470 := n0_; have BK472 := n1_; have HB := n2_; have BK473 := n3_; have GW473 := n4_; have GE473 := n5_; have NB472_473 := n6_; have NB473_472 := n7_; clear n0_ n1_ n2_ n3_ n4_ n5_ n6_ n7_; clear hb hbox hg))
  have n0_ := Aside0.mk (Kd.R_drew HO470.out)
  have n1_ := Aside0.mk (blk_drew BK472.out)
  have n2_ := Aside0.mk (blk_drew BK473.out)
  have n3_ := Aside0.mk (below_drew1 HB.out)
  clear HO470
  clear BK472
  clear BK473
  clear HB
  have HO470 := n0_
  have BK472 := n1_
  have BK473 := n2_
  have HB := n3_
  clear n0_ n1_ n2_ n3_
  refine start_ (n := 9) (S := fun w' => w'.cell? ⟨gb473, 0, none⟩ = some (.slice none 0 0)) (ds := []) #[false, false, false, false, false, false, false, false, false] (by kernel_rfl) rfl rfl ((blk_cell BK473.out 0).trans rfl) (fun hHeld => ?_); refine with_tabW tegulalaw34_RefcountNew.tab5 tegulalaw34_RefcountNew.bits5 (fun HT_ HW_ => ?_)
  generalize w13.drew = w14 at HO470 BK472 BK473 HB hHeld ⊢
  refine take_ (i := 0) (N := some 17) (v := ?_) (a' := ?_) #[true, false, false, false, false, false, false, false, false] rfl rfl (take_ofW HT_.out HW_.out (by kernel_rfl)) (fun _ _ _ h => h) (Or.inl ⟨by rfl, ?_⟩) hHeld ?_ ?_
  rotate_left
  ·
   intro w' s0
   go_simp
   with_reducible rfl
  rotate_left
  ·
   simp only [AP]
   rfl
  refine join_ (σ := Value × Value × Nat) 2 #[true, true, true, true, true, true, true, false, false] (fun s_ => [(18, s_.1), (19, .tuple #[.agg #[s_.2.1], .int .i64 t480]), (6, .pointer (some ⟨s_.2.2, 0, none⟩)), (16, .tuple #[.agg #[s_.2.1], .int .i64 t480]), (20, .agg #[s_.2.1]), (21, .int .i64 t480)]) (fun s_ w' => (w'.cell? ⟨gb473, 0, none⟩ = some (.slice none 0 0)) ∧ (Kd.R (Kd.int .i64) 3 w' w.heap.size (fun k_ => some k_ ≠ (s_.2.1 : Value).ownBlock) (.slice Ao11 t468.length co11) t468) ∧ (Kd.R k41 41 w' w.heap.size (fun _ => True) s_.1 t474) ∧ (Kd.R (Kd.int .i64) 3 w' w.heap.size (fun k_ => some k_ ≠ (.slice Ao11 t468.length co11 : Value).ownBlock) s_.2.1 t477) ∧ (w'.heap[gb472]? = some (.cells #[.slice Ao11 t468.length co11] 27 (0, 0))) ∧ (w'.heap[gb473]? = some (.cells #[.slice none 0 0] 27 (0, 0))) ∧ (w'.heap[s_.2.2]? = some (.cells #[.slice none 0 0] 27 (0, 0))) ∧ (w.heap.size ≤ s_.2.2) ∧ (w.heap.size ≤ s_.2.2) ∧ (gb472 ≠ s_.2.2) ∧ (s_.2.2 ≠ gb472) ∧ (gb473 ≠ s_.2.2) ∧ (s_.2.2 ≠ gb473) ∧ (Below w.heap.size w w')) ?_ ?_
  rotate_left
  ·
   intro hCont
   refine two_ (i := 1) (j := 6) (Ni := some 18) (Nj := some 6) #[true, true, false, false, false, false, false, false, false] #[true, false, false, false, false, false, true, false, false] rfl rfl rfl rfl (two_of HT_.out (by kernel_rfl)) (by decide) (by decide) (fun K hK => ?_) (fun K hK => ?_)
   ·
    skip
    refine goes_ Try.func23 (by kernel_rfl) rfl #[.int .i64 0, .int .i64 1] (by rfl) rfl rfl (by (try simp only [List.map_toArray, List.map_cons, List.map_nil]); first | done | rfl | (simp only [List.length_drop, List.length_take]; rfl)) ?_
    with_reducible refine (tegulalaw34_run.calls 0 1 t474 _ A5.out).mono ?_
    rintro e w15 ⟨v475, rfl, ho0, hb⟩
    refine ⟨_, rfl, ?_⟩
    have n0_ := Aside0.mk (Kd.R_below (rU HO470.out) hb)
    have n1_ := Aside0.mk (Kd.R_lower ho0 (below_size (by repeat (first | (with_reducible first | exact HB.out | apply below_alloc | apply pw_below_drewN | apply below_drew1 | refine below_set ?_ GE472.out | refine below_set ?_ GE473.out) | exact HB.out))))
    have n2_ := Aside0.mk (blk_below (g := gb472) (o := .cells #[.slice Ao11 t468.length co11] 27 (0, 0)) (kU BK472.out) hb)
    have n3_ := Aside0.mk (blk_below (g := gb473) (o := .cells #[.slice none 0 0] 27 (0, 0)) (kU BK473.out) hb)
    have n4_ := Aside0.mk (below_step (by repeat (first | (with_reducible first | exact HB.out | apply below_alloc | apply pw_below_drewN | apply below_drew1 | refine below_set ?_ GE472.out | refine below_set ?_ GE473.out) | exact HB.out)) hb)
    clear HO470
    clear BK472
    clear BK473
    clear HB
    have HO470 := n0_
    have HO476 := n1_
    have BK472 := n2_
    have BK473 := n3_
    have HB := n4_
    clear n0_ n1_ n2_ n3_ n4_
    (try clear hb)
    (try clear hb2)
    (try clear hk)
    (try clear hi)
    (try clear ho0)
    obtain ⟨Ao16, co16, eo16⟩ := Kd.R_slice HO476.out
    (first | subst eo16 | (injection eo16 with f1_ f2_ f3_; have f4_ := f1_.symm; have f5_ := f3_.symm; clear f1_ f2_ f3_; subst f4_; subst f5_))
    refine hK.out _ _ ((blk_cell BK473.out 0).trans rfl) (fun hHeld => ?_)
    clear hK K
    refine norm_ (a' := ?_) ?_ ?_
    rotate_left
    ·
     show Act.put _ (some 18) _ = _
     simp only [AP]
     rfl
    refine two_ (i := 2) (j := 6) (Ni := some 19) (Nj := some 6) #[true, true, true, false, false, false, false, false, false] #[true, true, false, false, false, false, true, false, false] rfl rfl rfl rfl (two_of HT_.out (by kernel_rfl)) (by decide) (by decide) (fun K hK => ?_) (fun K hK => ?_)
    ·
     skip
     refine goes_ Try.func12 (by kernel_rfl) rfl #[.agg #[.slice none 0 0], .slice Ao16 t474.length co16] (by rfl) rfl rfl (by (try simp only [List.map_toArray, List.map_cons, List.map_nil]); first | done | rfl | (simp only [List.length_drop, List.length_take]; rfl)) ?_
     refine (refcount_Counts_Add.calls k _ _ ([] : List Int) _ _ t474 t477 t480 _ ?side1 ?side2 ?side3 ?side4 A6.out).mono ?_
     (case side1 => exact Kd.C_nil _ _)
     (case side2 => exact Nat.le_refl _)
     (case side3 => repeat (first | exact (Kd.R_reads' HO476.out).2.2 | (with_reducible refine Kd.C_alloc ?_ _) | (with_reducible refine Kd.C_drewN ?_ _) | (with_reducible refine Kd.C_drew ?_)))
     (case side4 => exact (Kd.R_reads' HO476.out).2.1)
     rintro e w17 ⟨v478, rfl, ho0, hb⟩
     refine ⟨_, rfl, ?_⟩
     have n0_ := Aside0.mk (Kd.R_elder' (rU HO470.out) (Kd.R_base ho0) hb)
     have n1_ := Aside0.mk (Kd.R_below (rU HO476.out) hb)
     have n2_ := Aside0.mk (Kd.R_lower (Kd.R_new' ho0 (Kd.R_lt (rU HO470.out))) (below_size (by repeat (first | (with_reducible first | exact HB.out | apply below_alloc | apply pw_below_drewN | apply below_drew1 | refine below_set ?_ GE472.out | refine below_set ?_ GE473.out) | exact HB.out))))
     have n3_ := Aside0.mk (blk_below (g := gb472) (o := .cells #[.slice Ao11 t468.length co11] 27 (0, 0)) (kU BK472.out) hb)
     have n4_ := Aside0.mk (blk_below (g := gb473) (o := .cells #[.slice none 0 0] 27 (0, 0)) (kU BK473.out) hb)
     have n5_ := Aside0.mk (below_step (by repeat (first | (with_reducible first | exact HB.out | apply below_alloc | apply pw_below_drewN | apply below_drew1 | refine below_set ?_ GE472.out | refine below_set ?_ GE473.out) | exact HB.out)) hb)
     clear HO470
     clear HO476
     clear BK472
     clear BK473
     clear HB
     have HO470 := n0_
     have HO476 := n1_
     have HO479 := n2_
     have BK472 := n3_
     have BK473 := n4_
     have HB := n5_
     clear n0_ n1_ n2_ n3_ n4_ n5_
     (try clear hb)
     (try clear hb2)
     (try clear hk)
     (try clear hi)
     (try clear ho0)
     refine hK.out _ _ ((blk_cell BK473.out 0).trans rfl) (fun hHeld => ?_)
     clear hK K
     refine norm_ (a' := ?_) ?_ ?_
     rotate_left
     ·
      show Act.put _ (some 19) _ = _
      simp only [AP]
      rfl
     refine pure_ (i := 3) (N := some 16) (v := ?_) (a' := ?_) #[true, true, true, true, false, false, false, false, false] rfl rfl (any_of HT_.out (by kernel_rfl)) (fun _ _ _ h => h) (Or.inl ⟨by rfl, ?_⟩) ?_ ?_
     rotate_left
     ·
      intro w'
      go_simp
      with_reducible rfl
     rotate_left
     ·
      simp only [AP]
      rfl
     refine pure_ (i := 4) (N := some 20) (v := ?_) (a' := ?_) #[true, true, true, true, true, false, false, false, false] rfl rfl (any_of HT_.out (by kernel_rfl)) (fun _ _ _ h => h) (Or.inl ⟨by rfl, ?_⟩) ?_ ?_
     rotate_left
     ·
      intro w'
      go_simp
      with_reducible rfl
     rotate_left
     ·
      simp only [AP]
      rfl
     refine pure_ (i := 5) (N := some 21) (v := ?_) (a' := ?_) #[true, true, true, true, true, true, false, false, false] rfl rfl (any_of HT_.out (by kernel_rfl)) (fun _ _ _ h => h) (Or.inl ⟨by rfl, ?_⟩) ?_ ?_
     rotate_left
     ·
      intro w'
      go_simp
      with_reducible rfl
     rotate_left
     ·
      simp only [AP]
      rfl
     refine one_ (i := 6) (N := some 6) #[true, true, true, true, true, true, true, false, false] rfl rfl (one_of HT_.out (by kernel_rfl)) (by decide) (fun K hK => ?_)
     refine box_step ?hg (N := 6) ?hd (cs := #[.slice none 0 0]) (t := 27) ?hr ?_; (case hd => rfl); (case hg => rfl); (case hr => first | (go_simp; done) | (go_simp; rfl))
     intro gb481 hg w18 hbox hb
     have n0_ := Aside0.mk (Kd.R_below (rU HO470.out) hb)
     have n1_ := Aside0.mk (Kd.R_below (rU HO476.out) hb)
     have n2_ := Aside0.mk (Kd.R_below (rU HO479.out) hb)
     have n3_ := Aside0.mk (blk_below (g := gb472) (o := .cells #[.slice Ao11 t468.length co11] 27 (0, 0)) (kU BK472.out) hb)
     have n4_ := Aside0.mk (blk_below (g := gb473) (o := .cells #[.slice none 0 0] 27 (0, 0)) (kU BK473.out) hb)
     have n5_ := Aside0.mk (below_step (by repeat (first | (with_reducible first | exact HB.out | apply below_alloc | apply pw_below_drewN | apply below_drew1 | refine below_set ?_ GE472.out | refine below_set ?_ GE473.out) | exact HB.out)) hb)
     have n6_ := Aside0.mk (hbox)
     have n7_ := Aside0.mk ((by rw [hg]; exact (below_size (by repeat (first | (with_reducible first | exact HB.out | apply below_alloc | apply pw_below_drewN | apply below_drew1 | refine below_set ?_ GE472.out | refine below_set ?_ GE473.out) | exact HB.out))) : w.heap.size ≤ gb481))
     have n8_ := Aside0.mk ((by rw [hg]; exact (below_size (by repeat (first | (with_reducible first | exact HB.out | apply below_alloc | apply pw_below_drewN | apply below_drew1 | refine below_set ?_ GE472.out | refine below_set ?_ GE473.out) | exact HB.out))) : w.heap.size ≤ gb481))
     have n9_ := Aside0.mk ((by rw [hg]; exact Nat.ne_of_lt (blk_lt (g := gb472) (o := .cells #[.slice Ao11 t468.length co11] 27 (0, 0)) (kU BK472.out)) : gb472 ≠ gb481))
     have n10_ := Aside0.mk ((by rw [hg]; exact Nat.ne_of_gt (blk_lt (g := gb472) (o := .cells #[.slice Ao11 t468.length co11] 27 (0, 0)) (kU BK472.out)) : gb481 ≠ gb472))
     have n11_ := Aside0.mk ((by rw [hg]; exact Nat.ne_of_lt (blk_lt (g := gb473) (o := .cells #[.slice none 0 0] 27 (0, 0)) (kU BK473.out)) : gb473 ≠ gb481))
     have n12_ := Aside0.mk ((by rw [hg]; exact Nat.ne_of_gt (blk_lt (g := gb473) (o := .cells #[.slice none 0 0] 27 (0, 0)) (kU BK473.out)) : gb481 ≠ gb473))
     clear HO470
     clear HO476
     clear HO479
     clear BK472
     clear BK473
     clear HB
     have HO470 := n0_
     have HO476 := n1_
     have HO479 := n2_
     have BK472 := n3_
     have BK473 := n4_
     have HB := n5_
     have BK481 := n6_
     have GW481 := n7_
     have GE481 := n8_
     have NB472_481 := n9_
     have NB481_472 := n10_
     have NB473_481 := n11_
     have NB481_473 := n12_
     clear n0_ n1_ n2_ n3_ n4_ n5_ n6_ n7_ n8_ n9_ n10_ n11_ n12_
     clear hb hbox hg
     refine hK.out _ _ ((blk_cell BK473.out 0).trans rfl) (fun hHeld => ?_)
     clear hK K
     refine norm_ (a' := ?_) ?_ ?_
     rotate_left
     ·
      show Act.put _ (some 6) _ = _
      simp only [AP]
      rfl
     exact norm_ (by simp only [putAll, Act.put, List.setIfInBounds_toArray, List.set_cons_zero, List.set_cons_succ]) (hCont (.slice Ao16 t474.length co16, v478, gb481) _ ⟨hHeld, (rU (Kd.R_mono HO470.out (fun _ hk => hk.2))), (rU HO476.out), (rU (Kd.R_mono HO479.out (fun _ hk => hk.2))), (kU BK472.out), (kU BK473.out), (kU BK481.out), GW481.out, GE481.out, NB472_481.out, NB481_472.out, NB473_481.out, NB481_473.out, (by repeat (first | (with_reducible first | exact HB.out | apply below_alloc | apply pw_below_drewN | apply below_drew1 | refine below_set ?_ GE472.out | refine below_set ?_ GE473.out | refine below_set ?_ GE481.out) | exact HB.out))⟩)
    ·
     skip
     refine box_step ?hg (N := 6) ?hd (cs := #[.slice none 0 0]) (t := 27) ?hr ?_; (case hd => rfl); (case hg => rfl); (case hr => first | (go_simp; done) | (go_simp; rfl))
     intro gb481 hg w16 hbox hb
     have n0_ := Aside0.mk (Kd.R_below (rU HO470.out) hb)
     have n1_ := Aside0.mk (Kd.R_below (rU HO476.out) hb)
     have n2_ := Aside0.mk (blk_below (g := gb472) (o := .cells #[.slice Ao11 t468.length co11] 27 (0, 0)) (kU BK472.out) hb)
     have n3_ := Aside0.mk (blk_below (g := gb473) (o := .cells #[.slice none 0 0] 27 (0, 0)) (kU BK473.out) hb)
     have n4_ := Aside0.mk (below_step (by repeat (first | (with_reducible first | exact HB.out | apply below_alloc | apply pw_below_drewN | apply below_drew1 | refine below_set ?_ GE472.out | refine below_set ?_ GE473.out) | exact HB.out)) hb)
     have n5_ := Aside0.mk (hbox)
     have n6_ := Aside0.mk ((by rw [hg]; exact (below_size (by repeat (first | (with_reducible first | exact HB.out | apply below_alloc | apply pw_below_drewN | apply below_drew1 | refine below_set ?_ GE472.out | refine below_set ?_ GE473.out) | exact HB.out))) : w.heap.size ≤ gb481))
     have n7_ := Aside0.mk ((by rw [hg]; exact (below_size (by repeat (first | (with_reducible first | exact HB.out | apply below_alloc | apply pw_below_drewN | apply below_drew1 | refine below_set ?_ GE472.out | refine below_set ?_ GE473.out) | exact HB.out))) : w.heap.size ≤ gb481))
     have n8_ := Aside0.mk ((by rw [hg]; exact Nat.ne_of_lt (blk_lt (g := gb472) (o := .cells #[.slice Ao11 t468.length co11] 27 (0, 0)) (kU BK472.out)) : gb472 ≠ gb481))
     have n9_ := Aside0.mk ((by rw [hg]; exact Nat.ne_of_gt (blk_lt (g := gb472) (o := .cells #[.slice Ao11 t468.length co11] 27 (0, 0)) (kU BK472.out)) : gb481 ≠ gb472))
     have n10_ := Aside0.mk ((by rw [hg]; exact Nat.ne_of_lt (blk_lt (g := gb473) (o := .cells #[.slice none 0 0] 27 (0, 0)) (kU BK473.out)) : gb473 ≠ gb481))
     have n11_ := Aside0.mk ((by rw [hg]; exact Nat.ne_of_gt (blk_lt (g := gb473) (o := .cells #[.slice none 0 0] 27 (0, 0)) (kU BK473.out)) : gb481 ≠ gb473))
     clear HO470
     clear HO476
     clear BK472
     clear BK473
     clear HB
     have HO470 := n0_
     have HO476 := n1_
     have BK472 := n2_
     have BK473 := n3_
     have HB := n4_
     have BK481 := n5_
     have GW481 := n6_
     have GE481 := n7_
     have NB472_481 := n8_
     have NB481_472 := n9_
     have NB473_481 := n10_
     have NB481_473 := n11_
     clear n0_ n1_ n2_ n3_ n4_ n5_ n6_ n7_ n8_ n9_ n10_ n11_
     clear hb hbox hg
     obtain ⟨Ao17, co17, eo17⟩ := Kd.R_slice HO476.out
     (first | subst eo17 | (injection eo17 with f1_ f2_ f3_; have f4_ := f1_.symm; have f5_ := f3_.symm; clear f1_ f2_ f3_; subst f4_; subst f5_))
     refine hK.out _ _ ((blk_cell BK473.out 0).trans rfl) (fun hHeld => ?_)
     clear hK K
     refine norm_ (a' := ?_) ?_ ?_
     rotate_left
     ·
      show Act.put _ (some 6) _ = _
      simp only [AP]
      rfl
     refine one_ (i := 2) (N := some 19) #[true, true, true, false, false, false, true, false, false] rfl rfl (one_of HT_.out (by kernel_rfl)) (by decide) (fun K hK => ?_)
     refine goes_ Try.func12 (by kernel_rfl) rfl #[.agg #[.slice none 0 0], .slice Ao17 t474.length co17] (by rfl) rfl rfl (by (try simp only [List.map_toArray, List.map_cons, List.map_nil]); first | done | rfl | (simp only [List.length_drop, List.length_take]; rfl)) ?_
     refine (refcount_Counts_Add.calls k _ _ ([] : List Int) _ _ t474 t477 t480 _ ?side1 ?side2 ?side3 ?side4 A6.out).mono ?_
     (case side1 => exact Kd.C_nil _ _)
     (case side2 => exact Nat.le_refl _)
     (case side3 => repeat (first | exact (Kd.R_reads' HO476.out).2.2 | (with_reducible refine Kd.C_alloc ?_ _) | (with_reducible refine Kd.C_drewN ?_ _) | (with_reducible refine Kd.C_drew ?_)))
     (case side4 => exact (Kd.R_reads' HO476.out).2.1)
     rintro e w18 ⟨v478, rfl, ho0, hb⟩
     refine ⟨_, rfl, ?_⟩
     have n0_ := Aside0.mk (Kd.R_elder' (rU HO470.out) (Kd.R_base ho0) hb)
     have n1_ := Aside0.mk (Kd.R_below (rU HO476.out) hb)
     have n2_ := Aside0.mk (Kd.R_lower (Kd.R_new' ho0 (Kd.R_lt (rU HO470.out))) (below_size (by repeat (first | (with_reducible first | exact HB.out | apply below_alloc | apply pw_below_drewN | apply below_drew1 | refine below_set ?_ GE472.out | refine below_set ?_ GE473.out | refine below_set ?_ GE481.out) | exact HB.out))))
     have n3_ := Aside0.mk (blk_below (g := gb472) (o := .cells #[.slice Ao11 t468.length co11] 27 (0, 0)) (kU BK472.out) hb)
     have n4_ := Aside0.mk (blk_below (g := gb473) (o := .cells #[.slice none 0 0] 27 (0, 0)) (kU BK473.out) hb)
     have n5_ := Aside0.mk (blk_below (g := gb481) (o := .cells #[.slice none 0 0] 27 (0, 0)) (kU BK481.out) hb)
     have n6_ := Aside0.mk (below_step (by repeat (first | (with_reducible first | exact HB.out | apply below_alloc | apply pw_below_drewN | apply below_drew1 | refine below_set ?_ GE472.out | refine below_set ?_ GE473.out | refine below_set ?_ GE481.out) | exact HB.out)) hb)
     clear HO470
     clear HO476
     clear BK472
     clear BK473
     clear BK481
     clear HB
     have HO470 := n0_
     have HO476 := n1_
     have HO479 := n2_
     have BK472 := n3_
     have BK473 := n4_
     have BK481 := n5_
     have HB := n6_
     clear n0_ n1_ n2_ n3_ n4_ n5_ n6_
     (try clear hb)
     (try clear hb2)
     (try clear hk)
     (try clear hi)
     (try clear ho0)
     refine hK.out _ _ ((blk_cell BK473.out 0).trans rfl) (fun hHeld => ?_)
     clear hK K
     refine norm_ (a' := ?_) ?_ ?_
     rotate_left
     ·
      show Act.put _ (some 19) _ = _
      simp only [AP]
      rfl
     refine pure_ (i := 3) (N := some 16) (v := ?_) (a' := ?_) #[true, true, true, true, false, false, true, false, false] rfl rfl (any_of HT_.out (by kernel_rfl)) (fun _ _ _ h => h) (Or.inl ⟨by rfl, ?_⟩) ?_ ?_
     rotate_left
     ·
      intro w'
      go_simp
      with_reducible rfl
     rotate_left
     ·
      simp only [AP]
      rfl
     refine pure_ (i := 4) (N := some 20) (v := ?_) (a' := ?_) #[true, true, true, true, true, false, true, false, false] rfl rfl (any_of HT_.out (by kernel_rfl)) (fun _ _ _ h => h) (Or.inl ⟨by rfl, ?_⟩) ?_ ?_
     rotate_left
     ·
      intro w'
      go_simp
      with_reducible rfl
     rotate_left
     ·
      simp only [AP]
      rfl
     refine pure_ (i := 5) (N := some 21) (v := ?_) (a' := ?_) #[true, true, true, true, true, true, true, false, false] rfl rfl (any_of HT_.out (by kernel_rfl)) (fun _ _ _ h => h) (Or.inl ⟨by rfl, ?_⟩) ?_ ?_
     rotate_left
     ·
      intro w'
      go_simp
      with_reducible rfl
     rotate_left
     ·
      simp only [AP]
      rfl
     exact norm_ (by simp only [putAll, Act.put, List.setIfInBounds_toArray, List.set_cons_zero, List.set_cons_succ]) (hCont (.slice Ao17 t474.length co17, v478, gb481) _ ⟨hHeld, (rU (Kd.R_mono HO470.out (fun _ hk => hk.2))), (rU HO476.out), (rU (Kd.R_mono HO479.out (fun _ hk => hk.2))), (kU BK472.out), (kU BK473.out), (kU BK481.out), GW481.out, GE481.out, NB472_481.out, NB481_472.out, NB473_481.out, NB481_473.out, (by repeat (first | (with_reducible first | exact HB.out | apply below_alloc | apply pw_below_drewN | apply below_drew1 | refine below_set ?_ GE472.out | refine below_set ?_ GE473.out | refine below_set ?_ GE481.out) | exact HB.out))⟩)
   ·
    skip
    refine box_step ?hg (N := 6) ?hd (cs := #[.slice none 0 0]) (t := 27) ?hr ?_; (case hd => rfl); (case hg => rfl); (case hr => first | (go_simp; done) | (go_simp; rfl))
    intro gb481 hg w15 hbox hb
    have n0_ := Aside0.mk (Kd.R_below (rU HO470.out) hb)
    have n1_ := Aside0.mk (blk_below (g := gb472) (o := .cells #[.slice Ao11 t468.length co11] 27 (0, 0)) (kU BK472.out) hb)
    have n2_ := Aside0.mk (blk_below (g := gb473) (o := .cells #[.slice none 0 0] 27 (0, 0)) (kU BK473.out) hb)
    have n3_ := Aside0.mk (below_step (by repeat (first | (with_reducible first | exact HB.out | apply below_alloc | apply pw_below_drewN | apply below_drew1 | refine below_set ?_ GE472.out | refine below_set ?_ GE473.out) | exact HB.out)) hb)
    have n4_ := Aside0.mk (hbox)
    have n5_ := Aside0.mk ((by rw [hg]; exact (below_size (by repeat (first | (with_reducible first | exact HB.out | apply below_alloc | apply pw_below_drewN | apply below_drew1 | refine below_set ?_ GE472.out | refine below_set ?_ GE473.out) | exact HB.out))) : w.heap.size ≤ gb481))
    have n6_ := Aside0.mk ((by rw [hg]; exact (below_size (by repeat (first | (with_reducible first | exact HB.out | apply below_alloc | apply pw_below_drewN | apply below_drew1 | refine below_set ?_ GE472.out | refine below_set ?_ GE473.out) | exact HB.out))) : w.heap.size ≤ gb481))
    have n7_ := Aside0.mk ((by rw [hg]; exact Nat.ne_of_lt (blk_lt (g := gb472) (o := .cells #[.slice Ao11 t468.length co11] 27 (0, 0)) (kU BK472.out)) : gb472 ≠ gb481))
    have n8_ := Aside0.mk ((by rw [hg]; exact Nat.ne_of_gt (blk_lt (g := gb472) (o := .cells #[.slice Ao11 t468.length co11] 27 (0, 0)) (kU BK472.out)) : gb481 ≠ gb472))
    have n9_ := Aside0.mk ((by rw [hg]; exact Nat.ne_of_lt (blk_lt (g := gb473) (o := .cells #[.slice none 0 0] 27 (0, 0)) (kU BK473.out)) : gb473 ≠ gb481))
    have n10_ := Aside0.mk ((by rw [hg]; exact Nat.ne_of_gt (blk_lt (g := gb473) (o := .cells #[.slice none 0 0] 27 (0, 0)) (kU BK473.out)) : gb481 ≠ gb473))
    clear HO470
    clear BK472
    clear BK473
    clear HB
    have HO470 := n0_
    have BK472 := n1_
    have BK473 := n2_
    have HB := n3_
    have BK481 := n4_
    have GW481 := n5_
    have GE481 := n6_
    have NB472_481 := n7_
    have NB481_472 := n8_
    have NB473_481 := n9_
    have NB481_473 := n10_
    clear n0_ n1_ n2_ n3_ n4_ n5_ n6_ n7_ n8_ n9_ n10_
    clear hb hbox hg
    refine hK.out _ _ ((blk_cell BK473.out 0).trans rfl) (fun hHeld => ?_)
    clear hK K
    refine norm_ (a' := ?_) ?_ ?_
    rotate_left
    ·
     show Act.put _ (some 6) _ = _
     simp only [AP]
     rfl
    refine one_ (i := 1) (N := some 18) #[true, true, false, false, false, false, true, false, false] rfl rfl (one_of HT_.out (by kernel_rfl)) (by decide) (fun K hK => ?_)
    refine goes_ Try.func23 (by kernel_rfl) rfl #[.int .i64 0, .int .i64 1] (by rfl) rfl rfl (by (try simp only [List.map_toArray, List.map_cons, List.map_nil]); first | done | rfl | (simp only [List.length_drop, List.length_take]; rfl)) ?_
    with_reducible refine (tegulalaw34_run.calls 0 1 t474 _ A5.out).mono ?_
    rintro e w16 ⟨v475, rfl, ho0, hb⟩
    refine ⟨_, rfl, ?_⟩
    have n0_ := Aside0.mk (Kd.R_below (rU HO470.out) hb)
    have n1_ := Aside0.mk (Kd.R_lower ho0 (below_size (by repeat (first | (with_reducible first | exact HB.out | apply below_alloc | apply pw_below_drewN | apply below_drew1 | refine below_set ?_ GE472.out | refine below_set ?_ GE473.out | refine below_set ?_ GE481.out) | exact HB.out))))
    have n2_ := Aside0.mk (blk_below (g := gb472) (o := .cells #[.slice Ao11 t468.length co11] 27 (0, 0)) (kU BK472.out) hb)
    have n3_ := Aside0.mk (blk_below (g := gb473) (o := .cells #[.slice none 0 0] 27 (0, 0)) (kU BK473.out) hb)
    have n4_ := Aside0.mk (blk_below (g := gb481) (o := .cells #[.slice none 0 0] 27 (0, 0)) (kU BK481.out) hb)
    have n5_ := Aside0.mk (below_step (by repeat (first | (with_reducible first | exact HB.out | apply below_alloc | apply pw_below_drewN | apply below_drew1 | refine below_set ?_ GE472.out | refine below_set ?_ GE473.out | refine below_set ?_ GE481.out) | exact HB.out)) hb)
    clear HO470
    clear BK472
    clear BK473
    clear BK481
    clear HB
    have HO470 := n0_
    have HO476 := n1_
    have BK472 := n2_
    have BK473 := n3_
    have BK481 := n4_
    have HB := n5_
    clear n0_ n1_ n2_ n3_ n4_ n5_
    (try clear hb)
    (try clear hb2)
    (try clear hk)
    (try clear hi)
    (try clear ho0)
    obtain ⟨Ao17, co17, eo17⟩ := Kd.R_slice HO476.out
    (first | subst eo17 | (injection eo17 with f1_ f2_ f3_; have f4_ := f1_.symm; have f5_ := f3_.symm; clear f1_ f2_ f3_; subst f4_; subst f5_))
    refine hK.out _ _ ((blk_cell BK473.out 0).trans rfl) (fun hHeld => ?_)
    clear hK K
    refine norm_ (a' := ?_) ?_ ?_
    rotate_left
    ·
     show Act.put _ (some 18) _ = _
     simp only [AP]
     rfl
    refine one_ (i := 2) (N := some 19) #[true, true, true, false, false, false, true, false, false] rfl rfl (one_of HT_.out (by kernel_rfl)) (by decide) (fun K hK => ?_)
    refine goes_ Try.func12 (by kernel_rfl) rfl #[.agg #[.slice none 0 0], .slice Ao17 t474.length co17] (by rfl) rfl rfl (by (try simp only [List.map_toArray, List.map_cons, List.map_nil]); first | done | rfl | (simp only [List.length_drop, List.length_take]; rfl)) ?_
    refine (refcount_Counts_Add.calls k _ _ ([] : List Int) _ _ t474 t477 t480 _ ?side1 ?side2 ?side3 ?side4 A6.out).mono ?_
    (case side1 => exact Kd.C_nil _ _)
    (case side2 => exact Nat.le_refl _)
    (case side3 => repeat (first | exact (Kd.R_reads' HO476.out).2.2 | (with_reducible refine Kd.C_alloc ?_ _) | (with_reducible refine Kd.C_drewN ?_ _) | (with_reducible refine Kd.C_drew ?_)))
    (case side4 => exact (Kd.R_reads' HO476.out).2.1)
    rintro e w18 ⟨v478, rfl, ho0, hb⟩
    refine ⟨_, rfl, ?_⟩
    have n0_ := Aside0.mk (Kd.R_elder' (rU HO470.out) (Kd.R_base ho0) hb)
    have n1_ := Aside0.mk (Kd.R_below (rU HO476.out) hb)
    have n2_ := Aside0.mk (Kd.R_lower (Kd.R_new' ho0 (Kd.R_lt (rU HO470.out))) (below_size (by repeat (first | (with_reducible first | exact HB.out | apply below_alloc | apply pw_below_drewN | apply below_drew1 | refine below_set ?_ GE472.out | refine below_set ?_ GE473.out | refine below_set ?_ GE481.out) | exact HB.out))))
    have n3_ := Aside0.mk (blk_below (g := gb472) (o := .cells #[.slice Ao11 t468.length co11] 27 (0, 0)) (kU BK472.out) hb)
    have n4_ := Aside0.mk (blk_below (g := gb473) (o := .cells #[.slice none 0 0] 27 (0, 0)) (kU BK473.out) hb)
    have n5_ := Aside0.mk (blk_below (g := gb481) (o := .cells #[.slice none 0 0] 27 (0, 0)) (kU BK481.out) hb)
    have n6_ := Aside0.mk (below_step (by repeat (first | (with_reducible first | exact HB.out | apply below_alloc | apply pw_below_drewN | apply below_drew1 | refine below_set ?_ GE472.out | refine below_set ?_ GE473.out | refine below_set ?_ GE481.out) | exact HB.out)) hb)
    clear HO470
    clear HO476
    clear BK472
    clear BK473
    clear BK481
    clear HB
    have HO470 := n0_
    have HO476 := n1_
    have HO479 := n2_
    have BK472 := n3_
    have BK473 := n4_
    have BK481 := n5_
    have HB := n6_
    clear n0_ n1_ n2_ n3_ n4_ n5_ n6_
    (try clear hb)
    (try clear hb2)
    (try clear hk)
    (try clear hi)
    (try clear ho0)
    refine hK.out _ _ ((blk_cell BK473.out 0).trans rfl) (fun hHeld => ?_)
    clear hK K
    refine norm_ (a' := ?_) ?_ ?_
    rotate_left
    ·
     show Act.put _ (some 19) _ = _
     simp only [AP]
     rfl
    refine pure_ (i := 3) (N := some 16) (v := ?_) (a' := ?_) #[true, true, true, true, false, false, true, false, false] rfl rfl (any_of HT_.out (by kernel_rfl)) (fun _ _ _ h => h) (Or.inl ⟨by rfl, ?_⟩) ?_ ?_
    rotate_left
    ·
     intro w'
     go_simp
     with_reducible rfl
    rotate_left
    ·
     simp only [AP]
     rfl
    refine pure_ (i := 4) (N := some 20) (v := ?_) (a' := ?_) #[true, true, true, true, true, false, true, false, false] rfl rfl (any_of HT_.out (by kernel_rfl)) (fun _ _ _ h => h) (Or.inl ⟨by rfl, ?_⟩) ?_ ?_
    rotate_left
    ·
     intro w'
     go_simp
     with_reducible rfl
    rotate_left
    ·
     simp only [AP]
     rfl
    refine pure_ (i := 5) (N := some 21) (v := ?_) (a' := ?_) #[true, true, true, true, true, true, true, false, false] rfl rfl (any_of HT_.out (by kernel_rfl)) (fun _ _ _ h => h) (Or.inl ⟨by rfl, ?_⟩) ?_ ?_
    rotate_left
    ·
     intro w'
     go_simp
     with_reducible rfl
    rotate_left
    ·
     simp only [AP]
     rfl
    exact norm_ (by simp only [putAll, Act.put, List.setIfInBounds_toArray, List.set_cons_zero, List.set_cons_succ]) (hCont (.slice Ao17 t474.length co17, v478, gb481) _ ⟨hHeld, (rU (Kd.R_mono HO470.out (fun _ hk => hk.2))), (rU HO476.out), (rU (Kd.R_mono HO479.out (fun _ hk => hk.2))), (kU BK472.out), (kU BK473.out), (kU BK481.out), GW481.out, GE481.out, NB472_481.out, NB481_472.out, NB473_481.out, NB481_473.out, (by repeat (first | (with_reducible first | exact HB.out | apply below_alloc | apply pw_below_drewN | apply below_drew1 | refine below_set ?_ GE472.out | refine below_set ?_ GE473.out | refine below_set ?_ GE481.out) | exact HB.out))⟩)
  rintro ⟨v475, v478, gb481⟩ w19 ⟨hS_, h0_, h1_, h2_, h3_, h4_, h5_, h6_, h7_, h8_, h9_, h10_, h11_, h12_⟩
  have n0_ : Aside0 (Kd.R (Kd.int .i64) 3 w19 w.heap.size (fun k_ => some k_ ≠ (v478 : Value).ownBlock) (.slice Ao11 t468.length co11) t468) := ⟨h0_⟩
  have n1_ : Aside0 (Kd.R k41 41 w19 w.heap.size (fun _ => True) v475 t474) := ⟨h1_⟩
  have n2_ : Aside0 (Kd.R (Kd.int .i64) 3 w19 w.heap.size (fun k_ => some k_ ≠ (.slice Ao11 t468.length co11 : Value).ownBlock) v478 t477) := ⟨h2_⟩
  have n3_ : Aside0 (w19.heap[gb472]? = some (.cells #[.slice Ao11 t468.length co11] 27 (0, 0))) := ⟨h3_⟩
  have n4_ : Aside0 (w19.heap[gb473]? = some (.cells #[.slice none 0 0] 27 (0, 0))) := ⟨h4_⟩
  have n5_ : Aside0 (w19.heap[gb481]? = some (.cells #[.slice none 0 0] 27 (0, 0))) := ⟨h5_⟩
  have n6_ : Aside0 (w.heap.size ≤ gb481) := ⟨h6_⟩
  have n7_ : Aside0 (w.heap.size ≤ gb481) := ⟨h7_⟩
  have n8_ : Aside0 (gb472 ≠ gb481) := ⟨h8_⟩
  have n9_ : Aside0 (gb481 ≠ gb472) := ⟨h9_⟩
  have n10_ : Aside0 (gb473 ≠ gb481) := ⟨h10_⟩
  have n11_ : Aside0 (gb481 ≠ gb473) := ⟨h11_⟩
  have n12_ : Aside0 (Below w.heap.size w w19) := ⟨h12_⟩
  clear HO470
  clear BK472
  clear BK473
  clear HB
  clear h0_ h1_ h2_ h3_ h4_ h5_ h6_ h7_ h8_ h9_ h10_ h11_ h12_
  have HO470 := n0_
  have HO476 := n1_
  have HO479 := n2_
  have BK472 := n3_
  have BK473 := n4_
  have BK481 := n5_
  have GW481 := n6_
  have GE481 := n7_
  have NB472_481 := n8_
  have NB481_472 := n9_
  have NB473_481 := n10_
  have NB481_473 := n11_
  have HB := n12_
  clear n0_ n1_ n2_ n3_ n4_ n5_ n6_ n7_ n8_ n9_ n10_ n11_ n12_
  have hHeld : w19.cell? ⟨gb473, 0, none⟩ = some (.slice none 0 0) := hS_
  obtain ⟨Ao20, co20, eo20⟩ := Kd.R_slice HO479.out
  (first | subst eo20 | (injection eo20 with f1_ f2_ f3_; have f4_ := f1_.symm; have f5_ := f3_.symm; clear f1_ f2_ f3_; subst f4_; subst f5_))
  refine norm_ (a' := ?_) ?_ ?_
  rotate_left
  ·
   simp only [putAll, Act.put, List.setIfInBounds_toArray, List.set_cons_zero, List.set_cons_succ]
   rfl
  refine one_ (i := 7) (N := none) #[true, true, true, true, true, true, true, true, false] rfl rfl (one_of HT_.out (by kernel_rfl)) (by decide) (fun K hK => ?_)
  have hs21 : w19.cell? ⟨gb481, 0, none⟩ = some (.slice none 0 0) := (blk_cell BK481.out 0).trans rfl
  have hfs21 := blk_frozen BK481.out 0
  have hns21_0 := NB472_481.out
  have hns21_1 := NB473_481.out
  have hms21_0 := NB481_472.out
  have hms21_1 := NB481_473.out
  refine skip_ (w1 := ?_) (by rfl) rfl ?_ ?_
  rotate_left
  ·
   go_simp
   rfl
  refine hK.out _ _ (((cell_far (p := ⟨gb481, _, none⟩) NB473_481.out _).trans (hHeld))) (fun hHeld => ?_)
  clear hK K
  refine pure_ (i := 8) (N := some 7) (v := ?_) (a' := ?_) #[true, true, true, true, true, true, true, true, true] rfl rfl (any_of HT_.out (by kernel_rfl)) (fun _ _ _ h => h) (Or.inl ⟨by rfl, ?_⟩) ?_ ?_
  rotate_left
  ·
   intro w'
   go_simp
   with_reducible rfl
  rotate_left
  ·
   simp only [AP]
   rfl
  refine done_ (done_of HT_.out (by kernel_rfl)) ?_
  go_upto_region 6 with (fail)
  go_cut [44] (fun v44 wc => ∃ (kq : Nat) (x44_6 : Bool), v44 = .bool x44_6 ∧ Aside0 (tegulalaw34_RefcountNew.j0 kq a0 t471 x44_6 t468 = some r) ∧ Aside0 (kq ≤ k) ∧ Aside0 (Kd.R (Kd.int .i64) 3 wc w.heap.size (fun k_ => some k_ ≠ ((.slice Ao20 t477.length co20) : Value).ownBlock) (.slice Ao11 t468.length co11) t468) ∧ Aside0 (Kd.R (Kd.int .i64) 3 wc w.heap.size (fun k_ => some k_ ≠ ((.slice Ao11 t468.length co11) : Value).ownBlock) (.slice Ao20 t477.length co20) t477) ∧ Aside0 (wc.heap[gb472]? = some (.cells #[(.slice Ao11 t468.length co11)] 27 (0, 0))) ∧ Aside0 (wc.heap[gb473]? = some (.cells #[(.slice none 0 0)] 27 (0, 0))) ∧ Aside0 (wc.heap[gb481]? = some (.cells #[(.slice Ao20 t477.length co20)] 27 (0, 0))) ∧ Aside0 (Below w.heap.size w wc))
  case first =>
   have H := HC7.out
   clear HC7
   replace H := Option.bind_eq_some_iff.mp H
   obtain ⟨t482, A220, H⟩ := H
   replace H : (if t482 = 0 then ((refcount_Counts_Used.f ([] : List Int)).bind fun t483 => (if t483 = 0 then ((refcount_Counts_Total.f ([] : List Int)).bind fun t484 => (if t484 = 0 then ((refcount_Counts_Zero.f k ([] : List Int)).bind fun t485 => (if (t485.length : Int) = 0 then (tegulalaw34_RefcountNew.j0 k a0 t471 (t480 != 2) t468) else (tegulalaw34_RefcountNew.j0 k a0 t471 true t468))) else (tegulalaw34_RefcountNew.j0 k a0 t471 true t468))) else (tegulalaw34_RefcountNew.j0 k a0 t471 true t468))) else (tegulalaw34_RefcountNew.j0 k a0 t471 true t468)) = some r := H
   have A22 := Aside0.mk A220
   clear A220
   by_cases c23 : t482 = 0
   ·
    rw [if_pos c23] at H
    have c23b0 : (t482 == 0) = true := beq_iff_eq.mpr c23
    have c23b1 : (t482 != 0) = false := bne_eq_false_iff_eq.mpr c23
    clear c23
    (first | rw [c23b0] | (simp only [i64_w, i32_w]; rw [c23b0]) | skip)
    replace H := Option.bind_eq_some_iff.mp H
    obtain ⟨t483, A240, H⟩ := H
    replace H : (if t483 = 0 then ((refcount_Counts_Total.f ([] : List Int)).bind fun t484 => (if t484 = 0 then ((refcount_Counts_Zero.f k ([] : List Int)).bind fun t485 => (if (t485.length : Int) = 0 then (tegulalaw34_RefcountNew.j0 k a0 t471 (t480 != 2) t468) else (tegulalaw34_RefcountNew.j0 k a0 t471 true t468))) else (tegulalaw34_RefcountNew.j0 k a0 t471 true t468))) else (tegulalaw34_RefcountNew.j0 k a0 t471 true t468)) = some r := H
    have A24 := Aside0.mk A240
    clear A240
    by_cases c25 : t483 = 0
    ·
     rw [if_pos c25] at H
     have c25b0 : (t483 == 0) = true := beq_iff_eq.mpr c25
     have c25b1 : (t483 != 0) = false := bne_eq_false_iff_eq.mpr c25
     clear c25
     replace H := Option.bind_eq_some_iff.mp H
     obtain ⟨t484, A260, H⟩ := H
     replace H : (if t484 = 0 then ((refcount_Counts_Zero.f k ([] : List Int)).bind fun t485 => (if (t485.length : Int) = 0 then (tegulalaw34_RefcountNew.j0 k a0 t471 (t480 != 2) t468) else (tegulalaw34_RefcountNew.j0 k a0 t471 true t468))) else (tegulalaw34_RefcountNew.j0 k a0 t471 true t468)) = some r := H
     have A26 := Aside0.mk A260
     clear A260
     by_cases c27 : t484 = 0
     ·
      rw [if_pos c27] at H
      have c27b0 : (t484 == 0) = true := beq_iff_eq.mpr c27
      have c27b1 : (t484 != 0) = false := bne_eq_false_iff_eq.mpr c27
      clear c27
      replace H := Option.bind_eq_some_iff.mp H
      obtain ⟨t485, A280, H⟩ := H
      replace H : (if (t485.length : Int) = 0 then (tegulalaw34_RefcountNew.j0 k a0 t471 (t480 != 2) t468) else (tegulalaw34_RefcountNew.j0 k a0 t471 true t468)) = some r := H
      have A28 := Aside0.mk A280
      clear A280
      by_cases c29 : (t485.length : Int) = 0
      ·
       rw [if_pos c29] at H
       have c29b0 : ((t485.length : Int) == 0) = true := beq_iff_eq.mpr c29
       have c29b1 : ((t485.length : Int) != 0) = false := bne_eq_false_iff_eq.mpr c29
       clear c29
       have H' := Aside0.mk H
       clear H
       have hnb30 := NB473_472.out
       have hnc30 := NB472_473.out
       have hnb31 := NB473_481.out
       have hnc31 := NB481_473.out
       have hcz32_0 : w19.cell? ⟨gb473, 0, none⟩ = some (.slice none 0 0) := (blk_cell BK473.out 0).trans rfl
       have hfz32_0 := blk_frozen BK473.out 0
       go_wp2_with (first | ((with_reducible refine gate_callee (f := 21) rfl ?_); refine goesL_ (some 23) rfl rfl Try.func21 (by kernel_rfl) rfl #[.agg #[.slice none 0 0]] rfl (by (try simp only [List.map_toArray, List.map_cons, List.map_nil]); first | done | rfl | (simp only [List.length_drop, List.length_take]; rfl)) ?_; (refine (refcount_Counts_Slots.calls _ _ ([] : List Int) t482 _ ?side1 ?side2 A22.out).mono ?_); (case side1 => exact Kd.C_nil _ _); (case side2 => exact Nat.le_refl _); rintro e w33 ⟨rfl, hb⟩; refine ⟨_, rfl, ?_⟩; have n0_ := Aside0.mk (Kd.R_below (rU (Kd.R_mono (Kd.R_far (p := ⟨gb481, 0, none⟩) (Kd.R_types HO470.out BK481.out (by decide)) (fun _ hk => hk.2) (.slice Ao20 t477.length co20)) (fun _ h_ => h_.1))) hb); have n1_ := Aside0.mk (Kd.R_below (rU (Kd.R_mono (Kd.R_far (p := ⟨gb481, 0, none⟩) (Kd.R_types HO476.out BK481.out (by decide)) (fun _ hk => hk.2) (.slice Ao20 t477.length co20)) (fun _ h_ => h_.1))) hb); have n2_ := Aside0.mk (Kd.R_below (rU (Kd.R_mono (Kd.R_far (p := ⟨gb481, 0, none⟩) (Kd.R_types HO479.out BK481.out (by decide)) (fun _ hk => hk.2) (.slice Ao20 t477.length co20)) (fun _ h_ => h_.1))) hb); have n3_ := Aside0.mk (blk_below (g := gb472) (o := .cells #[.slice Ao11 t468.length co11] 27 (0, 0)) (by (with_reducible repeat (first | refine blk_drewN ?_ _ | refine blk_drew ?_ | refine blk_alloc ?_ _)); refine blk_far ?_ NB472_481.out _; (with_reducible repeat (first | refine blk_drewN ?_ _ | refine blk_drew ?_ | refine blk_alloc ?_ _)); exact BK472.out) hb); have n4_ := Aside0.mk (blk_below (g := gb473) (o := .cells #[.slice none 0 0] 27 (0, 0)) (by (with_reducible repeat (first | refine blk_drewN ?_ _ | refine blk_drew ?_ | refine blk_alloc ?_ _)); refine blk_far ?_ NB473_481.out _; (with_reducible repeat (first | refine blk_drewN ?_ _ | refine blk_drew ?_ | refine blk_alloc ?_ _)); exact BK473.out) hb); have n5_ := Aside0.mk (blk_below (g := gb481) (o := .cells #[.slice Ao20 t477.length co20] 27 (0, 0)) (by (with_reducible repeat (first | refine blk_drewN ?_ _ | refine blk_drew ?_ | refine blk_alloc ?_ _)); refine blk_put (cs := #[.slice none 0 0]) ?_ 0 _ rfl; (with_reducible repeat (first | refine blk_drewN ?_ _ | refine blk_drew ?_ | refine blk_alloc ?_ _)); exact BK481.out) hb); have n6_ := Aside0.mk (below_step (by repeat (first | (with_reducible first | exact HB.out | apply below_alloc | apply pw_below_drewN | apply below_drew1 | refine below_set ?_ GE472.out | refine below_set ?_ GE473.out | refine below_set ?_ GE481.out) | exact HB.out)) hb); clear HO470; clear HO476; clear HO479; clear BK472; clear BK473; clear BK481; clear HB; have HO470 := n0_; have HO476 := n1_; have HO479 := n2_; have BK472 := n3_; have BK473 := n4_; have BK481 := n5_; have HB := n6_; clear n0_ n1_ n2_ n3_ n4_ n5_ n6_; (try clear hb); (try clear hb2); (try clear hk); (try clear hi); have hcz34_0 : w33.cell? ⟨gb473, 0, none⟩ = some (.slice none 0 0) := (blk_cell BK473.out 0).trans rfl; have hfz34_0 := blk_frozen BK473.out 0) | (go_at_call 20; (refine (refcount_Counts_Used.calls _ _ ([] : List Int) t483 _ ?side1 ?side2 A24.out).mono ?_); (case side1 => exact Kd.C_nil _ _); (case side2 => exact Nat.le_refl _); rintro e w35 ⟨rfl, hb⟩; have n0_ := Aside0.mk (Kd.R_below (rU HO470.out) hb); have n1_ := Aside0.mk (Kd.R_below (rU HO476.out) hb); have n2_ := Aside0.mk (Kd.R_below (rU HO479.out) hb); have n3_ := Aside0.mk (blk_below (g := gb472) (o := .cells #[.slice Ao11 t468.length co11] 27 (0, 0)) (kU BK472.out) hb); have n4_ := Aside0.mk (blk_below (g := gb473) (o := .cells #[.slice none 0 0] 27 (0, 0)) (kU BK473.out) hb); have n5_ := Aside0.mk (blk_below (g := gb481) (o := .cells #[.slice Ao20 t477.length co20] 27 (0, 0)) (kU BK481.out) hb); have n6_ := Aside0.mk (below_step (by repeat (first | (with_reducible first | exact HB.out | apply below_alloc | apply pw_below_drewN | apply below_drew1 | refine below_set ?_ GE472.out | refine below_set ?_ GE473.out | refine below_set ?_ GE481.out) | exact HB.out)) hb); clear HO470; clear HO476; clear HO479; clear BK472; clear BK473; clear BK481; clear HB; have HO470 := n0_; have HO476 := n1_; have HO479 := n2_; have BK472 := n3_; have BK473 := n4_; have BK481 := n5_; have HB := n6_; clear n0_ n1_ n2_ n3_ n4_ n5_ n6_; (try clear hb); (try clear hb2); (try clear hk); (try clear hi); have hcz36_0 : w35.cell? ⟨gb473, 0, none⟩ = some (.slice none 0 0) := (blk_cell BK473.out 0).trans rfl; have hfz36_0 := blk_frozen BK473.out 0) | (go_at_call 19; (refine (refcount_Counts_Total.calls _ _ ([] : List Int) t484 _ ?side1 ?side2 A26.out).mono ?_); (case side1 => exact Kd.C_nil _ _); (case side2 => exact Nat.le_refl _); rintro e w37 ⟨rfl, hb⟩; have n0_ := Aside0.mk (Kd.R_below (rU HO470.out) hb); have n1_ := Aside0.mk (Kd.R_below (rU HO476.out) hb); have n2_ := Aside0.mk (Kd.R_below (rU HO479.out) hb); have n3_ := Aside0.mk (blk_below (g := gb472) (o := .cells #[.slice Ao11 t468.length co11] 27 (0, 0)) (kU BK472.out) hb); have n4_ := Aside0.mk (blk_below (g := gb473) (o := .cells #[.slice none 0 0] 27 (0, 0)) (kU BK473.out) hb); have n5_ := Aside0.mk (blk_below (g := gb481) (o := .cells #[.slice Ao20 t477.length co20] 27 (0, 0)) (kU BK481.out) hb); have n6_ := Aside0.mk (below_step (by repeat (first | (with_reducible first | exact HB.out | apply below_alloc | apply pw_below_drewN | apply below_drew1 | refine below_set ?_ GE472.out | refine below_set ?_ GE473.out | refine below_set ?_ GE481.out) | exact HB.out)) hb); clear HO470; clear HO476; clear HO479; clear BK472; clear BK473; clear BK481; clear HB; have HO470 := n0_; have HO476 := n1_; have HO479 := n2_; have BK472 := n3_; have BK473 := n4_; have BK481 := n5_; have HB := n6_; clear n0_ n1_ n2_ n3_ n4_ n5_ n6_; (try clear hb); (try clear hb2); (try clear hk); (try clear hi); have hcz38_0 : w37.cell? ⟨gb473, 0, none⟩ = some (.slice none 0 0) := (blk_cell BK473.out 0).trans rfl; have hfz38_0 := blk_frozen BK473.out 0) | (go_at_call 18; (refine (refcount_Counts_Zero.calls k _ _ ([] : List Int) t485 _ ?side1 ?side2 A28.out).mono ?_); (case side1 => exact Kd.C_nil _ _); (case side2 => exact Nat.le_refl _); rintro e w39 ⟨v486, rfl, ho0, hb⟩; have n0_ := Aside0.mk (Kd.R_below (rU HO470.out) hb); have n1_ := Aside0.mk (Kd.R_elder' (rU HO476.out) (Kd.R_base ho0) hb); have n2_ := Aside0.mk (Kd.R_below (rU HO479.out) hb); have n3_ := Aside0.mk (Kd.R_lower (Kd.R_new' ho0 (Kd.R_lt (rU HO476.out))) (below_size (by repeat (first | (with_reducible first | exact HB.out | apply below_alloc | apply pw_below_drewN | apply below_drew1 | refine below_set ?_ GE472.out | refine below_set ?_ GE473.out | refine below_set ?_ GE481.out) | exact HB.out)))); have n4_ := Aside0.mk (blk_below (g := gb472) (o := .cells #[.slice Ao11 t468.length co11] 27 (0, 0)) (kU BK472.out) hb); have n5_ := Aside0.mk (blk_below (g := gb473) (o := .cells #[.slice none 0 0] 27 (0, 0)) (kU BK473.out) hb); have n6_ := Aside0.mk (blk_below (g := gb481) (o := .cells #[.slice Ao20 t477.length co20] 27 (0, 0)) (kU BK481.out) hb); have n7_ := Aside0.mk (below_step (by repeat (first | (with_reducible first | exact HB.out | apply below_alloc | apply pw_below_drewN | apply below_drew1 | refine below_set ?_ GE472.out | refine below_set ?_ GE473.out | refine below_set ?_ GE481.out) | exact HB.out)) hb); clear HO470; clear HO476; clear HO479; clear BK472; clear BK473; clear BK481; clear HB; have HO470 := n0_; have HO476 := n1_; have HO479 := n2_; have HO487 := n3_; have BK472 := n4_; have BK473 := n5_; have BK481 := n6_; have HB := n7_; clear n0_ n1_ n2_ n3_ n4_ n5_ n6_ n7_; (try clear hb); (try clear hb2); (try clear hk); (try clear hi); (try clear ho0); obtain ⟨Ao40, co40, eo40⟩ := Kd.R_slice HO487.out; subst eo40))
       go_meet
       case rel => exact ⟨_, ((t480 != 2)), (by first | rfl | (simp; done) | (simp [*]; done)), H', ⟨by first | omega | exact Nat.le_refl _⟩, ⟨rU HO470.out⟩, ⟨rU HO479.out⟩, ⟨by (with_reducible repeat (first | refine blk_drewN ?_ _ | refine blk_drew ?_ | refine blk_alloc ?_ _)); exact BK472.out⟩, ⟨by (with_reducible repeat (first | refine blk_drewN ?_ _ | refine blk_drew ?_ | refine blk_alloc ?_ _)); exact BK473.out⟩, ⟨by (with_reducible repeat (first | refine blk_drewN ?_ _ | refine blk_drew ?_ | refine blk_alloc ?_ _)); exact BK481.out⟩, ⟨by repeat (first | (with_reducible first | exact HB.out | apply below_alloc | apply pw_below_drewN | apply below_drew1 | refine below_set ?_ GE472.out | refine below_set ?_ GE473.out | refine below_set ?_ GE481.out) | exact HB.out)⟩⟩
      ·
       rw [if_neg c29] at H
       have c29b0 : ((t485.length : Int) == 0) = false := beq_eq_false_iff_ne.mpr c29
       have c29b1 : ((t485.length : Int) != 0) = true := bne_iff_ne.mpr c29
       have c29b2 : ¬ (t485 = []) := fun h_ => c29 (by rw [h_]; rfl)
       have H' := Aside0.mk H
       clear H
       have hnb41 := NB473_472.out
       have hnc41 := NB472_473.out
       have hnb42 := NB473_481.out
       have hnc42 := NB481_473.out
       have hcz43_0 : w19.cell? ⟨gb473, 0, none⟩ = some (.slice none 0 0) := (blk_cell BK473.out 0).trans rfl
       have hfz43_0 := blk_frozen BK473.out 0
       go_wp2_with (first | ((with_reducible refine gate_callee (f := 21) rfl ?_); refine goesL_ (some 23) rfl rfl Try.func21 (by kernel_rfl) rfl #[.agg #[.slice none 0 0]] rfl (by (try simp only [List.map_toArray, List.map_cons, List.map_nil]); first | done | rfl | (simp only [List.length_drop, List.length_take]; rfl)) ?_; (refine (refcount_Counts_Slots.calls _ _ ([] : List Int) t482 _ ?side1 ?side2 A22.out).mono ?_); (case side1 => exact Kd.C_nil _ _); (case side2 => exact Nat.le_refl _); rintro e w44 ⟨rfl, hb⟩; refine ⟨_, rfl, ?_⟩; have n0_ := Aside0.mk (Kd.R_below (rU (Kd.R_mono (Kd.R_far (p := ⟨gb481, 0, none⟩) (Kd.R_types HO470.out BK481.out (by decide)) (fun _ hk => hk.2) (.slice Ao20 t477.length co20)) (fun _ h_ => h_.1))) hb); have n1_ := Aside0.mk (Kd.R_below (rU (Kd.R_mono (Kd.R_far (p := ⟨gb481, 0, none⟩) (Kd.R_types HO476.out BK481.out (by decide)) (fun _ hk => hk.2) (.slice Ao20 t477.length co20)) (fun _ h_ => h_.1))) hb); have n2_ := Aside0.mk (Kd.R_below (rU (Kd.R_mono (Kd.R_far (p := ⟨gb481, 0, none⟩) (Kd.R_types HO479.out BK481.out (by decide)) (fun _ hk => hk.2) (.slice Ao20 t477.length co20)) (fun _ h_ => h_.1))) hb); have n3_ := Aside0.mk (blk_below (g := gb472) (o := .cells #[.slice Ao11 t468.length co11] 27 (0, 0)) (by (with_reducible repeat (first | refine blk_drewN ?_ _ | refine blk_drew ?_ | refine blk_alloc ?_ _)); refine blk_far ?_ NB472_481.out _; (with_reducible repeat (first | refine blk_drewN ?_ _ | refine blk_drew ?_ | refine blk_alloc ?_ _)); exact BK472.out) hb); have n4_ := Aside0.mk (blk_below (g := gb473) (o := .cells #[.slice none 0 0] 27 (0, 0)) (by (with_reducible repeat (first | refine blk_drewN ?_ _ | refine blk_drew ?_ | refine blk_alloc ?_ _)); refine blk_far ?_ NB473_481.out _; (with_reducible repeat (first | refine blk_drewN ?_ _ | refine blk_drew ?_ | refine blk_alloc ?_ _)); exact BK473.out) hb); have n5_ := Aside0.mk (blk_below (g := gb481) (o := .cells #[.slice Ao20 t477.length co20] 27 (0, 0)) (by (with_reducible repeat (first | refine blk_drewN ?_ _ | refine blk_drew ?_ | refine blk_alloc ?_ _)); refine blk_put (cs := #[.slice none 0 0]) ?_ 0 _ rfl; (with_reducible repeat (first | refine blk_drewN ?_ _ | refine blk_drew ?_ | refine blk_alloc ?_ _)); exact BK481.out) hb); have n6_ := Aside0.mk (below_step (by repeat (first | (with_reducible first | exact HB.out | apply below_alloc | apply pw_below_drewN | apply below_drew1 | refine below_set ?_ GE472.out | refine below_set ?_ GE473.out | refine below_set ?_ GE481.out) | exact HB.out)) hb); clear HO470; clear HO476; clear HO479; clear BK472; clear BK473; clear BK481; clear HB; have HO470 := n0_; have HO476 := n1_; have HO479 := n2_; have BK472 := n3_; have BK473 := n4_; have BK481 := n5_; have HB := n6_; clear n0_ n1_ n2_ n3_ n4_ n5_ n6_; (try clear hb); (try clear hb2); (try clear hk); (try clear hi); have hcz45_0 : w44.cell? ⟨gb473, 0, none⟩ = some (.slice none 0 0) := (blk_cell BK473.out 0).trans rfl; have hfz45_0 := blk_frozen BK473.out 0) | (go_at_call 20; (refine (refcount_Counts_Used.calls _ _ ([] : List Int) t483 _ ?side1 ?side2 A24.out).mono ?_); (case side1 => exact Kd.C_nil _ _); (case side2 => exact Nat.le_refl _); rintro e w46 ⟨rfl, hb⟩; have n0_ := Aside0.mk (Kd.R_below (rU HO470.out) hb); have n1_ := Aside0.mk (Kd.R_below (rU HO476.out) hb); have n2_ := Aside0.mk (Kd.R_below (rU HO479.out) hb); have n3_ := Aside0.mk (blk_below (g := gb472) (o := .cells #[.slice Ao11 t468.length co11] 27 (0, 0)) (kU BK472.out) hb); have n4_ := Aside0.mk (blk_below (g := gb473) (o := .cells #[.slice none 0 0] 27 (0, 0)) (kU BK473.out) hb); have n5_ := Aside0.mk (blk_below (g := gb481) (o := .cells #[.slice Ao20 t477.length co20] 27 (0, 0)) (kU BK481.out) hb); have n6_ := Aside0.mk (below_step (by repeat (first | (with_reducible first | exact HB.out | apply below_alloc | apply pw_below_drewN | apply below_drew1 | refine below_set ?_ GE472.out | refine below_set ?_ GE473.out | refine below_set ?_ GE481.out) | exact HB.out)) hb); clear HO470; clear HO476; clear HO479; clear BK472; clear BK473; clear BK481; clear HB; have HO470 := n0_; have HO476 := n1_; have HO479 := n2_; have BK472 := n3_; have BK473 := n4_; have BK481 := n5_; have HB := n6_; clear n0_ n1_ n2_ n3_ n4_ n5_ n6_; (try clear hb); (try clear hb2); (try clear hk); (try clear hi); have hcz47_0 : w46.cell? ⟨gb473, 0, none⟩ = some (.slice none 0 0) := (blk_cell BK473.out 0).trans rfl; have hfz47_0 := blk_frozen BK473.out 0) | (go_at_call 19; (refine (refcount_Counts_Total.calls _ _ ([] : List Int) t484 _ ?side1 ?side2 A26.out).mono ?_); (case side1 => exact Kd.C_nil _ _); (case side2 => exact Nat.le_refl _); rintro e w48 ⟨rfl, hb⟩; have n0_ := Aside0.mk (Kd.R_below (rU HO470.out) hb); have n1_ := Aside0.mk (Kd.R_below (rU HO476.out) hb); have n2_ := Aside0.mk (Kd.R_below (rU HO479.out) hb); have n3_ := Aside0.mk (blk_below (g := gb472) (o := .cells #[.slice Ao11 t468.length co11] 27 (0, 0)) (kU BK472.out) hb); have n4_ := Aside0.mk (blk_below (g := gb473) (o := .cells #[.slice none 0 0] 27 (0, 0)) (kU BK473.out) hb); have n5_ := Aside0.mk (blk_below (g := gb481) (o := .cells #[.slice Ao20 t477.length co20] 27 (0, 0)) (kU BK481.out) hb); have n6_ := Aside0.mk (below_step (by repeat (first | (with_reducible first | exact HB.out | apply below_alloc | apply pw_below_drewN | apply below_drew1 | refine below_set ?_ GE472.out | refine below_set ?_ GE473.out | refine below_set ?_ GE481.out) | exact HB.out)) hb); clear HO470; clear HO476; clear HO479; clear BK472; clear BK473; clear BK481; clear HB; have HO470 := n0_; have HO476 := n1_; have HO479 := n2_; have BK472 := n3_; have BK473 := n4_; have BK481 := n5_; have HB := n6_; clear n0_ n1_ n2_ n3_ n4_ n5_ n6_; (try clear hb); (try clear hb2); (try clear hk); (try clear hi); have hcz49_0 : w48.cell? ⟨gb473, 0, none⟩ = some (.slice none 0 0) := (blk_cell BK473.out 0).trans rfl; have hfz49_0 := blk_frozen BK473.out 0) | (go_at_call 18; (refine (refcount_Counts_Zero.calls k _ _ ([] : List Int) t485 _ ?side1 ?side2 A28.out).mono ?_); (case side1 => exact Kd.C_nil _ _); (case side2 => exact Nat.le_refl _); rintro e w50 ⟨v486, rfl, ho0, hb⟩; have n0_ := Aside0.mk (Kd.R_below (rU HO470.out) hb); have n1_ := Aside0.mk (Kd.R_elder' (rU HO476.out) (Kd.R_base ho0) hb); have n2_ := Aside0.mk (Kd.R_below (rU HO479.out) hb); have n3_ := Aside0.mk (Kd.R_lower (Kd.R_new' ho0 (Kd.R_lt (rU HO476.out))) (below_size (by repeat (first | (with_reducible first | exact HB.out | apply below_alloc | apply pw_below_drewN | apply below_drew1 | refine below_set ?_ GE472.out | refine below_set ?_ GE473.out | refine below_set ?_ GE481.out) | exact HB.out)))); have n4_ := Aside0.mk (blk_below (g := gb472) (o := .cells #[.slice Ao11 t468.length co11] 27 (0, 0)) (kU BK472.out) hb); have n5_ := Aside0.mk (blk_below (g := gb473) (o := .cells #[.slice none 0 0] 27 (0, 0)) (kU BK473.out) hb); have n6_ := Aside0.mk (blk_below (g := gb481) (o := .cells #[.slice Ao20 t477.length co20] 27 (0, 0)) (kU BK481.out) hb); have n7_ := Aside0.mk (below_step (by repeat (first | (with_reducible first | exact HB.out | apply below_alloc | apply pw_below_drewN | apply below_drew1 | refine below_set ?_ GE472.out | refine below_set ?_ GE473.out | refine below_set ?_ GE481.out) | exact HB.out)) hb); clear HO470; clear HO476; clear HO479; clear BK472; clear BK473; clear BK481; clear HB; have HO470 := n0_; have HO476 := n1_; have HO479 := n2_; have HO487 := n3_; have BK472 := n4_; have BK473 := n5_; have BK481 := n6_; have HB := n7_; clear n0_ n1_ n2_ n3_ n4_ n5_ n6_ n7_; (try clear hb); (try clear hb2); (try clear hk); (try clear hi); (try clear ho0); obtain ⟨Ao51, co51, eo51⟩ := Kd.R_slice HO487.out; subst eo51))
       go_meet
       case rel => exact ⟨_, (true), (by first | rfl | (simp; done) | (simp [*]; done)), H', ⟨by first | omega | exact Nat.le_refl _⟩, ⟨rU HO470.out⟩, ⟨rU HO479.out⟩, ⟨by (with_reducible repeat (first | refine blk_drewN ?_ _ | refine blk_drew ?_ | refine blk_alloc ?_ _)); exact BK472.out⟩, ⟨by (with_reducible repeat (first | refine blk_drewN ?_ _ | refine blk_drew ?_ | refine blk_alloc ?_ _)); exact BK473.out⟩, ⟨by (with_reducible repeat (first | refine blk_drewN ?_ _ | refine blk_drew ?_ | refine blk_alloc ?_ _)); exact BK481.out⟩, ⟨by repeat (first | (with_reducible first | exact HB.out | apply below_alloc | apply pw_below_drewN | apply below_drew1 | refine below_set ?_ GE472.out | refine below_set ?_ GE473.out | refine below_set ?_ GE481.out) | exact HB.out)⟩⟩
     ·
      rw [if_neg c27] at H
      have c27b0 : (t484 == 0) = false := beq_eq_false_iff_ne.mpr c27
      have c27b1 : (t484 != 0) = true := bne_iff_ne.mpr c27
      have H' := Aside0.mk H
      clear H
      have hnb52 := NB473_472.out
      have hnc52 := NB472_473.out
      have hnb53 := NB473_481.out
      have hnc53 := NB481_473.out
      have hcz54_0 : w19.cell? ⟨gb473, 0, none⟩ = some (.slice none 0 0) := (blk_cell BK473.out 0).trans rfl
      have hfz54_0 := blk_frozen BK473.out 0
      go_wp2_with (first | ((with_reducible refine gate_callee (f := 21) rfl ?_); refine goesL_ (some 23) rfl rfl Try.func21 (by kernel_rfl) rfl #[.agg #[.slice none 0 0]] rfl (by (try simp only [List.map_toArray, List.map_cons, List.map_nil]); first | done | rfl | (simp only [List.length_drop, List.length_take]; rfl)) ?_; (refine (refcount_Counts_Slots.calls _ _ ([] : List Int) t482 _ ?side1 ?side2 A22.out).mono ?_); (case side1 => exact Kd.C_nil _ _); (case side2 => exact Nat.le_refl _); rintro e w55 ⟨rfl, hb⟩; refine ⟨_, rfl, ?_⟩; have n0_ := Aside0.mk (Kd.R_below (rU (Kd.R_mono (Kd.R_far (p := ⟨gb481, 0, none⟩) (Kd.R_types HO470.out BK481.out (by decide)) (fun _ hk => hk.2) (.slice Ao20 t477.length co20)) (fun _ h_ => h_.1))) hb); have n1_ := Aside0.mk (Kd.R_below (rU (Kd.R_mono (Kd.R_far (p := ⟨gb481, 0, none⟩) (Kd.R_types HO476.out BK481.out (by decide)) (fun _ hk => hk.2) (.slice Ao20 t477.length co20)) (fun _ h_ => h_.1))) hb); have n2_ := Aside0.mk (Kd.R_below (rU (Kd.R_mono (Kd.R_far (p := ⟨gb481, 0, none⟩) (Kd.R_types HO479.out BK481.out (by decide)) (fun _ hk => hk.2) (.slice Ao20 t477.length co20)) (fun _ h_ => h_.1))) hb); have n3_ := Aside0.mk (blk_below (g := gb472) (o := .cells #[.slice Ao11 t468.length co11] 27 (0, 0)) (by (with_reducible repeat (first | refine blk_drewN ?_ _ | refine blk_drew ?_ | refine blk_alloc ?_ _)); refine blk_far ?_ NB472_481.out _; (with_reducible repeat (first | refine blk_drewN ?_ _ | refine blk_drew ?_ | refine blk_alloc ?_ _)); exact BK472.out) hb); have n4_ := Aside0.mk (blk_below (g := gb473) (o := .cells #[.slice none 0 0] 27 (0, 0)) (by (with_reducible repeat (first | refine blk_drewN ?_ _ | refine blk_drew ?_ | refine blk_alloc ?_ _)); refine blk_far ?_ NB473_481.out _; (with_reducible repeat (first | refine blk_drewN ?_ _ | refine blk_drew ?_ | refine blk_alloc ?_ _)); exact BK473.out) hb); have n5_ := Aside0.mk (blk_below (g := gb481) (o := .cells #[.slice Ao20 t477.length co20] 27 (0, 0)) (by (with_reducible repeat (first | refine blk_drewN ?_ _ | refine blk_drew ?_ | refine blk_alloc ?_ _)); refine blk_put (cs := #[.slice none 0 0]) ?_ 0 _ rfl; (with_reducible repeat (first | refine blk_drewN ?_ _ | refine blk_drew ?_ | refine blk_alloc ?_ _)); exact BK481.out) hb); have n6_ := Aside0.mk (below_step (by repeat (first | (with_reducible first | exact HB.out | apply below_alloc | apply pw_below_drewN | apply below_drew1 | refine below_set ?_ GE472.out | refine below_set ?_ GE473.out | refine below_set ?_ GE481.out) | exact HB.out)) hb); clear HO470; clear HO476; clear HO479; clear BK472; clear BK473; clear BK481; clear HB; have HO470 := n0_; have HO476 := n1_; have HO479 := n2_; have BK472 := n3_; have BK473 := n4_; have BK481 := n5_; have HB := n6_; clear n0_ n1_ n2_ n3_ n4_ n5_ n6_; (try clear hb); (try clear hb2); (try clear hk); (try clear hi); have hcz56_0 : w55.cell? ⟨gb473, 0, none⟩ = some (.slice none 0 0) := (blk_cell BK473.out 0).trans rfl; have hfz56_0 := blk_frozen BK473.out 0) | (go_at_call 20; (refine (refcount_Counts_Used.calls _ _ ([] : List Int) t483 _ ?side1 ?side2 A24.out).mono ?_); (case side1 => exact Kd.C_nil _ _); (case side2 => exact Nat.le_refl _); rintro e w57 ⟨rfl, hb⟩; have n0_ := Aside0.mk (Kd.R_below (rU HO470.out) hb); have n1_ := Aside0.mk (Kd.R_below (rU HO476.out) hb); have n2_ := Aside0.mk (Kd.R_below (rU HO479.out) hb); have n3_ := Aside0.mk (blk_below (g := gb472) (o := .cells #[.slice Ao11 t468.length co11] 27 (0, 0)) (kU BK472.out) hb); have n4_ := Aside0.mk (blk_below (g := gb473) (o := .cells #[.slice none 0 0] 27 (0, 0)) (kU BK473.out) hb); have n5_ := Aside0.mk (blk_below (g := gb481) (o := .cells #[.slice Ao20 t477.length co20] 27 (0, 0)) (kU BK481.out) hb); have n6_ := Aside0.mk (below_step (by repeat (first | (with_reducible first | exact HB.out | apply below_alloc | apply pw_below_drewN | apply below_drew1 | refine below_set ?_ GE472.out | refine below_set ?_ GE473.out | refine below_set ?_ GE481.out) | exact HB.out)) hb); clear HO470; clear HO476; clear HO479; clear BK472; clear BK473; clear BK481; clear HB; have HO470 := n0_; have HO476 := n1_; have HO479 := n2_; have BK472 := n3_; have BK473 := n4_; have BK481 := n5_; have HB := n6_; clear n0_ n1_ n2_ n3_ n4_ n5_ n6_; (try clear hb); (try clear hb2); (try clear hk); (try clear hi); have hcz58_0 : w57.cell? ⟨gb473, 0, none⟩ = some (.slice none 0 0) := (blk_cell BK473.out 0).trans rfl; have hfz58_0 := blk_frozen BK473.out 0) | (go_at_call 19; (refine (refcount_Counts_Total.calls _ _ ([] : List Int) t484 _ ?side1 ?side2 A26.out).mono ?_); (case side1 => exact Kd.C_nil _ _); (case side2 => exact Nat.le_refl _); rintro e w59 ⟨rfl, hb⟩; have n0_ := Aside0.mk (Kd.R_below (rU HO470.out) hb); have n1_ := Aside0.mk (Kd.R_below (rU HO476.out) hb); have n2_ := Aside0.mk (Kd.R_below (rU HO479.out) hb); have n3_ := Aside0.mk (blk_below (g := gb472) (o := .cells #[.slice Ao11 t468.length co11] 27 (0, 0)) (kU BK472.out) hb); have n4_ := Aside0.mk (blk_below (g := gb473) (o := .cells #[.slice none 0 0] 27 (0, 0)) (kU BK473.out) hb); have n5_ := Aside0.mk (blk_below (g := gb481) (o := .cells #[.slice Ao20 t477.length co20] 27 (0, 0)) (kU BK481.out) hb); have n6_ := Aside0.mk (below_step (by repeat (first | (with_reducible first | exact HB.out | apply below_alloc | apply pw_below_drewN | apply below_drew1 | refine below_set ?_ GE472.out | refine below_set ?_ GE473.out | refine below_set ?_ GE481.out) | exact HB.out)) hb); clear HO470; clear HO476; clear HO479; clear BK472; clear BK473; clear BK481; clear HB; have HO470 := n0_; have HO476 := n1_; have HO479 := n2_; have BK472 := n3_; have BK473 := n4_; have BK481 := n5_; have HB := n6_; clear n0_ n1_ n2_ n3_ n4_ n5_ n6_; (try clear hb); (try clear hb2); (try clear hk); (try clear hi)))
      go_meet
      case rel => exact ⟨_, (true), (by first | rfl | (simp; done) | (simp [*]; done)), H', ⟨by first | omega | exact Nat.le_refl _⟩, ⟨rU HO470.out⟩, ⟨rU HO479.out⟩, ⟨by (with_reducible repeat (first | refine blk_drewN ?_ _ | refine blk_drew ?_ | refine blk_alloc ?_ _)); exact BK472.out⟩, ⟨by (with_reducible repeat (first | refine blk_drewN ?_ _ | refine blk_drew ?_ | refine blk_alloc ?_ _)); exact BK473.out⟩, ⟨by (with_reducible repeat (first | refine blk_drewN ?_ _ | refine blk_drew ?_ | refine blk_alloc ?_ _)); exact BK481.out⟩, ⟨by repeat (first | (with_reducible first | exact HB.out | apply below_alloc | apply pw_below_drewN | apply below_drew1 | refine below_set ?_ GE472.out | refine below_set ?_ GE473.out | refine below_set ?_ GE481.out) | exact HB.out)⟩⟩
    ·
     rw [if_neg c25] at H
     have c25b0 : (t483 == 0) = false := beq_eq_false_iff_ne.mpr c25
     have c25b1 : (t483 != 0) = true := bne_iff_ne.mpr c25
     have H' := Aside0.mk H
     clear H
     have hnb60 := NB473_472.out
     have hnc60 := NB472_473.out
     have hnb61 := NB473_481.out
     have hnc61 := NB481_473.out
     have hcz62_0 : w19.cell? ⟨gb473, 0, none⟩ = some (.slice none 0 0) := (blk_cell BK473.out 0).trans rfl
     have hfz62_0 := blk_frozen BK473.out 0
     go_wp2_with (first | ((with_reducible refine gate_callee (f := 21) rfl ?_); refine goesL_ (some 23) rfl rfl Try.func21 (by kernel_rfl) rfl #[.agg #[.slice none 0 0]] rfl (by (try simp only [List.map_toArray, List.map_cons, List.map_nil]); first | done | rfl | (simp only [List.length_drop, List.length_take]; rfl)) ?_; (refine (refcount_Counts_Slots.calls _ _ ([] : List Int) t482 _ ?side1 ?side2 A22.out).mono ?_); (case side1 => exact Kd.C_nil _ _); (case side2 => exact Nat.le_refl _); rintro e w63 ⟨rfl, hb⟩; refine ⟨_, rfl, ?_⟩; have n0_ := Aside0.mk (Kd.R_below (rU (Kd.R_mono (Kd.R_far (p := ⟨gb481, 0, none⟩) (Kd.R_types HO470.out BK481.out (by decide)) (fun _ hk => hk.2) (.slice Ao20 t477.length co20)) (fun _ h_ => h_.1))) hb); have n1_ := Aside0.mk (Kd.R_below (rU (Kd.R_mono (Kd.R_far (p := ⟨gb481, 0, none⟩) (Kd.R_types HO476.out BK481.out (by decide)) (fun _ hk => hk.2) (.slice Ao20 t477.length co20)) (fun _ h_ => h_.1))) hb); have n2_ := Aside0.mk (Kd.R_below (rU (Kd.R_mono (Kd.R_far (p := ⟨gb481, 0, none⟩) (Kd.R_types HO479.out BK481.out (by decide)) (fun _ hk => hk.2) (.slice Ao20 t477.length co20)) (fun _ h_ => h_.1))) hb); have n3_ := Aside0.mk (blk_below (g := gb472) (o := .cells #[.slice Ao11 t468.length co11] 27 (0, 0)) (by (with_reducible repeat (first | refine blk_drewN ?_ _ | refine blk_drew ?_ | refine blk_alloc ?_ _)); refine blk_far ?_ NB472_481.out _; (with_reducible repeat (first | refine blk_drewN ?_ _ | refine blk_drew ?_ | refine blk_alloc ?_ _)); exact BK472.out) hb); have n4_ := Aside0.mk (blk_below (g := gb473) (o := .cells #[.slice none 0 0] 27 (0, 0)) (by (with_reducible repeat (first | refine blk_drewN ?_ _ | refine blk_drew ?_ | refine blk_alloc ?_ _)); refine blk_far ?_ NB473_481.out _; (with_reducible repeat (first | refine blk_drewN ?_ _ | refine blk_drew ?_ | refine blk_alloc ?_ _)); exact BK473.out) hb); have n5_ := Aside0.mk (blk_below (g := gb481) (o := .cells #[.slice Ao20 t477.length co20] 27 (0, 0)) (by (with_reducible repeat (first | refine blk_drewN ?_ _ | refine blk_drew ?_ | refine blk_alloc ?_ _)); refine blk_put (cs := #[.slice none 0 0]) ?_ 0 _ rfl; (with_reducible repeat (first | refine blk_drewN ?_ _ | refine blk_drew ?_ | refine blk_alloc ?_ _)); exact BK481.out) hb); have n6_ := Aside0.mk (below_step (by repeat (first | (with_reducible first | exact HB.out | apply below_alloc | apply pw_below_drewN | apply below_drew1 | refine below_set ?_ GE472.out | refine below_set ?_ GE473.out | refine below_set ?_ GE481.out) | exact HB.out)) hb); clear HO470; clear HO476; clear HO479; clear BK472; clear BK473; clear BK481; clear HB; have HO470 := n0_; have HO476 := n1_; have HO479 := n2_; have BK472 := n3_; have BK473 := n4_; have BK481 := n5_; have HB := n6_; clear n0_ n1_ n2_ n3_ n4_ n5_ n6_; (try clear hb); (try clear hb2); (try clear hk); (try clear hi); have hcz64_0 : w63.cell? ⟨gb473, 0, none⟩ = some (.slice none 0 0) := (blk_cell BK473.out 0).trans rfl; have hfz64_0 := blk_frozen BK473.out 0) | (go_at_call 20; (refine (refcount_Counts_Used.calls _ _ ([] : List Int) t483 _ ?side1 ?side2 A24.out).mono ?_); (case side1 => exact Kd.C_nil _ _); (case side2 => exact Nat.le_refl _); rintro e w65 ⟨rfl, hb⟩; have n0_ := Aside0.mk (Kd.R_below (rU HO470.out) hb); have n1_ := Aside0.mk (Kd.R_below (rU HO476.out) hb); have n2_ := Aside0.mk (Kd.R_below (rU HO479.out) hb); have n3_ := Aside0.mk (blk_below (g := gb472) (o := .cells #[.slice Ao11 t468.length co11] 27 (0, 0)) (kU BK472.out) hb); have n4_ := Aside0.mk (blk_below (g := gb473) (o := .cells #[.slice none 0 0] 27 (0, 0)) (kU BK473.out) hb); have n5_ := Aside0.mk (blk_below (g := gb481) (o := .cells #[.slice Ao20 t477.length co20] 27 (0, 0)) (kU BK481.out) hb); have n6_ := Aside0.mk (below_step (by repeat (first | (with_reducible first | exact HB.out | apply below_alloc | apply pw_below_drewN | apply below_drew1 | refine below_set ?_ GE472.out | refine below_set ?_ GE473.out | refine below_set ?_ GE481.out) | exact HB.out)) hb); clear HO470; clear HO476; clear HO479; clear BK472; clear BK473; clear BK481; clear HB; have HO470 := n0_; have HO476 := n1_; have HO479 := n2_; have BK472 := n3_; have BK473 := n4_; have BK481 := n5_; have HB := n6_; clear n0_ n1_ n2_ n3_ n4_ n5_ n6_; (try clear hb); (try clear hb2); (try clear hk); (try clear hi)))
     go_meet
     case rel => exact ⟨_, (true), (by first | rfl | (simp; done) | (simp [*]; done)), H', ⟨by first | omega | exact Nat.le_refl _⟩, ⟨rU HO470.out⟩, ⟨rU HO479.out⟩, ⟨by (with_reducible repeat (first | refine blk_drewN ?_ _ | refine blk_drew ?_ | refine blk_alloc ?_ _)); exact BK472.out⟩, ⟨by (with_reducible repeat (first | refine blk_drewN ?_ _ | refine blk_drew ?_ | refine blk_alloc ?_ _)); exact BK473.out⟩, ⟨by (with_reducible repeat (first | refine blk_drewN ?_ _ | refine blk_drew ?_ | refine blk_alloc ?_ _)); exact BK481.out⟩, ⟨by repeat (first | (with_reducible first | exact HB.out | apply below_alloc | apply pw_below_drewN | apply below_drew1 | refine below_set ?_ GE472.out | refine below_set ?_ GE473.out | refine below_set ?_ GE481.out) | exact HB.out)⟩⟩
   ·
    rw [if_neg c23] at H
    have c23b0 : (t482 == 0) = false := beq_eq_false_iff_ne.mpr c23
    have c23b1 : (t482 != 0) = true := bne_iff_ne.mpr c23
    (first | rw [c23b0] | (simp only [i64_w, i32_w]; rw [c23b0]) | skip)
    have H' := Aside0.mk H
    clear H
    have hnb66 := NB473_472.out
    have hnc66 := NB472_473.out
    have hnb67 := NB473_481.out
    have hnc67 := NB481_473.out
    have hcz68_0 : w19.cell? ⟨gb473, 0, none⟩ = some (.slice none 0 0) := (blk_cell BK473.out 0).trans rfl
    have hfz68_0 := blk_frozen BK473.out 0
    go_wp2_with (first | ((with_reducible refine gate_callee (f := 21) rfl ?_); refine goesL_ (some 23) rfl rfl Try.func21 (by kernel_rfl) rfl #[.agg #[.slice none 0 0]] rfl (by (try simp only [List.map_toArray, List.map_cons, List.map_nil]); first | done | rfl | (simp only [List.length_drop, List.length_take]; rfl)) ?_; (refine (refcount_Counts_Slots.calls _ _ ([] : List Int) t482 _ ?side1 ?side2 A22.out).mono ?_); (case side1 => exact Kd.C_nil _ _); (case side2 => exact Nat.le_refl _); rintro e w69 ⟨rfl, hb⟩; refine ⟨_, rfl, ?_⟩; have n0_ := Aside0.mk (Kd.R_below (rU (Kd.R_mono (Kd.R_far (p := ⟨gb481, 0, none⟩) (Kd.R_types HO470.out BK481.out (by decide)) (fun _ hk => hk.2) (.slice Ao20 t477.length co20)) (fun _ h_ => h_.1))) hb); have n1_ := Aside0.mk (Kd.R_below (rU (Kd.R_mono (Kd.R_far (p := ⟨gb481, 0, none⟩) (Kd.R_types HO476.out BK481.out (by decide)) (fun _ hk => hk.2) (.slice Ao20 t477.length co20)) (fun _ h_ => h_.1))) hb); have n2_ := Aside0.mk (Kd.R_below (rU (Kd.R_mono (Kd.R_far (p := ⟨gb481, 0, none⟩) (Kd.R_types HO479.out BK481.out (by decide)) (fun _ hk => hk.2) (.slice Ao20 t477.length co20)) (fun _ h_ => h_.1))) hb); have n3_ := Aside0.mk (blk_below (g := gb472) (o := .cells #[.slice Ao11 t468.length co11] 27 (0, 0)) (by (with_reducible repeat (first | refine blk_drewN ?_ _ | refine blk_drew ?_ | refine blk_alloc ?_ _)); refine blk_far ?_ NB472_481.out _; (with_reducible repeat (first | refine blk_drewN ?_ _ | refine blk_drew ?_ | refine blk_alloc ?_ _)); exact BK472.out) hb); have n4_ := Aside0.mk (blk_below (g := gb473) (o := .cells #[.slice none 0 0] 27 (0, 0)) (by (with_reducible repeat (first | refine blk_drewN ?_ _ | refine blk_drew ?_ | refine blk_alloc ?_ _)); refine blk_far ?_ NB473_481.out _; (with_reducible repeat (first | refine blk_drewN ?_ _ | refine blk_drew ?_ | refine blk_alloc ?_ _)); exact BK473.out) hb); have n5_ := Aside0.mk (blk_below (g := gb481) (o := .cells #[.slice Ao20 t477.length co20] 27 (0, 0)) (by (with_reducible repeat (first | refine blk_drewN ?_ _ | refine blk_drew ?_ | refine blk_alloc ?_ _)); refine blk_put (cs := #[.slice none 0 0]) ?_ 0 _ rfl; (with_reducible repeat (first | refine blk_drewN ?_ _ | refine blk_drew ?_ | refine blk_alloc ?_ _)); exact BK481.out) hb); have n6_ := Aside0.mk (below_step (by repeat (first | (with_reducible first | exact HB.out | apply below_alloc | apply pw_below_drewN | apply below_drew1 | refine below_set ?_ GE472.out | refine below_set ?_ GE473.out | refine below_set ?_ GE481.out) | exact HB.out)) hb); clear HO470; clear HO476; clear HO479; clear BK472; clear BK473; clear BK481; clear HB; have HO470 := n0_; have HO476 := n1_; have HO479 := n2_; have BK472 := n3_; have BK473 := n4_; have BK481 := n5_; have HB := n6_; clear n0_ n1_ n2_ n3_ n4_ n5_ n6_; (try clear hb); (try clear hb2); (try clear hk); (try clear hi)))
    go_meet
    case rel => exact ⟨_, (true), (by first | rfl | (simp; done) | (simp [*]; done)), H', ⟨by first | omega | exact Nat.le_refl _⟩, ⟨rU HO470.out⟩, ⟨rU HO479.out⟩, ⟨by (with_reducible repeat (first | refine blk_drewN ?_ _ | refine blk_drew ?_ | refine blk_alloc ?_ _)); exact BK472.out⟩, ⟨by (with_reducible repeat (first | refine blk_drewN ?_ _ | refine blk_drew ?_ | refine blk_alloc ?_ _)); exact BK473.out⟩, ⟨by (with_reducible repeat (first | refine blk_drewN ?_ _ | refine blk_drew ?_ | refine blk_alloc ?_ _)); exact BK481.out⟩, ⟨by repeat (first | (with_reducible first | exact HB.out | apply below_alloc | apply pw_below_drewN | apply below_drew1 | refine below_set ?_ GE472.out | refine below_set ?_ GE473.out | refine below_set ?_ GE481.out) | exact HB.out)⟩⟩
  case rest =>
   clear HC7
   try clear c1
   try clear c2
   try clear p2
   try clear c3
   try clear c4
   try clear c5
   try clear c6
   try clear c12
   try clear c21
   try clear c23
   try clear c23b0
   try clear c23b1
   try clear c25
   try clear c25b0
   try clear c25b1
   try clear c27
   try clear c27b0
   try clear c27b1
   try clear c29
   try clear c29b0
   try clear c29b1
   try clear c29b2
   try clear c30
   try clear c31
   try clear c41
   try clear c42
   try clear c52
   try clear c53
   try clear c60
   try clear c61
   try clear c66
   try clear c67
   try clear hcz32_0
   try clear hcz34_0
   try clear hcz36_0
   try clear hcz38_0
   try clear hcz43_0
   try clear hcz45_0
   try clear hcz47_0
   try clear hcz49_0
   try clear hcz54_0
   try clear hcz56_0
   try clear hcz58_0
   try clear hcz62_0
   try clear hcz64_0
   try clear hcz68_0
   try clear hfz32_0
   try clear hfz34_0
   try clear hfz36_0
   try clear hfz38_0
   try clear hfz43_0
   try clear hfz45_0
   try clear hfz47_0
   try clear hfz49_0
   try clear hfz54_0
   try clear hfz56_0
   try clear hfz58_0
   try clear hfz62_0
   try clear hfz64_0
   try clear hfz68_0
   obtain ⟨kq, x44_6, rfl, HA, HJ6, HO_473000, HO_482000, BK472, BK473, BK481, HB⟩ := hcut
   cases kq with
   | zero => exact absurd HA.out (by simp [tegulalaw34_RefcountNew.j0])
   | succ kj6 =>
    have H := HA.out
    clear HA
    simp only [tegulalaw34_RefcountNew.j0] at H
    by_cases c70 : x44_6 = true
    ·
     subst c70
     have H1 : (some false) = some r := by rw [if_pos rfl] at H; exact H
     clear H
     have H := H1
     clear H1
     obtain rfl := Option.some.inj H
     go_wp2
     go_ret
     exact ⟨by first | rfl | (simp [errW_none, errW_some] <;> rfl) | (simp [*, errW_none, errW_some] <;> rfl), by repeat (first | (with_reducible first | exact HB.out | apply below_alloc | apply pw_below_drewN | apply below_drew1 | refine below_set ?_ GE472.out | refine below_set ?_ GE473.out | refine below_set ?_ GE481.out) | exact HB.out)⟩
    ·
     replace c70 := Bool.eq_false_iff.mpr c70
     subst c70
     have H1 : (if a0 < 0 then (tegulalaw34_RefcountNew.j1 kj6 a0 t471 true t468) else (tegulalaw34_RefcountNew.j1 kj6 a0 t471 (decide (a0 > 65536)) t468)) = some r := by rw [if_neg (show ¬ (false = true) by decide)] at H; exact H
     clear H
     have H := H1
     clear H1
     have HC71 := Aside0.mk H
     clear H
     go_upto_region 8 with (fail)
     go_cut [50] (fun v50 wc => ∃ (kq : Nat) (x50_70 : Bool), v50 = .bool x50_70 ∧ Aside0 (tegulalaw34_RefcountNew.j1 kq a0 t471 x50_70 t468 = some r) ∧ Aside0 (kq ≤ kj6) ∧ Aside0 (Kd.R (Kd.int .i64) 3 wc w.heap.size (fun k_ => some k_ ≠ ((.slice Ao20 t477.length co20) : Value).ownBlock) (.slice Ao11 t468.length co11) t468) ∧ Aside0 (Kd.R (Kd.int .i64) 3 wc w.heap.size (fun k_ => some k_ ≠ ((.slice Ao11 t468.length co11) : Value).ownBlock) (.slice Ao20 t477.length co20) t477) ∧ Aside0 (wc.heap[gb472]? = some (.cells #[(.slice Ao11 t468.length co11)] 27 (0, 0))) ∧ Aside0 (wc.heap[gb473]? = some (.cells #[(.slice none 0 0)] 27 (0, 0))) ∧ Aside0 (wc.heap[gb481]? = some (.cells #[(.slice Ao20 t477.length co20)] 27 (0, 0))) ∧ Aside0 (Below w.heap.size w wc))
     case first =>
      have H := HC71.out
      clear HC71
      by_cases c72 : a0 < 0
      ·
       rw [if_pos c72] at H
       have c72b0 := decide_eq_true c72
       clear c72
       (first | rw [c72b0] | (simp only [i64_w, i32_w]; rw [c72b0]) | skip)
       have H' := Aside0.mk H
       clear H
       go_wp2
       go_meet
       case rel => exact ⟨_, (true), (by first | rfl | (simp; done) | (simp [*]; done)), H', ⟨by have := HJ6.out; first | omega | exact Nat.le_refl _⟩, ⟨rU HO_473000.out⟩, ⟨rU HO_482000.out⟩, ⟨by (with_reducible repeat (first | refine blk_drewN ?_ _ | refine blk_drew ?_ | refine blk_alloc ?_ _)); exact BK472.out⟩, ⟨by (with_reducible repeat (first | refine blk_drewN ?_ _ | refine blk_drew ?_ | refine blk_alloc ?_ _)); exact BK473.out⟩, ⟨by (with_reducible repeat (first | refine blk_drewN ?_ _ | refine blk_drew ?_ | refine blk_alloc ?_ _)); exact BK481.out⟩, ⟨by repeat (first | (with_reducible first | exact HB.out | apply below_alloc | apply pw_below_drewN | apply below_drew1 | refine below_set ?_ GE472.out | refine below_set ?_ GE473.out | refine below_set ?_ GE481.out) | exact HB.out)⟩⟩
      ·
       rw [if_neg c72] at H
       have c72b0 := decide_eq_false c72
       clear c72
       (first | rw [c72b0] | (simp only [i64_w, i32_w]; rw [c72b0]) | skip)
       have H' := Aside0.mk H
       clear H
       go_wp2
       go_meet
       case rel => exact ⟨_, (decide (a0 > 65536)), (by first | rfl | (simp; done) | (simp [*]; done)), H', ⟨by have := HJ6.out; first | omega | exact Nat.le_refl _⟩, ⟨rU HO_473000.out⟩, ⟨rU HO_482000.out⟩, ⟨by (with_reducible repeat (first | refine blk_drewN ?_ _ | refine blk_drew ?_ | refine blk_alloc ?_ _)); exact BK472.out⟩, ⟨by (with_reducible repeat (first | refine blk_drewN ?_ _ | refine blk_drew ?_ | refine blk_alloc ?_ _)); exact BK473.out⟩, ⟨by (with_reducible repeat (first | refine blk_drewN ?_ _ | refine blk_drew ?_ | refine blk_alloc ?_ _)); exact BK481.out⟩, ⟨by repeat (first | (with_reducible first | exact HB.out | apply below_alloc | apply pw_below_drewN | apply below_drew1 | refine below_set ?_ GE472.out | refine below_set ?_ GE473.out | refine below_set ?_ GE481.out) | exact HB.out)⟩⟩
     case rest =>
      clear HC71
      try clear c1
      try clear c2
      try clear p2
      try clear c3
      try clear c4
      try clear c5
      try clear c6
      try clear c7
      try clear c12
      try clear c21
      try clear c23
      try clear c23b0
      try clear c23b1
      try clear c25
      try clear c25b0
      try clear c25b1
      try clear c27
      try clear c27b0
      try clear c27b1
      try clear c29
      try clear c29b0
      try clear c29b1
      try clear c29b2
      try clear c30
      try clear c31
      try clear c41
      try clear c42
      try clear c52
      try clear c53
      try clear c60
      try clear c61
      try clear c66
      try clear c67
      try clear c70
      try clear c72
      try clear c72b0
      try clear hcz32_0
      try clear hcz34_0
      try clear hcz36_0
      try clear hcz38_0
      try clear hcz43_0
      try clear hcz45_0
      try clear hcz47_0
      try clear hcz49_0
      try clear hcz54_0
      try clear hcz56_0
      try clear hcz58_0
      try clear hcz62_0
      try clear hcz64_0
      try clear hcz68_0
      try clear hfz32_0
      try clear hfz34_0
      try clear hfz36_0
      try clear hfz38_0
      try clear hfz43_0
      try clear hfz45_0
      try clear hfz47_0
      try clear hfz49_0
      try clear hfz54_0
      try clear hfz56_0
      try clear hfz58_0
      try clear hfz62_0
      try clear hfz64_0
      try clear hfz68_0
      try clear p2
      obtain ⟨kq, x50_70, rfl, HA, HJ70, HO_473000, HO_482000, BK472, BK473, BK481, HB⟩ := hcut
      cases kq with
      | zero => exact absurd HA.out (by simp [tegulalaw34_RefcountNew.j1])
      | succ kj70 =>
       have H := HA.out
       clear HA
       simp only [tegulalaw34_RefcountNew.j1] at H
       by_cases c73 : x50_70 = true
       ·
        subst c73
        have H1 : (some (t471 == 1)) = some r := by rw [if_pos rfl] at H; exact H
        clear H
        have H := H1
        clear H1
        obtain rfl := Option.some.inj H
        go_wp2
        go_ret
        exact ⟨by first | rfl | (simp [errW_none, errW_some] <;> rfl) | (simp [*, errW_none, errW_some] <;> rfl), by repeat (first | (with_reducible first | exact HB.out | apply below_alloc | apply pw_below_drewN | apply below_drew1 | refine below_set ?_ GE472.out | refine below_set ?_ GE473.out | refine below_set ?_ GE481.out) | exact HB.out)⟩
       ·
        replace c73 := Bool.eq_false_iff.mpr c73
        subst c73
        have H1 : ((refcount_Counts_Zero.f kj70 t468).bind fun t488 => (if t471 = 0 then ((refcount_Counts_Slots.f t468).bind fun t491 => (if t491 = a0 then ((refcount_Counts_Used.f t468).bind fun t492 => (if t492 = 0 then (if a0 = 0 then (if (t488.length : Int) = 0 then (some true) else (if a0 > 0 then ((tegulalaw34_run.f 0 a0).bind fun t493 => ((tegularef32_Same.f kj70 t488 t493).bind fun t496 => (some t496))) else (some false))) else (if a0 > 0 then ((tegulalaw34_run.f 0 a0).bind fun t497 => ((tegularef32_Same.f kj70 t488 t497).bind fun t500 => (some t500))) else (some false))) else (some false))) else (some false))) else (some false))) = some r := by rw [if_neg (show ¬ (false = true) by decide)] at H; exact H
        clear H
        have H := H1
        clear H1
        replace H := Option.bind_eq_some_iff.mp H
        obtain ⟨t488, A740, H⟩ := H
        replace H : (if t471 = 0 then ((refcount_Counts_Slots.f t468).bind fun t491 => (if t491 = a0 then ((refcount_Counts_Used.f t468).bind fun t492 => (if t492 = 0 then (if a0 = 0 then (if (t488.length : Int) = 0 then (some true) else (if a0 > 0 then ((tegulalaw34_run.f 0 a0).bind fun t493 => ((tegularef32_Same.f kj70 t488 t493).bind fun t496 => (some t496))) else (some false))) else (if a0 > 0 then ((tegulalaw34_run.f 0 a0).bind fun t497 => ((tegularef32_Same.f kj70 t488 t497).bind fun t500 => (some t500))) else (some false))) else (some false))) else (some false))) else (some false)) = some r := H
        have A74 := Aside0.mk A740
        clear A740
        by_cases c75 : t471 = 0
        ·
         rw [if_pos c75] at H
         have c75b0 : (t471 == 0) = true := beq_iff_eq.mpr c75
         have c75b1 : (t471 != 0) = false := bne_eq_false_iff_eq.mpr c75
         clear c75
         replace H := Option.bind_eq_some_iff.mp H
         obtain ⟨t491, A760, H⟩ := H
         replace H : (if t491 = a0 then ((refcount_Counts_Used.f t468).bind fun t492 => (if t492 = 0 then (if a0 = 0 then (if (t488.length : Int) = 0 then (some true) else (if a0 > 0 then ((tegulalaw34_run.f 0 a0).bind fun t493 => ((tegularef32_Same.f kj70 t488 t493).bind fun t496 => (some t496))) else (some false))) else (if a0 > 0 then ((tegulalaw34_run.f 0 a0).bind fun t497 => ((tegularef32_Same.f kj70 t488 t497).bind fun t500 => (some t500))) else (some false))) else (some false))) else (some false)) = some r := H
         have A76 := Aside0.mk A760
         clear A760
         by_cases c77 : t491 = a0
         ·
          rw [if_pos c77] at H
          have c77b0 : (t491 == a0) = true := beq_iff_eq.mpr c77
          have c77b1 : (t491 != a0) = false := bne_eq_false_iff_eq.mpr c77
          clear c77
          replace H := Option.bind_eq_some_iff.mp H
          obtain ⟨t492, A780, H⟩ := H
          replace H : (if t492 = 0 then (if a0 = 0 then (if (t488.length : Int) = 0 then (some true) else (if a0 > 0 then ((tegulalaw34_run.f 0 a0).bind fun t493 => ((tegularef32_Same.f kj70 t488 t493).bind fun t496 => (some t496))) else (some false))) else (if a0 > 0 then ((tegulalaw34_run.f 0 a0).bind fun t497 => ((tegularef32_Same.f kj70 t488 t497).bind fun t500 => (some t500))) else (some false))) else (some false)) = some r := H
          have A78 := Aside0.mk A780
          clear A780
          by_cases c79 : t492 = 0
          ·
           rw [if_pos c79] at H
           have c79b0 : (t492 == 0) = true := beq_iff_eq.mpr c79
           have c79b1 : (t492 != 0) = false := bne_eq_false_iff_eq.mpr c79
           clear c79
           by_cases c80 : a0 = 0
           ·
            rw [if_pos c80] at H
            have c80b0 : (a0 == 0) = true := beq_iff_eq.mpr c80
            have c80b1 : (a0 != 0) = false := bne_eq_false_iff_eq.mpr c80
            clear c80
            by_cases c81 : (t488.length : Int) = 0
            ·
             rw [if_pos c81] at H
             have c81b0 : ((t488.length : Int) == 0) = true := beq_iff_eq.mpr c81
             have c81b1 : ((t488.length : Int) != 0) = false := bne_eq_false_iff_eq.mpr c81
             clear c81
             obtain rfl := Option.some.inj H
             have hnb82 := NB472_473.out
             have hnc82 := NB473_472.out
             have hnb83 := NB472_481.out
             have hnc83 := NB481_472.out
             have hcz84_0 : wc.cell? ⟨gb472, 0, none⟩ = some (.slice Ao11 t468.length co11) := (blk_cell BK472.out 0).trans rfl
             have hfz84_0 := blk_frozen BK472.out 0
             go_wp2_with (first | ((with_reducible refine gate_callee (f := 18) rfl ?_); refine goesL_ (some 54) rfl rfl Try.func18 (by kernel_rfl) rfl #[.agg #[.slice Ao11 t468.length co11]] rfl (by (try simp only [List.map_toArray, List.map_cons, List.map_nil]); first | done | rfl | (simp only [List.length_drop, List.length_take]; rfl)) ?_; (with_reducible refine (refcount_Counts_Zero.calls kj70 _ _ t468 t488 _ ?side1 ?side2 A74.out).mono ?_); (case side1 => repeat (first | exact (Kd.R_reads' HO_473000.out).2.2 | (with_reducible refine Kd.C_alloc ?_ _) | (with_reducible refine Kd.C_drewN ?_ _) | (with_reducible refine Kd.C_drew ?_))); (case side2 => exact (Kd.R_reads' HO_473000.out).2.1); rintro e w85 ⟨v489, rfl, ho0, hb⟩; refine ⟨_, rfl, ?_⟩; have n0_ := Aside0.mk (Kd.R_below (rU HO_473000.out) hb); have n1_ := Aside0.mk (Kd.R_below (rU HO_482000.out) hb); have n2_ := Aside0.mk (Kd.R_lower ho0 (below_size (by repeat (first | (with_reducible first | exact HB.out | apply below_alloc | apply pw_below_drewN | apply below_drew1 | refine below_set ?_ GE472.out | refine below_set ?_ GE473.out | refine below_set ?_ GE481.out) | exact HB.out)))); have n3_ := Aside0.mk (blk_below (g := gb472) (o := .cells #[.slice Ao11 t468.length co11] 27 (0, 0)) (kU BK472.out) hb); have n4_ := Aside0.mk (blk_below (g := gb473) (o := .cells #[.slice none 0 0] 27 (0, 0)) (kU BK473.out) hb); have n5_ := Aside0.mk (blk_below (g := gb481) (o := .cells #[.slice Ao20 t477.length co20] 27 (0, 0)) (kU BK481.out) hb); have n6_ := Aside0.mk (below_step (by repeat (first | (with_reducible first | exact HB.out | apply below_alloc | apply pw_below_drewN | apply below_drew1 | refine below_set ?_ GE472.out | refine below_set ?_ GE473.out | refine below_set ?_ GE481.out) | exact HB.out)) hb); clear HO_473000; clear HO_482000; clear BK472; clear BK473; clear BK481; clear HB; have HO_473000 := n0_; have HO_482000 := n1_; have HO490 := n2_; have BK472 := n3_; have BK473 := n4_; have BK481 := n5_; have HB := n6_; clear n0_ n1_ n2_ n3_ n4_ n5_ n6_; (try clear hb); (try clear hb2); (try clear hk); (try clear hi); (try clear ho0); have hcz86_0 : w85.cell? ⟨gb472, 0, none⟩ = some (.slice Ao11 t468.length co11) := (blk_cell BK472.out 0).trans rfl; have hfz86_0 := blk_frozen BK472.out 0) | (go_at_call 21; (with_reducible refine (refcount_Counts_Slots.calls _ _ t468 t491 _ ?side1 ?side2 A76.out).mono ?_); (case side1 => repeat (first | exact (Kd.R_reads' HO_473000.out).2.2 | (with_reducible refine Kd.C_alloc ?_ _) | (with_reducible refine Kd.C_drewN ?_ _) | (with_reducible refine Kd.C_drew ?_))); (case side2 => exact (Kd.R_reads' HO_473000.out).2.1); rintro e w87 ⟨rfl, hb⟩; have n0_ := Aside0.mk (Kd.R_below (rU HO_473000.out) hb); have n1_ := Aside0.mk (Kd.R_below (rU HO_482000.out) hb); have n2_ := Aside0.mk (Kd.R_below (rU HO490.out) hb); have n3_ := Aside0.mk (blk_below (g := gb472) (o := .cells #[.slice Ao11 t468.length co11] 27 (0, 0)) (kU BK472.out) hb); have n4_ := Aside0.mk (blk_below (g := gb473) (o := .cells #[.slice none 0 0] 27 (0, 0)) (kU BK473.out) hb); have n5_ := Aside0.mk (blk_below (g := gb481) (o := .cells #[.slice Ao20 t477.length co20] 27 (0, 0)) (kU BK481.out) hb); have n6_ := Aside0.mk (below_step (by repeat (first | (with_reducible first | exact HB.out | apply below_alloc | apply pw_below_drewN | apply below_drew1 | refine below_set ?_ GE472.out | refine below_set ?_ GE473.out | refine below_set ?_ GE481.out) | exact HB.out)) hb); clear HO_473000; clear HO_482000; clear HO490; clear BK472; clear BK473; clear BK481; clear HB; have HO_473000 := n0_; have HO_482000 := n1_; have HO490 := n2_; have BK472 := n3_; have BK473 := n4_; have BK481 := n5_; have HB := n6_; clear n0_ n1_ n2_ n3_ n4_ n5_ n6_; (try clear hb); (try clear hb2); (try clear hk); (try clear hi); have hcz88_0 : w87.cell? ⟨gb472, 0, none⟩ = some (.slice Ao11 t468.length co11) := (blk_cell BK472.out 0).trans rfl; have hfz88_0 := blk_frozen BK472.out 0) | (go_at_call 20; (with_reducible refine (refcount_Counts_Used.calls _ _ t468 t492 _ ?side1 ?side2 A78.out).mono ?_); (case side1 => repeat (first | exact (Kd.R_reads' HO_473000.out).2.2 | (with_reducible refine Kd.C_alloc ?_ _) | (with_reducible refine Kd.C_drewN ?_ _) | (with_reducible refine Kd.C_drew ?_))); (case side2 => exact (Kd.R_reads' HO_473000.out).2.1); rintro e w89 ⟨rfl, hb⟩; have n0_ := Aside0.mk (Kd.R_below (rU HO_473000.out) hb); have n1_ := Aside0.mk (Kd.R_below (rU HO_482000.out) hb); have n2_ := Aside0.mk (Kd.R_below (rU HO490.out) hb); have n3_ := Aside0.mk (blk_below (g := gb472) (o := .cells #[.slice Ao11 t468.length co11] 27 (0, 0)) (kU BK472.out) hb); have n4_ := Aside0.mk (blk_below (g := gb473) (o := .cells #[.slice none 0 0] 27 (0, 0)) (kU BK473.out) hb); have n5_ := Aside0.mk (blk_below (g := gb481) (o := .cells #[.slice Ao20 t477.length co20] 27 (0, 0)) (kU BK481.out) hb); have n6_ := Aside0.mk (below_step (by repeat (first | (with_reducible first | exact HB.out | apply below_alloc | apply pw_below_drewN | apply below_drew1 | refine below_set ?_ GE472.out | refine below_set ?_ GE473.out | refine below_set ?_ GE481.out) | exact HB.out)) hb); clear HO_473000; clear HO_482000; clear HO490; clear BK472; clear BK473; clear BK481; clear HB; have HO_473000 := n0_; have HO_482000 := n1_; have HO490 := n2_; have BK472 := n3_; have BK473 := n4_; have BK481 := n5_; have HB := n6_; clear n0_ n1_ n2_ n3_ n4_ n5_ n6_; (try clear hb); (try clear hb2); (try clear hk); (try clear hi); obtain ⟨Ao90, co90, eo90⟩ := Kd.R_slice HO490.out; subst eo90))
             go_ret
             exact ⟨by first | rfl | (simp [errW_none, errW_some] <;> rfl) | (simp [*, errW_none, errW_some] <;> rfl), by repeat (first | (with_reducible first | exact HB.out | apply below_alloc | apply pw_below_drewN | apply below_drew1 | refine below_set ?_ GE472.out | refine below_set ?_ GE473.out | refine below_set ?_ GE481.out) | exact HB.out)⟩
            ·
             rw [if_neg c81] at H
             have c81b0 : ((t488.length : Int) == 0) = false := beq_eq_false_iff_ne.mpr c81
             have c81b1 : ((t488.length : Int) != 0) = true := bne_iff_ne.mpr c81
             have c81b2 : ¬ (t488 = []) := fun h_ => c81 (by rw [h_]; rfl)
             by_cases c91 : a0 > 0
             ·
              rw [if_pos c91] at H
              have c91b0 := decide_eq_true c91
              clear c91
              replace H := Option.bind_eq_some_iff.mp H
              obtain ⟨t493, A920, H⟩ := H
              replace H : ((tegularef32_Same.f kj70 t488 t493).bind fun t496 => (some t496)) = some r := H
              have A92 := Aside0.mk A920
              clear A920
              replace H := Option.bind_eq_some_iff.mp H
              obtain ⟨t496, A930, H⟩ := H
              replace H : (some t496) = some r := H
              have A93 := Aside0.mk A930
              clear A930
              obtain rfl := Option.some.inj H
              have hnb94 := NB472_473.out
              have hnc94 := NB473_472.out
              have hnb95 := NB472_481.out
              have hnc95 := NB481_472.out
              have hcz96_0 : wc.cell? ⟨gb472, 0, none⟩ = some (.slice Ao11 t468.length co11) := (blk_cell BK472.out 0).trans rfl
              have hfz96_0 := blk_frozen BK472.out 0
              go_wp2_with (first | ((with_reducible refine gate_callee (f := 18) rfl ?_); refine goesL_ (some 54) rfl rfl Try.func18 (by kernel_rfl) rfl #[.agg #[.slice Ao11 t468.length co11]] rfl (by (try simp only [List.map_toArray, List.map_cons, List.map_nil]); first | done | rfl | (simp only [List.length_drop, List.length_take]; rfl)) ?_; (with_reducible refine (refcount_Counts_Zero.calls kj70 _ _ t468 t488 _ ?side1 ?side2 A74.out).mono ?_); (case side1 => repeat (first | exact (Kd.R_reads' HO_473000.out).2.2 | (with_reducible refine Kd.C_alloc ?_ _) | (with_reducible refine Kd.C_drewN ?_ _) | (with_reducible refine Kd.C_drew ?_))); (case side2 => exact (Kd.R_reads' HO_473000.out).2.1); rintro e w97 ⟨v489, rfl, ho0, hb⟩; refine ⟨_, rfl, ?_⟩; have n0_ := Aside0.mk (Kd.R_below (rU HO_473000.out) hb); have n1_ := Aside0.mk (Kd.R_below (rU HO_482000.out) hb); have n2_ := Aside0.mk (Kd.R_lower ho0 (below_size (by repeat (first | (with_reducible first | exact HB.out | apply below_alloc | apply pw_below_drewN | apply below_drew1 | refine below_set ?_ GE472.out | refine below_set ?_ GE473.out | refine below_set ?_ GE481.out) | exact HB.out)))); have n3_ := Aside0.mk (blk_below (g := gb472) (o := .cells #[.slice Ao11 t468.length co11] 27 (0, 0)) (kU BK472.out) hb); have n4_ := Aside0.mk (blk_below (g := gb473) (o := .cells #[.slice none 0 0] 27 (0, 0)) (kU BK473.out) hb); have n5_ := Aside0.mk (blk_below (g := gb481) (o := .cells #[.slice Ao20 t477.length co20] 27 (0, 0)) (kU BK481.out) hb); have n6_ := Aside0.mk (below_step (by repeat (first | (with_reducible first | exact HB.out | apply below_alloc | apply pw_below_drewN | apply below_drew1 | refine below_set ?_ GE472.out | refine below_set ?_ GE473.out | refine below_set ?_ GE481.out) | exact HB.out)) hb); clear HO_473000; clear HO_482000; clear BK472; clear BK473; clear BK481; clear HB; have HO_473000 := n0_; have HO_482000 := n1_; have HO490 := n2_; have BK472 := n3_; have BK473 := n4_; have BK481 := n5_; have HB := n6_; clear n0_ n1_ n2_ n3_ n4_ n5_ n6_; (try clear hb); (try clear hb2); (try clear hk); (try clear hi); (try clear ho0); have hcz98_0 : w97.cell? ⟨gb472, 0, none⟩ = some (.slice Ao11 t468.length co11) := (blk_cell BK472.out 0).trans rfl; have hfz98_0 := blk_frozen BK472.out 0) | (go_at_call 21; (with_reducible refine (refcount_Counts_Slots.calls _ _ t468 t491 _ ?side1 ?side2 A76.out).mono ?_); (case side1 => repeat (first | exact (Kd.R_reads' HO_473000.out).2.2 | (with_reducible refine Kd.C_alloc ?_ _) | (with_reducible refine Kd.C_drewN ?_ _) | (with_reducible refine Kd.C_drew ?_))); (case side2 => exact (Kd.R_reads' HO_473000.out).2.1); rintro e w99 ⟨rfl, hb⟩; have n0_ := Aside0.mk (Kd.R_below (rU HO_473000.out) hb); have n1_ := Aside0.mk (Kd.R_below (rU HO_482000.out) hb); have n2_ := Aside0.mk (Kd.R_below (rU HO490.out) hb); have n3_ := Aside0.mk (blk_below (g := gb472) (o := .cells #[.slice Ao11 t468.length co11] 27 (0, 0)) (kU BK472.out) hb); have n4_ := Aside0.mk (blk_below (g := gb473) (o := .cells #[.slice none 0 0] 27 (0, 0)) (kU BK473.out) hb); have n5_ := Aside0.mk (blk_below (g := gb481) (o := .cells #[.slice Ao20 t477.length co20] 27 (0, 0)) (kU BK481.out) hb); have n6_ := Aside0.mk (below_step (by repeat (first | (with_reducible first | exact HB.out | apply below_alloc | apply pw_below_drewN | apply below_drew1 | refine below_set ?_ GE472.out | refine below_set ?_ GE473.out | refine below_set ?_ GE481.out) | exact HB.out)) hb); clear HO_473000; clear HO_482000; clear HO490; clear BK472; clear BK473; clear BK481; clear HB; have HO_473000 := n0_; have HO_482000 := n1_; have HO490 := n2_; have BK472 := n3_; have BK473 := n4_; have BK481 := n5_; have HB := n6_; clear n0_ n1_ n2_ n3_ n4_ n5_ n6_; (try clear hb); (try clear hb2); (try clear hk); (try clear hi); have hcz100_0 : w99.cell? ⟨gb472, 0, none⟩ = some (.slice Ao11 t468.length co11) := (blk_cell BK472.out 0).trans rfl; have hfz100_0 := blk_frozen BK472.out 0) | (go_at_call 20; (with_reducible refine (refcount_Counts_Used.calls _ _ t468 t492 _ ?side1 ?side2 A78.out).mono ?_); (case side1 => repeat (first | exact (Kd.R_reads' HO_473000.out).2.2 | (with_reducible refine Kd.C_alloc ?_ _) | (with_reducible refine Kd.C_drewN ?_ _) | (with_reducible refine Kd.C_drew ?_))); (case side2 => exact (Kd.R_reads' HO_473000.out).2.1); rintro e w101 ⟨rfl, hb⟩; have n0_ := Aside0.mk (Kd.R_below (rU HO_473000.out) hb); have n1_ := Aside0.mk (Kd.R_below (rU HO_482000.out) hb); have n2_ := Aside0.mk (Kd.R_below (rU HO490.out) hb); have n3_ := Aside0.mk (blk_below (g := gb472) (o := .cells #[.slice Ao11 t468.length co11] 27 (0, 0)) (kU BK472.out) hb); have n4_ := Aside0.mk (blk_below (g := gb473) (o := .cells #[.slice none 0 0] 27 (0, 0)) (kU BK473.out) hb); have n5_ := Aside0.mk (blk_below (g := gb481) (o := .cells #[.slice Ao20 t477.length co20] 27 (0, 0)) (kU BK481.out) hb); have n6_ := Aside0.mk (below_step (by repeat (first | (with_reducible first | exact HB.out | apply below_alloc | apply pw_below_drewN | apply below_drew1 | refine below_set ?_ GE472.out | refine below_set ?_ GE473.out | refine below_set ?_ GE481.out) | exact HB.out)) hb); clear HO_473000; clear HO_482000; clear HO490; clear BK472; clear BK473; clear BK481; clear HB; have HO_473000 := n0_; have HO_482000 := n1_; have HO490 := n2_; have BK472 := n3_; have BK473 := n4_; have BK481 := n5_; have HB := n6_; clear n0_ n1_ n2_ n3_ n4_ n5_ n6_; (try clear hb); (try clear hb2); (try clear hk); (try clear hi); obtain ⟨Ao102, co102, eo102⟩ := Kd.R_slice HO490.out; subst eo102) | (go_at_call 23; (with_reducible refine (tegulalaw34_run.calls 0 a0 t493 _ A92.out).mono ?_); rintro e w103 ⟨v494, rfl, ho0, hb⟩; have n0_ := Aside0.mk (Kd.R_below (rU HO_473000.out) hb); have n1_ := Aside0.mk (Kd.R_below (rU HO_482000.out) hb); have n2_ := Aside0.mk (Kd.R_elder' (rU HO490.out) (Kd.R_base ho0) hb); have n3_ := Aside0.mk (Kd.R_lower (Kd.R_new' ho0 (Kd.R_lt (rU HO490.out))) (below_size (by repeat (first | (with_reducible first | exact HB.out | apply below_alloc | apply pw_below_drewN | apply below_drew1 | refine below_set ?_ GE472.out | refine below_set ?_ GE473.out | refine below_set ?_ GE481.out) | exact HB.out)))); have n4_ := Aside0.mk (blk_below (g := gb472) (o := .cells #[.slice Ao11 t468.length co11] 27 (0, 0)) (kU BK472.out) hb); have n5_ := Aside0.mk (blk_below (g := gb473) (o := .cells #[.slice none 0 0] 27 (0, 0)) (kU BK473.out) hb); have n6_ := Aside0.mk (blk_below (g := gb481) (o := .cells #[.slice Ao20 t477.length co20] 27 (0, 0)) (kU BK481.out) hb); have n7_ := Aside0.mk (below_step (by repeat (first | (with_reducible first | exact HB.out | apply below_alloc | apply pw_below_drewN | apply below_drew1 | refine below_set ?_ GE472.out | refine below_set ?_ GE473.out | refine below_set ?_ GE481.out) | exact HB.out)) hb); clear HO_473000; clear HO_482000; clear HO490; clear BK472; clear BK473; clear BK481; clear HB; have HO_473000 := n0_; have HO_482000 := n1_; have HO490 := n2_; have HO495 := n3_; have BK472 := n4_; have BK473 := n5_; have BK481 := n6_; have HB := n7_; clear n0_ n1_ n2_ n3_ n4_ n5_ n6_ n7_; (try clear hb); (try clear hb2); (try clear hk); (try clear hi); (try clear ho0); obtain ⟨Ao104, co104, eo104⟩ := Kd.R_slice HO495.out; subst eo104) | (go_at_call 16; (with_reducible refine (tegularef32_Same.calls kj70 _ _ t488 _ _ t493 t496 _ ?side1 ?side2 ?side3 ?side4 A93.out).mono ?_); (case side1 => repeat (first | exact (Kd.R_reads' HO490.out).2.2 | (with_reducible refine Kd.C_alloc ?_ _) | (with_reducible refine Kd.C_drewN ?_ _) | (with_reducible refine Kd.C_drew ?_))); (case side2 => exact (Kd.R_reads' HO490.out).2.1); (case side3 => repeat (first | exact (Kd.R_reads' HO495.out).2.2 | (with_reducible refine Kd.C_alloc ?_ _) | (with_reducible refine Kd.C_drewN ?_ _) | (with_reducible refine Kd.C_drew ?_))); (case side4 => exact (Kd.R_reads' HO495.out).2.1); rintro e w' ⟨rfl, ⟨nd, rfl⟩⟩))
              go_ret
              exact ⟨by first | rfl | (simp [errW_none, errW_some] <;> rfl) | (simp [*, errW_none, errW_some] <;> rfl), by repeat (first | (with_reducible first | exact HB.out | apply below_alloc | apply pw_below_drewN | apply below_drew1 | refine below_set ?_ GE472.out | refine below_set ?_ GE473.out | refine below_set ?_ GE481.out) | exact HB.out)⟩
             ·
              rw [if_neg c91] at H
              have c91b0 := decide_eq_false c91
              clear c91
              obtain rfl := Option.some.inj H
              have hnb105 := NB472_473.out
              have hnc105 := NB473_472.out
              have hnb106 := NB472_481.out
              have hnc106 := NB481_472.out
              have hcz107_0 : wc.cell? ⟨gb472, 0, none⟩ = some (.slice Ao11 t468.length co11) := (blk_cell BK472.out 0).trans rfl
              have hfz107_0 := blk_frozen BK472.out 0
              go_wp2_with (first | ((with_reducible refine gate_callee (f := 18) rfl ?_); refine goesL_ (some 54) rfl rfl Try.func18 (by kernel_rfl) rfl #[.agg #[.slice Ao11 t468.length co11]] rfl (by (try simp only [List.map_toArray, List.map_cons, List.map_nil]); first | done | rfl | (simp only [List.length_drop, List.length_take]; rfl)) ?_; (with_reducible refine (refcount_Counts_Zero.calls kj70 _ _ t468 t488 _ ?side1 ?side2 A74.out).mono ?_); (case side1 => repeat (first | exact (Kd.R_reads' HO_473000.out).2.2 | (with_reducible refine Kd.C_alloc ?_ _) | (with_reducible refine Kd.C_drewN ?_ _) | (with_reducible refine Kd.C_drew ?_))); (case side2 => exact (Kd.R_reads' HO_473000.out).2.1); rintro e w108 ⟨v489, rfl, ho0, hb⟩; refine ⟨_, rfl, ?_⟩; have n0_ := Aside0.mk (Kd.R_below (rU HO_473000.out) hb); have n1_ := Aside0.mk (Kd.R_below (rU HO_482000.out) hb); have n2_ := Aside0.mk (Kd.R_lower ho0 (below_size (by repeat (first | (with_reducible first | exact HB.out | apply below_alloc | apply pw_below_drewN | apply below_drew1 | refine below_set ?_ GE472.out | refine below_set ?_ GE473.out | refine below_set ?_ GE481.out) | exact HB.out)))); have n3_ := Aside0.mk (blk_below (g := gb472) (o := .cells #[.slice Ao11 t468.length co11] 27 (0, 0)) (kU BK472.out) hb); have n4_ := Aside0.mk (blk_below (g := gb473) (o := .cells #[.slice none 0 0] 27 (0, 0)) (kU BK473.out) hb); have n5_ := Aside0.mk (blk_below (g := gb481) (o := .cells #[.slice Ao20 t477.length co20] 27 (0, 0)) (kU BK481.out) hb); have n6_ := Aside0.mk (below_step (by repeat (first | (with_reducible first | exact HB.out | apply below_alloc | apply pw_below_drewN | apply below_drew1 | refine below_set ?_ GE472.out | refine below_set ?_ GE473.out | refine below_set ?_ GE481.out) | exact HB.out)) hb); clear HO_473000; clear HO_482000; clear BK472; clear BK473; clear BK481; clear HB; have HO_473000 := n0_; have HO_482000 := n1_; have HO490 := n2_; have BK472 := n3_; have BK473 := n4_; have BK481 := n5_; have HB := n6_; clear n0_ n1_ n2_ n3_ n4_ n5_ n6_; (try clear hb); (try clear hb2); (try clear hk); (try clear hi); (try clear ho0); have hcz109_0 : w108.cell? ⟨gb472, 0, none⟩ = some (.slice Ao11 t468.length co11) := (blk_cell BK472.out 0).trans rfl; have hfz109_0 := blk_frozen BK472.out 0) | (go_at_call 21; (with_reducible refine (refcount_Counts_Slots.calls _ _ t468 t491 _ ?side1 ?side2 A76.out).mono ?_); (case side1 => repeat (first | exact (Kd.R_reads' HO_473000.out).2.2 | (with_reducible refine Kd.C_alloc ?_ _) | (with_reducible refine Kd.C_drewN ?_ _) | (with_reducible refine Kd.C_drew ?_))); (case side2 => exact (Kd.R_reads' HO_473000.out).2.1); rintro e w110 ⟨rfl, hb⟩; have n0_ := Aside0.mk (Kd.R_below (rU HO_473000.out) hb); have n1_ := Aside0.mk (Kd.R_below (rU HO_482000.out) hb); have n2_ := Aside0.mk (Kd.R_below (rU HO490.out) hb); have n3_ := Aside0.mk (blk_below (g := gb472) (o := .cells #[.slice Ao11 t468.length co11] 27 (0, 0)) (kU BK472.out) hb); have n4_ := Aside0.mk (blk_below (g := gb473) (o := .cells #[.slice none 0 0] 27 (0, 0)) (kU BK473.out) hb); have n5_ := Aside0.mk (blk_below (g := gb481) (o := .cells #[.slice Ao20 t477.length co20] 27 (0, 0)) (kU BK481.out) hb); have n6_ := Aside0.mk (below_step (by repeat (first | (with_reducible first | exact HB.out | apply below_alloc | apply pw_below_drewN | apply below_drew1 | refine below_set ?_ GE472.out | refine below_set ?_ GE473.out | refine below_set ?_ GE481.out) | exact HB.out)) hb); clear HO_473000; clear HO_482000; clear HO490; clear BK472; clear BK473; clear BK481; clear HB; have HO_473000 := n0_; have HO_482000 := n1_; have HO490 := n2_; have BK472 := n3_; have BK473 := n4_; have BK481 := n5_; have HB := n6_; clear n0_ n1_ n2_ n3_ n4_ n5_ n6_; (try clear hb); (try clear hb2); (try clear hk); (try clear hi); have hcz111_0 : w110.cell? ⟨gb472, 0, none⟩ = some (.slice Ao11 t468.length co11) := (blk_cell BK472.out 0).trans rfl; have hfz111_0 := blk_frozen BK472.out 0) | (go_at_call 20; (with_reducible refine (refcount_Counts_Used.calls _ _ t468 t492 _ ?side1 ?side2 A78.out).mono ?_); (case side1 => repeat (first | exact (Kd.R_reads' HO_473000.out).2.2 | (with_reducible refine Kd.C_alloc ?_ _) | (with_reducible refine Kd.C_drewN ?_ _) | (with_reducible refine Kd.C_drew ?_))); (case side2 => exact (Kd.R_reads' HO_473000.out).2.1); rintro e w112 ⟨rfl, hb⟩; have n0_ := Aside0.mk (Kd.R_below (rU HO_473000.out) hb); have n1_ := Aside0.mk (Kd.R_below (rU HO_482000.out) hb); have n2_ := Aside0.mk (Kd.R_below (rU HO490.out) hb); have n3_ := Aside0.mk (blk_below (g := gb472) (o := .cells #[.slice Ao11 t468.length co11] 27 (0, 0)) (kU BK472.out) hb); have n4_ := Aside0.mk (blk_below (g := gb473) (o := .cells #[.slice none 0 0] 27 (0, 0)) (kU BK473.out) hb); have n5_ := Aside0.mk (blk_below (g := gb481) (o := .cells #[.slice Ao20 t477.length co20] 27 (0, 0)) (kU BK481.out) hb); have n6_ := Aside0.mk (below_step (by repeat (first | (with_reducible first | exact HB.out | apply below_alloc | apply pw_below_drewN | apply below_drew1 | refine below_set ?_ GE472.out | refine below_set ?_ GE473.out | refine below_set ?_ GE481.out) | exact HB.out)) hb); clear HO_473000; clear HO_482000; clear HO490; clear BK472; clear BK473; clear BK481; clear HB; have HO_473000 := n0_; have HO_482000 := n1_; have HO490 := n2_; have BK472 := n3_; have BK473 := n4_; have BK481 := n5_; have HB := n6_; clear n0_ n1_ n2_ n3_ n4_ n5_ n6_; (try clear hb); (try clear hb2); (try clear hk); (try clear hi); obtain ⟨Ao113, co113, eo113⟩ := Kd.R_slice HO490.out; subst eo113))
              go_ret
              exact ⟨by first | rfl | (simp [errW_none, errW_some] <;> rfl) | (simp [*, errW_none, errW_some] <;> rfl), by repeat (first | (with_reducible first | exact HB.out | apply below_alloc | apply pw_below_drewN | apply below_drew1 | refine below_set ?_ GE472.out | refine below_set ?_ GE473.out | refine below_set ?_ GE481.out) | exact HB.out)⟩
           ·
            rw [if_neg c80] at H
            have c80b0 : (a0 == 0) = false := beq_eq_false_iff_ne.mpr c80
            have c80b1 : (a0 != 0) = true := bne_iff_ne.mpr c80
            by_cases c114 : a0 > 0
            ·
             rw [if_pos c114] at H
             have c114b0 := decide_eq_true c114
             clear c114
             replace H := Option.bind_eq_some_iff.mp H
             obtain ⟨t497, A1150, H⟩ := H
             replace H : ((tegularef32_Same.f kj70 t488 t497).bind fun t500 => (some t500)) = some r := H
             have A115 := Aside0.mk A1150
             clear A1150
             replace H := Option.bind_eq_some_iff.mp H
             obtain ⟨t500, A1160, H⟩ := H
             replace H : (some t500) = some r := H
             have A116 := Aside0.mk A1160
             clear A1160
             obtain rfl := Option.some.inj H
             have hnb117 := NB472_473.out
             have hnc117 := NB473_472.out
             have hnb118 := NB472_481.out
             have hnc118 := NB481_472.out
             have hcz119_0 : wc.cell? ⟨gb472, 0, none⟩ = some (.slice Ao11 t468.length co11) := (blk_cell BK472.out 0).trans rfl
             have hfz119_0 := blk_frozen BK472.out 0
             go_wp2_with (first | ((with_reducible refine gate_callee (f := 18) rfl ?_); refine goesL_ (some 54) rfl rfl Try.func18 (by kernel_rfl) rfl #[.agg #[.slice Ao11 t468.length co11]] rfl (by (try simp only [List.map_toArray, List.map_cons, List.map_nil]); first | done | rfl | (simp only [List.length_drop, List.length_take]; rfl)) ?_; (with_reducible refine (refcount_Counts_Zero.calls kj70 _ _ t468 t488 _ ?side1 ?side2 A74.out).mono ?_); (case side1 => repeat (first | exact (Kd.R_reads' HO_473000.out).2.2 | (with_reducible refine Kd.C_alloc ?_ _) | (with_reducible refine Kd.C_drewN ?_ _) | (with_reducible refine Kd.C_drew ?_))); (case side2 => exact (Kd.R_reads' HO_473000.out).2.1); rintro e w120 ⟨v489, rfl, ho0, hb⟩; refine ⟨_, rfl, ?_⟩; have n0_ := Aside0.mk (Kd.R_below (rU HO_473000.out) hb); have n1_ := Aside0.mk (Kd.R_below (rU HO_482000.out) hb); have n2_ := Aside0.mk (Kd.R_lower ho0 (below_size (by repeat (first | (with_reducible first | exact HB.out | apply below_alloc | apply pw_below_drewN | apply below_drew1 | refine below_set ?_ GE472.out | refine below_set ?_ GE473.out | refine below_set ?_ GE481.out) | exact HB.out)))); have n3_ := Aside0.mk (blk_below (g := gb472) (o := .cells #[.slice Ao11 t468.length co11] 27 (0, 0)) (kU BK472.out) hb); have n4_ := Aside0.mk (blk_below (g := gb473) (o := .cells #[.slice none 0 0] 27 (0, 0)) (kU BK473.out) hb); have n5_ := Aside0.mk (blk_below (g := gb481) (o := .cells #[.slice Ao20 t477.length co20] 27 (0, 0)) (kU BK481.out) hb); have n6_ := Aside0.mk (below_step (by repeat (first | (with_reducible first | exact HB.out | apply below_alloc | apply pw_below_drewN | apply below_drew1 | refine below_set ?_ GE472.out | refine below_set ?_ GE473.out | refine below_set ?_ GE481.out) | exact HB.out)) hb); clear HO_473000; clear HO_482000; clear BK472; clear BK473; clear BK481; clear HB; have HO_473000 := n0_; have HO_482000 := n1_; have HO490 := n2_; have BK472 := n3_; have BK473 := n4_; have BK481 := n5_; have HB := n6_; clear n0_ n1_ n2_ n3_ n4_ n5_ n6_; (try clear hb); (try clear hb2); (try clear hk); (try clear hi); (try clear ho0); have hcz121_0 : w120.cell? ⟨gb472, 0, none⟩ = some (.slice Ao11 t468.length co11) := (blk_cell BK472.out 0).trans rfl; have hfz121_0 := blk_frozen BK472.out 0) | (go_at_call 21; (with_reducible refine (refcount_Counts_Slots.calls _ _ t468 t491 _ ?side1 ?side2 A76.out).mono ?_); (case side1 => repeat (first | exact (Kd.R_reads' HO_473000.out).2.2 | (with_reducible refine Kd.C_alloc ?_ _) | (with_reducible refine Kd.C_drewN ?_ _) | (with_reducible refine Kd.C_drew ?_))); (case side2 => exact (Kd.R_reads' HO_473000.out).2.1); rintro e w122 ⟨rfl, hb⟩; have n0_ := Aside0.mk (Kd.R_below (rU HO_473000.out) hb); have n1_ := Aside0.mk (Kd.R_below (rU HO_482000.out) hb); have n2_ := Aside0.mk (Kd.R_below (rU HO490.out) hb); have n3_ := Aside0.mk (blk_below (g := gb472) (o := .cells #[.slice Ao11 t468.length co11] 27 (0, 0)) (kU BK472.out) hb); have n4_ := Aside0.mk (blk_below (g := gb473) (o := .cells #[.slice none 0 0] 27 (0, 0)) (kU BK473.out) hb); have n5_ := Aside0.mk (blk_below (g := gb481) (o := .cells #[.slice Ao20 t477.length co20] 27 (0, 0)) (kU BK481.out) hb); have n6_ := Aside0.mk (below_step (by repeat (first | (with_reducible first | exact HB.out | apply below_alloc | apply pw_below_drewN | apply below_drew1 | refine below_set ?_ GE472.out | refine below_set ?_ GE473.out | refine below_set ?_ GE481.out) | exact HB.out)) hb); clear HO_473000; clear HO_482000; clear HO490; clear BK472; clear BK473; clear BK481; clear HB; have HO_473000 := n0_; have HO_482000 := n1_; have HO490 := n2_; have BK472 := n3_; have BK473 := n4_; have BK481 := n5_; have HB := n6_; clear n0_ n1_ n2_ n3_ n4_ n5_ n6_; (try clear hb); (try clear hb2); (try clear hk); (try clear hi); have hcz123_0 : w122.cell? ⟨gb472, 0, none⟩ = some (.slice Ao11 t468.length co11) := (blk_cell BK472.out 0).trans rfl; have hfz123_0 := blk_frozen BK472.out 0) | (go_at_call 20; (with_reducible refine (refcount_Counts_Used.calls _ _ t468 t492 _ ?side1 ?side2 A78.out).mono ?_); (case side1 => repeat (first | exact (Kd.R_reads' HO_473000.out).2.2 | (with_reducible refine Kd.C_alloc ?_ _) | (with_reducible refine Kd.C_drewN ?_ _) | (with_reducible refine Kd.C_drew ?_))); (case side2 => exact (Kd.R_reads' HO_473000.out).2.1); rintro e w124 ⟨rfl, hb⟩; have n0_ := Aside0.mk (Kd.R_below (rU HO_473000.out) hb); have n1_ := Aside0.mk (Kd.R_below (rU HO_482000.out) hb); have n2_ := Aside0.mk (Kd.R_below (rU HO490.out) hb); have n3_ := Aside0.mk (blk_below (g := gb472) (o := .cells #[.slice Ao11 t468.length co11] 27 (0, 0)) (kU BK472.out) hb); have n4_ := Aside0.mk (blk_below (g := gb473) (o := .cells #[.slice none 0 0] 27 (0, 0)) (kU BK473.out) hb); have n5_ := Aside0.mk (blk_below (g := gb481) (o := .cells #[.slice Ao20 t477.length co20] 27 (0, 0)) (kU BK481.out) hb); have n6_ := Aside0.mk (below_step (by repeat (first | (with_reducible first | exact HB.out | apply below_alloc | apply pw_below_drewN | apply below_drew1 | refine below_set ?_ GE472.out | refine below_set ?_ GE473.out | refine below_set ?_ GE481.out) | exact HB.out)) hb); clear HO_473000; clear HO_482000; clear HO490; clear BK472; clear BK473; clear BK481; clear HB; have HO_473000 := n0_; have HO_482000 := n1_; have HO490 := n2_; have BK472 := n3_; have BK473 := n4_; have BK481 := n5_; have HB := n6_; clear n0_ n1_ n2_ n3_ n4_ n5_ n6_; (try clear hb); (try clear hb2); (try clear hk); (try clear hi)) | (go_at_call 23; (with_reducible refine (tegulalaw34_run.calls 0 a0 t497 _ A115.out).mono ?_); rintro e w125 ⟨v498, rfl, ho0, hb⟩; have n0_ := Aside0.mk (Kd.R_below (rU HO_473000.out) hb); have n1_ := Aside0.mk (Kd.R_below (rU HO_482000.out) hb); have n2_ := Aside0.mk (Kd.R_elder' (rU HO490.out) (Kd.R_base ho0) hb); have n3_ := Aside0.mk (Kd.R_lower (Kd.R_new' ho0 (Kd.R_lt (rU HO490.out))) (below_size (by repeat (first | (with_reducible first | exact HB.out | apply below_alloc | apply pw_below_drewN | apply below_drew1 | refine below_set ?_ GE472.out | refine below_set ?_ GE473.out | refine below_set ?_ GE481.out) | exact HB.out)))); have n4_ := Aside0.mk (blk_below (g := gb472) (o := .cells #[.slice Ao11 t468.length co11] 27 (0, 0)) (kU BK472.out) hb); have n5_ := Aside0.mk (blk_below (g := gb473) (o := .cells #[.slice none 0 0] 27 (0, 0)) (kU BK473.out) hb); have n6_ := Aside0.mk (blk_below (g := gb481) (o := .cells #[.slice Ao20 t477.length co20] 27 (0, 0)) (kU BK481.out) hb); have n7_ := Aside0.mk (below_step (by repeat (first | (with_reducible first | exact HB.out | apply below_alloc | apply pw_below_drewN | apply below_drew1 | refine below_set ?_ GE472.out | refine below_set ?_ GE473.out | refine below_set ?_ GE481.out) | exact HB.out)) hb); clear HO_473000; clear HO_482000; clear HO490; clear BK472; clear BK473; clear BK481; clear HB; have HO_473000 := n0_; have HO_482000 := n1_; have HO490 := n2_; have HO499 := n3_; have BK472 := n4_; have BK473 := n5_; have BK481 := n6_; have HB := n7_; clear n0_ n1_ n2_ n3_ n4_ n5_ n6_ n7_; (try clear hb); (try clear hb2); (try clear hk); (try clear hi); (try clear ho0); obtain ⟨Ao126, co126, eo126⟩ := Kd.R_slice HO490.out; subst eo126; obtain ⟨Ao127, co127, eo127⟩ := Kd.R_slice HO499.out; subst eo127) | (go_at_call 16; (with_reducible refine (tegularef32_Same.calls kj70 _ _ t488 _ _ t497 t500 _ ?side1 ?side2 ?side3 ?side4 A116.out).mono ?_); (case side1 => repeat (first | exact (Kd.R_reads' HO490.out).2.2 | (with_reducible refine Kd.C_alloc ?_ _) | (with_reducible refine Kd.C_drewN ?_ _) | (with_reducible refine Kd.C_drew ?_))); (case side2 => exact (Kd.R_reads' HO490.out).2.1); (case side3 => repeat (first | exact (Kd.R_reads' HO499.out).2.2 | (with_reducible refine Kd.C_alloc ?_ _) | (with_reducible refine Kd.C_drewN ?_ _) | (with_reducible refine Kd.C_drew ?_))); (case side4 => exact (Kd.R_reads' HO499.out).2.1); rintro e w' ⟨rfl, ⟨nd, rfl⟩⟩))
             go_ret
             exact ⟨by first | rfl | (simp [errW_none, errW_some] <;> rfl) | (simp [*, errW_none, errW_some] <;> rfl), by repeat (first | (with_reducible first | exact HB.out | apply below_alloc | apply pw_below_drewN | apply below_drew1 | refine below_set ?_ GE472.out | refine below_set ?_ GE473.out | refine below_set ?_ GE481.out) | exact HB.out)⟩
            ·
             rw [if_neg c114] at H
             have c114b0 := decide_eq_false c114
             clear c114
             obtain rfl := Option.some.inj H
             have hnb128 := NB472_473.out
             have hnc128 := NB473_472.out
             have hnb129 := NB472_481.out
             have hnc129 := NB481_472.out
             have hcz130_0 : wc.cell? ⟨gb472, 0, none⟩ = some (.slice Ao11 t468.length co11) := (blk_cell BK472.out 0).trans rfl
             have hfz130_0 := blk_frozen BK472.out 0
             go_wp2_with (first | ((with_reducible refine gate_callee (f := 18) rfl ?_); refine goesL_ (some 54) rfl rfl Try.func18 (by kernel_rfl) rfl #[.agg #[.slice Ao11 t468.length co11]] rfl (by (try simp only [List.map_toArray, List.map_cons, List.map_nil]); first | done | rfl | (simp only [List.length_drop, List.length_take]; rfl)) ?_; (with_reducible refine (refcount_Counts_Zero.calls kj70 _ _ t468 t488 _ ?side1 ?side2 A74.out).mono ?_); (case side1 => repeat (first | exact (Kd.R_reads' HO_473000.out).2.2 | (with_reducible refine Kd.C_alloc ?_ _) | (with_reducible refine Kd.C_drewN ?_ _) | (with_reducible refine Kd.C_drew ?_))); (case side2 => exact (Kd.R_reads' HO_473000.out).2.1); rintro e w131 ⟨v489, rfl, ho0, hb⟩; refine ⟨_, rfl, ?_⟩; have n0_ := Aside0.mk (Kd.R_below (rU HO_473000.out) hb); have n1_ := Aside0.mk (Kd.R_below (rU HO_482000.out) hb); have n2_ := Aside0.mk (Kd.R_lower ho0 (below_size (by repeat (first | (with_reducible first | exact HB.out | apply below_alloc | apply pw_below_drewN | apply below_drew1 | refine below_set ?_ GE472.out | refine below_set ?_ GE473.out | refine below_set ?_ GE481.out) | exact HB.out)))); have n3_ := Aside0.mk (blk_below (g := gb472) (o := .cells #[.slice Ao11 t468.length co11] 27 (0, 0)) (kU BK472.out) hb); have n4_ := Aside0.mk (blk_below (g := gb473) (o := .cells #[.slice none 0 0] 27 (0, 0)) (kU BK473.out) hb); have n5_ := Aside0.mk (blk_below (g := gb481) (o := .cells #[.slice Ao20 t477.length co20] 27 (0, 0)) (kU BK481.out) hb); have n6_ := Aside0.mk (below_step (by repeat (first | (with_reducible first | exact HB.out | apply below_alloc | apply pw_below_drewN | apply below_drew1 | refine below_set ?_ GE472.out | refine below_set ?_ GE473.out | refine below_set ?_ GE481.out) | exact HB.out)) hb); clear HO_473000; clear HO_482000; clear BK472; clear BK473; clear BK481; clear HB; have HO_473000 := n0_; have HO_482000 := n1_; have HO490 := n2_; have BK472 := n3_; have BK473 := n4_; have BK481 := n5_; have HB := n6_; clear n0_ n1_ n2_ n3_ n4_ n5_ n6_; (try clear hb); (try clear hb2); (try clear hk); (try clear hi); (try clear ho0); have hcz132_0 : w131.cell? ⟨gb472, 0, none⟩ = some (.slice Ao11 t468.length co11) := (blk_cell BK472.out 0).trans rfl; have hfz132_0 := blk_frozen BK472.out 0) | (go_at_call 21; (with_reducible refine (refcount_Counts_Slots.calls _ _ t468 t491 _ ?side1 ?side2 A76.out).mono ?_); (case side1 => repeat (first | exact (Kd.R_reads' HO_473000.out).2.2 | (with_reducible refine Kd.C_alloc ?_ _) | (with_reducible refine Kd.C_drewN ?_ _) | (with_reducible refine Kd.C_drew ?_))); (case side2 => exact (Kd.R_reads' HO_473000.out).2.1); rintro e w133 ⟨rfl, hb⟩; have n0_ := Aside0.mk (Kd.R_below (rU HO_473000.out) hb); have n1_ := Aside0.mk (Kd.R_below (rU HO_482000.out) hb); have n2_ := Aside0.mk (Kd.R_below (rU HO490.out) hb); have n3_ := Aside0.mk (blk_below (g := gb472) (o := .cells #[.slice Ao11 t468.length co11] 27 (0, 0)) (kU BK472.out) hb); have n4_ := Aside0.mk (blk_below (g := gb473) (o := .cells #[.slice none 0 0] 27 (0, 0)) (kU BK473.out) hb); have n5_ := Aside0.mk (blk_below (g := gb481) (o := .cells #[.slice Ao20 t477.length co20] 27 (0, 0)) (kU BK481.out) hb); have n6_ := Aside0.mk (below_step (by repeat (first | (with_reducible first | exact HB.out | apply below_alloc | apply pw_below_drewN | apply below_drew1 | refine below_set ?_ GE472.out | refine below_set ?_ GE473.out | refine below_set ?_ GE481.out) | exact HB.out)) hb); clear HO_473000; clear HO_482000; clear HO490; clear BK472; clear BK473; clear BK481; clear HB; have HO_473000 := n0_; have HO_482000 := n1_; have HO490 := n2_; have BK472 := n3_; have BK473 := n4_; have BK481 := n5_; have HB := n6_; clear n0_ n1_ n2_ n3_ n4_ n5_ n6_; (try clear hb); (try clear hb2); (try clear hk); (try clear hi); have hcz134_0 : w133.cell? ⟨gb472, 0, none⟩ = some (.slice Ao11 t468.length co11) := (blk_cell BK472.out 0).trans rfl; have hfz134_0 := blk_frozen BK472.out 0) | (go_at_call 20; (with_reducible refine (refcount_Counts_Used.calls _ _ t468 t492 _ ?side1 ?side2 A78.out).mono ?_); (case side1 => repeat (first | exact (Kd.R_reads' HO_473000.out).2.2 | (with_reducible refine Kd.C_alloc ?_ _) | (with_reducible refine Kd.C_drewN ?_ _) | (with_reducible refine Kd.C_drew ?_))); (case side2 => exact (Kd.R_reads' HO_473000.out).2.1); rintro e w135 ⟨rfl, hb⟩; have n0_ := Aside0.mk (Kd.R_below (rU HO_473000.out) hb); have n1_ := Aside0.mk (Kd.R_below (rU HO_482000.out) hb); have n2_ := Aside0.mk (Kd.R_below (rU HO490.out) hb); have n3_ := Aside0.mk (blk_below (g := gb472) (o := .cells #[.slice Ao11 t468.length co11] 27 (0, 0)) (kU BK472.out) hb); have n4_ := Aside0.mk (blk_below (g := gb473) (o := .cells #[.slice none 0 0] 27 (0, 0)) (kU BK473.out) hb); have n5_ := Aside0.mk (blk_below (g := gb481) (o := .cells #[.slice Ao20 t477.length co20] 27 (0, 0)) (kU BK481.out) hb); have n6_ := Aside0.mk (below_step (by repeat (first | (with_reducible first | exact HB.out | apply below_alloc | apply pw_below_drewN | apply below_drew1 | refine below_set ?_ GE472.out | refine below_set ?_ GE473.out | refine below_set ?_ GE481.out) | exact HB.out)) hb); clear HO_473000; clear HO_482000; clear HO490; clear BK472; clear BK473; clear BK481; clear HB; have HO_473000 := n0_; have HO_482000 := n1_; have HO490 := n2_; have BK472 := n3_; have BK473 := n4_; have BK481 := n5_; have HB := n6_; clear n0_ n1_ n2_ n3_ n4_ n5_ n6_; (try clear hb); (try clear hb2); (try clear hk); (try clear hi)))
             go_ret
             exact ⟨by first | rfl | (simp [errW_none, errW_some] <;> rfl) | (simp [*, errW_none, errW_some] <;> rfl), by repeat (first | (with_reducible first | exact HB.out | apply below_alloc | apply pw_below_drewN | apply below_drew1 | refine below_set ?_ GE472.out | refine below_set ?_ GE473.out | refine below_set ?_ GE481.out) | exact HB.out)⟩
          ·
           rw [if_neg c79] at H
           have c79b0 : (t492 == 0) = false := beq_eq_false_iff_ne.mpr c79
           have c79b1 : (t492 != 0) = true := bne_iff_ne.mpr c79
           obtain rfl := Option.some.inj H
           have hnb136 := NB472_473.out
           have hnc136 := NB473_472.out
           have hnb137 := NB472_481.out
           have hnc137 := NB481_472.out
           have hcz138_0 : wc.cell? ⟨gb472, 0, none⟩ = some (.slice Ao11 t468.length co11) := (blk_cell BK472.out 0).trans rfl
           have hfz138_0 := blk_frozen BK472.out 0
           go_wp2_with (first | ((with_reducible refine gate_callee (f := 18) rfl ?_); refine goesL_ (some 54) rfl rfl Try.func18 (by kernel_rfl) rfl #[.agg #[.slice Ao11 t468.length co11]] rfl (by (try simp only [List.map_toArray, List.map_cons, List.map_nil]); first | done | rfl | (simp only [List.length_drop, List.length_take]; rfl)) ?_; (with_reducible refine (refcount_Counts_Zero.calls kj70 _ _ t468 t488 _ ?side1 ?side2 A74.out).mono ?_); (case side1 => repeat (first | exact (Kd.R_reads' HO_473000.out).2.2 | (with_reducible refine Kd.C_alloc ?_ _) | (with_reducible refine Kd.C_drewN ?_ _) | (with_reducible refine Kd.C_drew ?_))); (case side2 => exact (Kd.R_reads' HO_473000.out).2.1); rintro e w139 ⟨v489, rfl, ho0, hb⟩; refine ⟨_, rfl, ?_⟩; have n0_ := Aside0.mk (Kd.R_below (rU HO_473000.out) hb); have n1_ := Aside0.mk (Kd.R_below (rU HO_482000.out) hb); have n2_ := Aside0.mk (Kd.R_lower ho0 (below_size (by repeat (first | (with_reducible first | exact HB.out | apply below_alloc | apply pw_below_drewN | apply below_drew1 | refine below_set ?_ GE472.out | refine below_set ?_ GE473.out | refine below_set ?_ GE481.out) | exact HB.out)))); have n3_ := Aside0.mk (blk_below (g := gb472) (o := .cells #[.slice Ao11 t468.length co11] 27 (0, 0)) (kU BK472.out) hb); have n4_ := Aside0.mk (blk_below (g := gb473) (o := .cells #[.slice none 0 0] 27 (0, 0)) (kU BK473.out) hb); have n5_ := Aside0.mk (blk_below (g := gb481) (o := .cells #[.slice Ao20 t477.length co20] 27 (0, 0)) (kU BK481.out) hb); have n6_ := Aside0.mk (below_step (by repeat (first | (with_reducible first | exact HB.out | apply below_alloc | apply pw_below_drewN | apply below_drew1 | refine below_set ?_ GE472.out | refine below_set ?_ GE473.out | refine below_set ?_ GE481.out) | exact HB.out)) hb); clear HO_473000; clear HO_482000; clear BK472; clear BK473; clear BK481; clear HB; have HO_473000 := n0_; have HO_482000 := n1_; have HO490 := n2_; have BK472 := n3_; have BK473 := n4_; have BK481 := n5_; have HB := n6_; clear n0_ n1_ n2_ n3_ n4_ n5_ n6_; (try clear hb); (try clear hb2); (try clear hk); (try clear hi); (try clear ho0); have hcz140_0 : w139.cell? ⟨gb472, 0, none⟩ = some (.slice Ao11 t468.length co11) := (blk_cell BK472.out 0).trans rfl; have hfz140_0 := blk_frozen BK472.out 0) | (go_at_call 21; (with_reducible refine (refcount_Counts_Slots.calls _ _ t468 t491 _ ?side1 ?side2 A76.out).mono ?_); (case side1 => repeat (first | exact (Kd.R_reads' HO_473000.out).2.2 | (with_reducible refine Kd.C_alloc ?_ _) | (with_reducible refine Kd.C_drewN ?_ _) | (with_reducible refine Kd.C_drew ?_))); (case side2 => exact (Kd.R_reads' HO_473000.out).2.1); rintro e w141 ⟨rfl, hb⟩; have n0_ := Aside0.mk (Kd.R_below (rU HO_473000.out) hb); have n1_ := Aside0.mk (Kd.R_below (rU HO_482000.out) hb); have n2_ := Aside0.mk (Kd.R_below (rU HO490.out) hb); have n3_ := Aside0.mk (blk_below (g := gb472) (o := .cells #[.slice Ao11 t468.length co11] 27 (0, 0)) (kU BK472.out) hb); have n4_ := Aside0.mk (blk_below (g := gb473) (o := .cells #[.slice none 0 0] 27 (0, 0)) (kU BK473.out) hb); have n5_ := Aside0.mk (blk_below (g := gb481) (o := .cells #[.slice Ao20 t477.length co20] 27 (0, 0)) (kU BK481.out) hb); have n6_ := Aside0.mk (below_step (by repeat (first | (with_reducible first | exact HB.out | apply below_alloc | apply pw_below_drewN | apply below_drew1 | refine below_set ?_ GE472.out | refine below_set ?_ GE473.out | refine below_set ?_ GE481.out) | exact HB.out)) hb); clear HO_473000; clear HO_482000; clear HO490; clear BK472; clear BK473; clear BK481; clear HB; have HO_473000 := n0_; have HO_482000 := n1_; have HO490 := n2_; have BK472 := n3_; have BK473 := n4_; have BK481 := n5_; have HB := n6_; clear n0_ n1_ n2_ n3_ n4_ n5_ n6_; (try clear hb); (try clear hb2); (try clear hk); (try clear hi); have hcz142_0 : w141.cell? ⟨gb472, 0, none⟩ = some (.slice Ao11 t468.length co11) := (blk_cell BK472.out 0).trans rfl; have hfz142_0 := blk_frozen BK472.out 0) | (go_at_call 20; (with_reducible refine (refcount_Counts_Used.calls _ _ t468 t492 _ ?side1 ?side2 A78.out).mono ?_); (case side1 => repeat (first | exact (Kd.R_reads' HO_473000.out).2.2 | (with_reducible refine Kd.C_alloc ?_ _) | (with_reducible refine Kd.C_drewN ?_ _) | (with_reducible refine Kd.C_drew ?_))); (case side2 => exact (Kd.R_reads' HO_473000.out).2.1); rintro e w143 ⟨rfl, hb⟩; have n0_ := Aside0.mk (Kd.R_below (rU HO_473000.out) hb); have n1_ := Aside0.mk (Kd.R_below (rU HO_482000.out) hb); have n2_ := Aside0.mk (Kd.R_below (rU HO490.out) hb); have n3_ := Aside0.mk (blk_below (g := gb472) (o := .cells #[.slice Ao11 t468.length co11] 27 (0, 0)) (kU BK472.out) hb); have n4_ := Aside0.mk (blk_below (g := gb473) (o := .cells #[.slice none 0 0] 27 (0, 0)) (kU BK473.out) hb); have n5_ := Aside0.mk (blk_below (g := gb481) (o := .cells #[.slice Ao20 t477.length co20] 27 (0, 0)) (kU BK481.out) hb); have n6_ := Aside0.mk (below_step (by repeat (first | (with_reducible first | exact HB.out | apply below_alloc | apply pw_below_drewN | apply below_drew1 | refine below_set ?_ GE472.out | refine below_set ?_ GE473.out | refine below_set ?_ GE481.out) | exact HB.out)) hb); clear HO_473000; clear HO_482000; clear HO490; clear BK472; clear BK473; clear BK481; clear HB; have HO_473000 := n0_; have HO_482000 := n1_; have HO490 := n2_; have BK472 := n3_; have BK473 := n4_; have BK481 := n5_; have HB := n6_; clear n0_ n1_ n2_ n3_ n4_ n5_ n6_; (try clear hb); (try clear hb2); (try clear hk); (try clear hi)))
           go_ret
           exact ⟨by first | rfl | (simp [errW_none, errW_some] <;> rfl) | (simp [*, errW_none, errW_some] <;> rfl), by repeat (first | (with_reducible first | exact HB.out | apply below_alloc | apply pw_below_drewN | apply below_drew1 | refine below_set ?_ GE472.out | refine below_set ?_ GE473.out | refine below_set ?_ GE481.out) | exact HB.out)⟩
         ·
          rw [if_neg c77] at H
          have c77b0 : (t491 == a0) = false := beq_eq_false_iff_ne.mpr c77
          have c77b1 : (t491 != a0) = true := bne_iff_ne.mpr c77
          obtain rfl := Option.some.inj H
          have hnb144 := NB472_473.out
          have hnc144 := NB473_472.out
          have hnb145 := NB472_481.out
          have hnc145 := NB481_472.out
          have hcz146_0 : wc.cell? ⟨gb472, 0, none⟩ = some (.slice Ao11 t468.length co11) := (blk_cell BK472.out 0).trans rfl
          have hfz146_0 := blk_frozen BK472.out 0
          go_wp2_with (first | ((with_reducible refine gate_callee (f := 18) rfl ?_); refine goesL_ (some 54) rfl rfl Try.func18 (by kernel_rfl) rfl #[.agg #[.slice Ao11 t468.length co11]] rfl (by (try simp only [List.map_toArray, List.map_cons, List.map_nil]); first | done | rfl | (simp only [List.length_drop, List.length_take]; rfl)) ?_; (with_reducible refine (refcount_Counts_Zero.calls kj70 _ _ t468 t488 _ ?side1 ?side2 A74.out).mono ?_); (case side1 => repeat (first | exact (Kd.R_reads' HO_473000.out).2.2 | (with_reducible refine Kd.C_alloc ?_ _) | (with_reducible refine Kd.C_drewN ?_ _) | (with_reducible refine Kd.C_drew ?_))); (case side2 => exact (Kd.R_reads' HO_473000.out).2.1); rintro e w147 ⟨v489, rfl, ho0, hb⟩; refine ⟨_, rfl, ?_⟩; have n0_ := Aside0.mk (Kd.R_below (rU HO_473000.out) hb); have n1_ := Aside0.mk (Kd.R_below (rU HO_482000.out) hb); have n2_ := Aside0.mk (Kd.R_lower ho0 (below_size (by repeat (first | (with_reducible first | exact HB.out | apply below_alloc | apply pw_below_drewN | apply below_drew1 | refine below_set ?_ GE472.out | refine below_set ?_ GE473.out | refine below_set ?_ GE481.out) | exact HB.out)))); have n3_ := Aside0.mk (blk_below (g := gb472) (o := .cells #[.slice Ao11 t468.length co11] 27 (0, 0)) (kU BK472.out) hb); have n4_ := Aside0.mk (blk_below (g := gb473) (o := .cells #[.slice none 0 0] 27 (0, 0)) (kU BK473.out) hb); have n5_ := Aside0.mk (blk_below (g := gb481) (o := .cells #[.slice Ao20 t477.length co20] 27 (0, 0)) (kU BK481.out) hb); have n6_ := Aside0.mk (below_step (by repeat (first | (with_reducible first | exact HB.out | apply below_alloc | apply pw_below_drewN | apply below_drew1 | refine below_set ?_ GE472.out | refine below_set ?_ GE473.out | refine below_set ?_ GE481.out) | exact HB.out)) hb); clear HO_473000; clear HO_482000; clear BK472; clear BK473; clear BK481; clear HB; have HO_473000 := n0_; have HO_482000 := n1_; have HO490 := n2_; have BK472 := n3_; have BK473 := n4_; have BK481 := n5_; have HB := n6_; clear n0_ n1_ n2_ n3_ n4_ n5_ n6_; (try clear hb); (try clear hb2); (try clear hk); (try clear hi); (try clear ho0); have hcz148_0 : w147.cell? ⟨gb472, 0, none⟩ = some (.slice Ao11 t468.length co11) := (blk_cell BK472.out 0).trans rfl; have hfz148_0 := blk_frozen BK472.out 0) | (go_at_call 21; (with_reducible refine (refcount_Counts_Slots.calls _ _ t468 t491 _ ?side1 ?side2 A76.out).mono ?_); (case side1 => repeat (first | exact (Kd.R_reads' HO_473000.out).2.2 | (with_reducible refine Kd.C_alloc ?_ _) | (with_reducible refine Kd.C_drewN ?_ _) | (with_reducible refine Kd.C_drew ?_))); (case side2 => exact (Kd.R_reads' HO_473000.out).2.1); rintro e w149 ⟨rfl, hb⟩; have n0_ := Aside0.mk (Kd.R_below (rU HO_473000.out) hb); have n1_ := Aside0.mk (Kd.R_below (rU HO_482000.out) hb); have n2_ := Aside0.mk (Kd.R_below (rU HO490.out) hb); have n3_ := Aside0.mk (blk_below (g := gb472) (o := .cells #[.slice Ao11 t468.length co11] 27 (0, 0)) (kU BK472.out) hb); have n4_ := Aside0.mk (blk_below (g := gb473) (o := .cells #[.slice none 0 0] 27 (0, 0)) (kU BK473.out) hb); have n5_ := Aside0.mk (blk_below (g := gb481) (o := .cells #[.slice Ao20 t477.length co20] 27 (0, 0)) (kU BK481.out) hb); have n6_ := Aside0.mk (below_step (by repeat (first | (with_reducible first | exact HB.out | apply below_alloc | apply pw_below_drewN | apply below_drew1 | refine below_set ?_ GE472.out | refine below_set ?_ GE473.out | refine below_set ?_ GE481.out) | exact HB.out)) hb); clear HO_473000; clear HO_482000; clear HO490; clear BK472; clear BK473; clear BK481; clear HB; have HO_473000 := n0_; have HO_482000 := n1_; have HO490 := n2_; have BK472 := n3_; have BK473 := n4_; have BK481 := n5_; have HB := n6_; clear n0_ n1_ n2_ n3_ n4_ n5_ n6_; (try clear hb); (try clear hb2); (try clear hk); (try clear hi)))
          go_ret
          exact ⟨by first | rfl | (simp [errW_none, errW_some] <;> rfl) | (simp [*, errW_none, errW_some] <;> rfl), by repeat (first | (with_reducible first | exact HB.out | apply below_alloc | apply pw_below_drewN | apply below_drew1 | refine below_set ?_ GE472.out | refine below_set ?_ GE473.out | refine below_set ?_ GE481.out) | exact HB.out)⟩
        ·
         rw [if_neg c75] at H
         have c75b0 : (t471 == 0) = false := beq_eq_false_iff_ne.mpr c75
         have c75b1 : (t471 != 0) = true := bne_iff_ne.mpr c75
         obtain rfl := Option.some.inj H
         have hnb150 := NB472_473.out
         have hnc150 := NB473_472.out
         have hnb151 := NB472_481.out
         have hnc151 := NB481_472.out
         have hcz152_0 : wc.cell? ⟨gb472, 0, none⟩ = some (.slice Ao11 t468.length co11) := (blk_cell BK472.out 0).trans rfl
         have hfz152_0 := blk_frozen BK472.out 0
         go_wp2_with (first | ((with_reducible refine gate_callee (f := 18) rfl ?_); refine goesL_ (some 54) rfl rfl Try.func18 (by kernel_rfl) rfl #[.agg #[.slice Ao11 t468.length co11]] rfl (by (try simp only [List.map_toArray, List.map_cons, List.map_nil]); first | done | rfl | (simp only [List.length_drop, List.length_take]; rfl)) ?_; (with_reducible refine (refcount_Counts_Zero.calls kj70 _ _ t468 t488 _ ?side1 ?side2 A74.out).mono ?_); (case side1 => repeat (first | exact (Kd.R_reads' HO_473000.out).2.2 | (with_reducible refine Kd.C_alloc ?_ _) | (with_reducible refine Kd.C_drewN ?_ _) | (with_reducible refine Kd.C_drew ?_))); (case side2 => exact (Kd.R_reads' HO_473000.out).2.1); rintro e w153 ⟨v489, rfl, ho0, hb⟩; refine ⟨_, rfl, ?_⟩; have n0_ := Aside0.mk (Kd.R_below (rU HO_473000.out) hb); have n1_ := Aside0.mk (Kd.R_below (rU HO_482000.out) hb); have n2_ := Aside0.mk (Kd.R_lower ho0 (below_size (by repeat (first | (with_reducible first | exact HB.out | apply below_alloc | apply pw_below_drewN | apply below_drew1 | refine below_set ?_ GE472.out | refine below_set ?_ GE473.out | refine below_set ?_ GE481.out) | exact HB.out)))); have n3_ := Aside0.mk (blk_below (g := gb472) (o := .cells #[.slice Ao11 t468.length co11] 27 (0, 0)) (kU BK472.out) hb); have n4_ := Aside0.mk (blk_below (g := gb473) (o := .cells #[.slice none 0 0] 27 (0, 0)) (kU BK473.out) hb); have n5_ := Aside0.mk (blk_below (g := gb481) (o := .cells #[.slice Ao20 t477.length co20] 27 (0, 0)) (kU BK481.out) hb); have n6_ := Aside0.mk (below_step (by repeat (first | (with_reducible first | exact HB.out | apply below_alloc | apply pw_below_drewN | apply below_drew1 | refine below_set ?_ GE472.out | refine below_set ?_ GE473.out | refine below_set ?_ GE481.out) | exact HB.out)) hb); clear HO_473000; clear HO_482000; clear BK472; clear BK473; clear BK481; clear HB; have HO_473000 := n0_; have HO_482000 := n1_; have HO490 := n2_; have BK472 := n3_; have BK473 := n4_; have BK481 := n5_; have HB := n6_; clear n0_ n1_ n2_ n3_ n4_ n5_ n6_; (try clear hb); (try clear hb2); (try clear hk); (try clear hi); (try clear ho0)))
         go_ret
         exact ⟨by first | rfl | (simp [errW_none, errW_some] <;> rfl) | (simp [*, errW_none, errW_some] <;> rfl), by repeat (first | (with_reducible first | exact HB.out | apply below_alloc | apply pw_below_drewN | apply below_drew1 | refine below_set ?_ GE472.out | refine below_set ?_ GE473.out | refine below_set ?_ GE481.out) | exact HB.out)⟩
 ·
  replace c3 := Bool.eq_false_iff.mpr c3
  subst c3
  have H1 : (some false) = some r := by rw [if_neg (show ¬ (false = true) by decide)] at H; exact H
  clear H
  have H := H1
  clear H1
  obtain rfl := Option.some.inj H
  go_enter Try.func7, Try.ntmps7
  go_wp2_with (first | ((with_reducible refine gate_callee (f := 9) rfl ?_); refine goesL_ (some 9) rfl rfl Try.func9 (by kernel_rfl) rfl #[] rfl (by (try simp only [List.map_toArray, List.map_cons, List.map_nil]); first | done | rfl | (simp only [List.length_drop, List.length_take]; rfl)) ?_; (with_reducible refine (tegulalaw34_awake.calls k  false _ A2.out).mono ?_); rintro e w154 ⟨rfl, hb⟩; refine ⟨_, rfl, ?_⟩; have n0_ := Aside0.mk (below_step (bU HB.out) hb); clear HB; have HB := n0_; clear n0_; (try clear hb); (try clear hb2); (try clear hk); (try clear hi)))
  go_ret
  exact ⟨by first | rfl | (simp [errW_none, errW_some] <;> rfl) | (simp [*, errW_none, errW_some] <;> rfl), bU HB.out⟩

/-- THE ONE PURE STATEMENT of tegulalaw34_RefcountNew: yours. -/
def tegulalaw34_RefcountNew.Pure : Prop := ∀ (a0 : Int), (Lit.int .i64 a0).wf = true → ∃ k, tegulalaw34_RefcountNew.f k a0 = some true
theorem tegulalaw34_RefcountNew.walk (P : tegulalaw34_RefcountNew.Pure) (a0 : Int) (w : World) (w0 : (Lit.int .i64 a0).wf = true) :
  Calls Try.prog 7 #[.int .i64 a0] w fun e w' => e = .returned (.bool true) ∧ Below w.heap.size w w' := by
 obtain ⟨k, h⟩ := P a0 w0
 refine (tegulalaw34_RefcountNew.calls k a0 true w h).mono ?_
 rintro e w' ⟨rfl, hd⟩
 exact ⟨rfl, hd⟩

end Go.Proofs.Ytnloofhpdlggnaa.PRefcount
