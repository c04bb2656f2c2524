-- Written for this claim by a program of this session (wip/), out of the translation's own print: Lean checks it
import Derived.Test.YtcgihjpnemnkeaaPExtentMapsx0
import Derived.Test.YtcgihjpnemnkeaaIns4
import Derived.Test.YtcgihjpnemnkeaaPExtentMapsx2
import Derived.Test.YtcgihjpnemnkeaaPExtentMapsx3
import Derived.Test.YtcgihjpnemnkeaaPExtentMapsx6
import Derived.Test.YtcgihjpnemnkeaaPExtentMapsx8
namespace Go.Proofs.Ytcgihjpnemnkeaa.PExtentMaps
open Go.RowKit Go.Proofs.YtcgihjpnemnkeaaW.PrintWords Go.Proofs.YtcgihjpnemnkeaaW.PrintLast Go.Proofs.YtcgihjpnemnkeaaW.PrintMore
attribute [local go_sem] max2_int min2_int max_two min_two max_three min_three max_four min_four   -- for this text's walks alone
set_option linter.unusedVariables false
set_option linter.unusedSimpArgs false

/-! ### extent_Find: function 22 -/
def extent_Find.l0 : Nat → Int → List (S33) → Int → Int → Option (Int × Bool)
 | 0, _, _, _, _ => none
 | k + 1, x1, x11, x12, x13 => if x13 < x12 then (if 0 ≤ x13 then (if x13 < (x11.length : Int) then (if ((rd_T33 x11 x13).f0) ≤ x1 then ((extent_end.f ((rd_T33 x11 x13).f0) ((rd_T33 x11 x13).f1) ((rd_T33 x11 x13).f2)).bind fun t201 => (if x1 < t201 then (some (wrap64 ((wrap64 (((rd_T33 x11 x13).f2) + x1)) - ((rd_T33 x11 x13).f0)), true)) else (extent_Find.l0 k x1 x11 x12 (wrap64 (x13 + 1))))) else (extent_Find.l0 k x1 x11 x12 (wrap64 (x13 + 1)))) else (none)) else (none)) else (some (0, false))
def extent_Find.f (k : Nat) (l0 : List (S33)) (a1 : Int) : Option (Int × Bool) := (extent_Valid.f k l0).bind fun t198 => (if t198 = true then (extent_Find.l0 k a1 l0 (l0.length : Int) 0) else (some (0, false)))
theorem extent_Find.mono_l : ∀ k, (∀ y0 y1 y2 y3, LeO (extent_Find.l0 k y0 y1 y2 y3) (extent_Find.l0 (k + 1) y0 y1 y2 y3))
 | 0 => fun _ _ _ _ r h => by simp [extent_Find.l0] at h
 | k + 1 => by
  have ih0 := extent_Find.mono_l k
  ·
   intro y0 y1 y2 y3
   unfold extent_Find.l0
   repeat' first
   | (with_reducible exact ih0 _ _ _ _)
   | (with_reducible exact extent_Valid.mono _ _)
   | (with_reducible exact LeO.refl _)
   | (with_reducible exact LeO.none _)
   | (with_reducible refine LeO.ite ?_ ?_)
   | (with_reducible refine LeO.bind ?_ (fun _ => ?_))
   | exact ih0 _ _ _ _
   | exact extent_Valid.mono _ _
   | exact LeO.none _
   | refine LeO.ite ?_ ?_
   | refine LeO.bind ?_ (fun _ => ?_)
theorem extent_Find.mono : ∀ a0 a1 k, LeO (extent_Find.f k a0 a1) (extent_Find.f (k + 1) a0 a1) := by
 intro a0 a1 k
 have ih0 := extent_Find.mono_l k
 unfold extent_Find.f
 repeat' first
   | (with_reducible exact ih0 _ _ _ _)
   | (with_reducible exact extent_Valid.mono _ _)
   | (with_reducible exact LeO.refl _)
   | (with_reducible exact LeO.none _)
   | (with_reducible refine LeO.ite ?_ ?_)
   | (with_reducible refine LeO.bind ?_ (fun _ => ?_))
   | exact ih0 _ _ _ _
   | exact extent_Valid.mono _ _
   | exact LeO.none _
   | refine LeO.ite ?_ ?_
   | refine LeO.bind ?_ (fun _ => ?_)
set_option maxHeartbeats 8000000 in
set_option maxRecDepth 100000 in
theorem extent_Find.calls (k : Nat) (A0 : Option Addr) (c0 : Nat) (l0 : List (S33)) (a1 : Int) (r1 : Int) (r2 : Bool) (w : World) (hr0 : Kd.C k33 w A0 l0.length l0) (hc0 : l0.length ≤ c0) (h : extent_Find.f k l0 a1 = some (r1, r2)) :
  Calls Try.prog 22 #[.slice A0 l0.length c0, .int .i64 a1] w fun e w' => e = .returned (.tuple #[.int .i64 r1, .bool r2]) ∧ Below w.heap.size w w' := by
 have hu33 := Try.underlying33
 have HR0 := Aside0.mk hr0
 have HC0 := Aside0.mk hc0
 clear hr0 hc0
 have HB := Aside0.mk (Below.refl w.heap.size w)
 have H : ((extent_Valid.f k l0).bind fun t198 => (if t198 = true then (extent_Find.l0 k a1 l0 (l0.length : Int) 0) else (some (0, false)))) = some (r1, r2) := h
 clear h
 replace H := Option.bind_eq_some_iff.mp H
 obtain ⟨t198, A30, H⟩ := H
 replace H : (if t198 = true then (extent_Find.l0 k a1 l0 (l0.length : Int) 0) else (some (0, false))) = some (r1, r2) := H
 have A3 := Aside0.mk A30
 clear A30
 by_cases c4 : t198 = true
 ·
  subst c4
  have H1 : (extent_Find.l0 k a1 l0 (l0.length : Int) 0) = some (r1, r2) := by rw [if_pos rfl] at H; exact H
  clear H
  have H := H1
  clear H1
  have H' := Aside0.mk H
  clear H
  go_enter Try.func22, Try.ntmps22
  go_wp2_with (first | ((with_reducible refine gate_callee (f := 19) rfl ?_); refine goesL_ (some 9) rfl rfl Try.func19 (by kernel_rfl) rfl #[.slice A0 l0.length c0] rfl (by (try simp only [List.map_toArray, List.map_cons, List.map_nil]); first | done | rfl | (simp only [List.length_drop, List.length_take]; rfl)) ?_; (with_reducible refine (extent_Valid.calls k _ _ l0 true _ ?side1 ?side2 A3.out).mono ?_); (case side1 => repeat (first | exact HR0.out | (with_reducible refine Kd.C_alloc ?_ _) | (with_reducible refine Kd.C_drewN ?_ _) | (with_reducible refine Kd.C_drew ?_))); (case side2 => exact HC0.out); rintro e w5 ⟨rfl, hb⟩; refine ⟨_, rfl, ?_⟩; have n0_ := Aside0.mk (below_step (by repeat (first | (with_reducible first | exact HB.out | apply below_alloc | apply pw_below_drewN | apply below_drew1) | exact HB.out)) hb); clear HB; have HB := n0_; clear n0_; (try clear hb); (try clear hb2); (try clear hk); (try clear hi)))
  go_loopg [13] k (fun kq v13 w' => ∃ (x13_1 : Int), v13 = .int .i64 x13_1 ∧ Aside0 (extent_Find.l0 kq a1 l0 (l0.length : Int) x13_1 = some (r1, r2)) ∧ Aside0 (kq ≤ k) ∧ Aside0 (Below w.heap.size w w'))
  case atStart => exact ⟨(0), (by first | rfl | (simp; done) | (simp [*]; done)), H', ⟨Nat.le_refl _⟩, ⟨by repeat (first | (with_reducible first | exact HB.out | apply below_alloc | apply pw_below_drewN | apply below_drew1) | exact HB.out)⟩⟩
  case round =>
   clear H'
   try clear c1
   try clear c2
   try clear p2
   try clear c4
   obtain ⟨x13_1, rfl, HA, HK1, HB⟩ := hrel
   cases gk with
   | zero => exact absurd HA.out (by simp [extent_Find.l0])
   | succ k1 =>
    have H := HA.out
    clear HA
    simp only [extent_Find.l0] at H
    by_cases c6 : x13_1 < (l0.length : Int)
    ·
     rw [if_pos c6] at H
     have c6b0 : decide (x13_1 < (l0.length : Int)) = true := decide_eq_true c6
     clear c6
     by_cases c7 : 0 ≤ x13_1
     ·
      rw [if_pos c7] at H
      have c7b0 : decide (0 ≤ x13_1) = true := decide_eq_true c7
      clear c7
      by_cases c8 : x13_1 < (l0.length : Int)
      ·
       rw [if_pos c8] at H
       have c8b0 : decide (x13_1 < (l0.length : Int)) = true := decide_eq_true c8
       clear c8
       by_cases c9 : ((rd_T33 l0 x13_1).f0) ≤ a1
       ·
        rw [if_pos c9] at H
        have c9b0 : decide (((rd_T33 l0 x13_1).f0) ≤ a1) = true := decide_eq_true c9
        clear c9
        replace H := Option.bind_eq_some_iff.mp H
        obtain ⟨t201, A100, H⟩ := H
        replace H : (if a1 < t201 then (some (wrap64 ((wrap64 (((rd_T33 l0 x13_1).f2) + a1)) - ((rd_T33 l0 x13_1).f0)), true)) else (extent_Find.l0 k1 a1 l0 (l0.length : Int) (wrap64 (x13_1 + 1)))) = some (r1, r2) := H
        have A10 := Aside0.mk A100
        clear A100
        by_cases c11 : a1 < t201
        ·
         rw [if_pos c11] at H
         have c11b0 : decide (a1 < t201) = true := decide_eq_true c11
         clear c11
         simp only [Option.some.injEq, Prod.mk.injEq] at H
         obtain ⟨rfl, rfl⟩ := H
         have p199 : 0 ≤ (x13_1 : Int) := of_decide_eq_true (by first | (with_reducible assumption) | assumption)
         have q199 : x13_1 < (l0.length : Int) := of_decide_eq_true (by first | (with_reducible assumption) | assumption)
         obtain ⟨ad199, e199, hx199_0, hx199_1, hx199_2⟩ := at_T33 HR0.out x13_1 p199 q199
         cases e199
         replace hx199_0 := (HB.out.cell (World.block_lt_of_cell? w _ hx199_0)).trans hx199_0
         replace hx199_1 := (HB.out.cell (World.block_lt_of_cell? w _ hx199_1)).trans hx199_1
         replace hx199_2 := (HB.out.cell (World.block_lt_of_cell? w _ hx199_2)).trans hx199_2
         replace p199 := eq_true p199
         replace q199 := eq_true q199
         go_wp2_with (first | ((with_reducible refine gate_dst (N := 7) rfl ?_); refine box_event ?hg (N := 7) ?hd (cs := #[.int .i64 0, .int .i64 0, .int .i64 0]) (t := 33) ?hr ?_; (case hd => rfl); (case hg => rfl); (case hr => first | (go_simp; done) | (go_simp; rfl)); intro gb200 hg w12 hbox hb; have n0_ := Aside0.mk (below_step (by repeat (first | (with_reducible first | exact HB.out | apply below_alloc | apply pw_below_drewN | apply below_drew1) | exact HB.out)) hb); have n1_ := Aside0.mk (hbox); have n2_ := Aside0.mk ((by rw [hg]; exact (below_size (by repeat (first | (with_reducible first | exact HB.out | apply below_alloc | apply pw_below_drewN | apply below_drew1) | exact HB.out))) : w.heap.size ≤ gb200)); have n3_ := Aside0.mk ((by rw [hg]; exact (below_size (by repeat (first | (with_reducible first | exact HB.out | apply below_alloc | apply pw_below_drewN | apply below_drew1) | exact HB.out))) : w.heap.size ≤ gb200)); clear HB; have HB := n0_; have BK200 := n1_; have GW200 := n2_; have GE200 := n3_; clear n0_ n1_ n2_ n3_; clear hb hbox hg; have hcz13_0 : w12.cell? ⟨gb200, 0, none⟩ = some (.int .i64 0) := (blk_cell BK200.out 0).trans rfl; have hcz13_1 : w12.cell? ⟨gb200, 1, none⟩ = some (.int .i64 0) := (blk_cell BK200.out 1).trans rfl; have hcz13_2 : w12.cell? ⟨gb200, 2, none⟩ = some (.int .i64 0) := (blk_cell BK200.out 2).trans rfl; have hfz13_0 := blk_frozen BK200.out 0; have hfz13_1 := blk_frozen BK200.out 1; have hfz13_2 := blk_frozen BK200.out 2) | (go_at_call 35; (with_reducible refine (extent_end.calls ((rd_T33 l0 x13_1).f0) ((rd_T33 l0 x13_1).f1) ((rd_T33 l0 x13_1).f2) t201 _ A10.out).mono ?_); rintro e w14 ⟨rfl, hb⟩; have n0_ := Aside0.mk (blk_below (g := gb200) (o := .cells #[.int .i64 ((rd_T33 l0 x13_1).f0), .int .i64 ((rd_T33 l0 x13_1).f1), .int .i64 ((rd_T33 l0 x13_1).f2)] 33 (0, 0)) (by (with_reducible repeat (first | refine blk_drewN ?_ _ | refine blk_drew ?_ | refine blk_alloc ?_ _)); refine blk_put (cs := #[.int .i64 ((rd_T33 l0 x13_1).f0), .int .i64 ((rd_T33 l0 x13_1).f1), .int .i64 0]) ?_ 2 _ rfl; (with_reducible repeat (first | refine blk_drewN ?_ _ | refine blk_drew ?_ | refine blk_alloc ?_ _)); refine blk_put (cs := #[.int .i64 ((rd_T33 l0 x13_1).f0), .int .i64 0, .int .i64 0]) ?_ 1 _ rfl; (with_reducible repeat (first | refine blk_drewN ?_ _ | refine blk_drew ?_ | refine blk_alloc ?_ _)); refine blk_put (cs := #[.int .i64 0, .int .i64 0, .int .i64 0]) ?_ 0 _ rfl; (with_reducible repeat (first | refine blk_drewN ?_ _ | refine blk_drew ?_ | refine blk_alloc ?_ _)); exact BK200.out) hb); have n1_ := Aside0.mk (below_step (by repeat (first | (with_reducible first | exact HB.out | apply below_alloc | apply pw_below_drewN | apply below_drew1 | refine below_set ?_ GE200.out) | exact HB.out)) hb); clear BK200; clear HB; have BK200 := n0_; have HB := n1_; clear n0_ n1_; (try clear hb); (try clear hb2); (try clear hk); (try clear hi); have hcz15_0 : w14.cell? ⟨gb200, 0, none⟩ = some (.int .i64 ((rd_T33 l0 x13_1).f0)) := (blk_cell BK200.out 0).trans rfl; have hcz15_1 : w14.cell? ⟨gb200, 1, none⟩ = some (.int .i64 ((rd_T33 l0 x13_1).f1)) := (blk_cell BK200.out 1).trans rfl; have hcz15_2 : w14.cell? ⟨gb200, 2, none⟩ = some (.int .i64 ((rd_T33 l0 x13_1).f2)) := (blk_cell BK200.out 2).trans rfl; have hfz15_0 := blk_frozen BK200.out 0; have hfz15_1 := blk_frozen BK200.out 1; have hfz15_2 := blk_frozen BK200.out 2))
         go_ret2
         exact ⟨by first | rfl | (simp [errW_none, errW_some] <;> rfl) | (simp [*, errW_none, errW_some] <;> rfl), by repeat (first | (with_reducible first | exact HB.out | apply below_alloc | apply pw_below_drewN | apply below_drew1 | refine below_set ?_ GE200.out) | exact HB.out)⟩
        ·
         rw [if_neg c11] at H
         have c11b0 : decide (a1 < t201) = false := decide_eq_false c11
         clear c11
         have H' := Aside0.mk H
         clear H
         have p199 : 0 ≤ (x13_1 : Int) := of_decide_eq_true (by first | (with_reducible assumption) | assumption)
         have q199 : x13_1 < (l0.length : Int) := of_decide_eq_true (by first | (with_reducible assumption) | assumption)
         obtain ⟨ad199, e199, hx199_0, hx199_1, hx199_2⟩ := at_T33 HR0.out x13_1 p199 q199
         cases e199
         replace hx199_0 := (HB.out.cell (World.block_lt_of_cell? w _ hx199_0)).trans hx199_0
         replace hx199_1 := (HB.out.cell (World.block_lt_of_cell? w _ hx199_1)).trans hx199_1
         replace hx199_2 := (HB.out.cell (World.block_lt_of_cell? w _ hx199_2)).trans hx199_2
         replace p199 := eq_true p199
         replace q199 := eq_true q199
         go_wp2_with (first | ((with_reducible refine gate_dst (N := 7) rfl ?_); refine box_event ?hg (N := 7) ?hd (cs := #[.int .i64 0, .int .i64 0, .int .i64 0]) (t := 33) ?hr ?_; (case hd => rfl); (case hg => rfl); (case hr => first | (go_simp; done) | (go_simp; rfl)); intro gb200 hg w16 hbox hb; have n0_ := Aside0.mk (below_step (by repeat (first | (with_reducible first | exact HB.out | apply below_alloc | apply pw_below_drewN | apply below_drew1) | exact HB.out)) hb); have n1_ := Aside0.mk (hbox); have n2_ := Aside0.mk ((by rw [hg]; exact (below_size (by repeat (first | (with_reducible first | exact HB.out | apply below_alloc | apply pw_below_drewN | apply below_drew1) | exact HB.out))) : w.heap.size ≤ gb200)); have n3_ := Aside0.mk ((by rw [hg]; exact (below_size (by repeat (first | (with_reducible first | exact HB.out | apply below_alloc | apply pw_below_drewN | apply below_drew1) | exact HB.out))) : w.heap.size ≤ gb200)); clear HB; have HB := n0_; have BK200 := n1_; have GW200 := n2_; have GE200 := n3_; clear n0_ n1_ n2_ n3_; clear hb hbox hg; have hcz17_0 : w16.cell? ⟨gb200, 0, none⟩ = some (.int .i64 0) := (blk_cell BK200.out 0).trans rfl; have hcz17_1 : w16.cell? ⟨gb200, 1, none⟩ = some (.int .i64 0) := (blk_cell BK200.out 1).trans rfl; have hcz17_2 : w16.cell? ⟨gb200, 2, none⟩ = some (.int .i64 0) := (blk_cell BK200.out 2).trans rfl; have hfz17_0 := blk_frozen BK200.out 0; have hfz17_1 := blk_frozen BK200.out 1; have hfz17_2 := blk_frozen BK200.out 2) | (go_at_call 35; (with_reducible refine (extent_end.calls ((rd_T33 l0 x13_1).f0) ((rd_T33 l0 x13_1).f1) ((rd_T33 l0 x13_1).f2) t201 _ A10.out).mono ?_); rintro e w18 ⟨rfl, hb⟩; have n0_ := Aside0.mk (blk_below (g := gb200) (o := .cells #[.int .i64 ((rd_T33 l0 x13_1).f0), .int .i64 ((rd_T33 l0 x13_1).f1), .int .i64 ((rd_T33 l0 x13_1).f2)] 33 (0, 0)) (by (with_reducible repeat (first | refine blk_drewN ?_ _ | refine blk_drew ?_ | refine blk_alloc ?_ _)); refine blk_put (cs := #[.int .i64 ((rd_T33 l0 x13_1).f0), .int .i64 ((rd_T33 l0 x13_1).f1), .int .i64 0]) ?_ 2 _ rfl; (with_reducible repeat (first | refine blk_drewN ?_ _ | refine blk_drew ?_ | refine blk_alloc ?_ _)); refine blk_put (cs := #[.int .i64 ((rd_T33 l0 x13_1).f0), .int .i64 0, .int .i64 0]) ?_ 1 _ rfl; (with_reducible repeat (first | refine blk_drewN ?_ _ | refine blk_drew ?_ | refine blk_alloc ?_ _)); refine blk_put (cs := #[.int .i64 0, .int .i64 0, .int .i64 0]) ?_ 0 _ rfl; (with_reducible repeat (first | refine blk_drewN ?_ _ | refine blk_drew ?_ | refine blk_alloc ?_ _)); exact BK200.out) hb); have n1_ := Aside0.mk (below_step (by repeat (first | (with_reducible first | exact HB.out | apply below_alloc | apply pw_below_drewN | apply below_drew1 | refine below_set ?_ GE200.out) | exact HB.out)) hb); clear BK200; clear HB; have BK200 := n0_; have HB := n1_; clear n0_ n1_; (try clear hb); (try clear hb2); (try clear hk); (try clear hi)))
         go_roundg k1
         case measure => have := HK1.out; omega
         case rel => exact ⟨(wrap64 (x13_1 + 1)), (by first | rfl | (simp; done) | (simp [*]; done)), H', ⟨by have := HK1.out; omega⟩, ⟨by repeat (first | (with_reducible first | exact HB.out | apply below_alloc | apply pw_below_drewN | apply below_drew1 | refine below_set ?_ GE200.out) | exact HB.out)⟩⟩
       ·
        rw [if_neg c9] at H
        have c9b0 : decide (((rd_T33 l0 x13_1).f0) ≤ a1) = false := decide_eq_false c9
        clear c9
        have H' := Aside0.mk H
        clear H
        have p199 : 0 ≤ (x13_1 : Int) := of_decide_eq_true (by first | (with_reducible assumption) | assumption)
        have q199 : x13_1 < (l0.length : Int) := of_decide_eq_true (by first | (with_reducible assumption) | assumption)
        obtain ⟨ad199, e199, hx199_0, hx199_1, hx199_2⟩ := at_T33 HR0.out x13_1 p199 q199
        cases e199
        replace hx199_0 := (HB.out.cell (World.block_lt_of_cell? w _ hx199_0)).trans hx199_0
        replace hx199_1 := (HB.out.cell (World.block_lt_of_cell? w _ hx199_1)).trans hx199_1
        replace hx199_2 := (HB.out.cell (World.block_lt_of_cell? w _ hx199_2)).trans hx199_2
        replace p199 := eq_true p199
        replace q199 := eq_true q199
        go_wp2_with (first | ((with_reducible refine gate_dst (N := 7) rfl ?_); refine box_event ?hg (N := 7) ?hd (cs := #[.int .i64 0, .int .i64 0, .int .i64 0]) (t := 33) ?hr ?_; (case hd => rfl); (case hg => rfl); (case hr => first | (go_simp; done) | (go_simp; rfl)); intro gb200 hg w19 hbox hb; have n0_ := Aside0.mk (below_step (by repeat (first | (with_reducible first | exact HB.out | apply below_alloc | apply pw_below_drewN | apply below_drew1) | exact HB.out)) hb); have n1_ := Aside0.mk (hbox); have n2_ := Aside0.mk ((by rw [hg]; exact (below_size (by repeat (first | (with_reducible first | exact HB.out | apply below_alloc | apply pw_below_drewN | apply below_drew1) | exact HB.out))) : w.heap.size ≤ gb200)); have n3_ := Aside0.mk ((by rw [hg]; exact (below_size (by repeat (first | (with_reducible first | exact HB.out | apply below_alloc | apply pw_below_drewN | apply below_drew1) | exact HB.out))) : w.heap.size ≤ gb200)); clear HB; have HB := n0_; have BK200 := n1_; have GW200 := n2_; have GE200 := n3_; clear n0_ n1_ n2_ n3_; clear hb hbox hg; have hcz20_0 : w19.cell? ⟨gb200, 0, none⟩ = some (.int .i64 0) := (blk_cell BK200.out 0).trans rfl; have hcz20_1 : w19.cell? ⟨gb200, 1, none⟩ = some (.int .i64 0) := (blk_cell BK200.out 1).trans rfl; have hcz20_2 : w19.cell? ⟨gb200, 2, none⟩ = some (.int .i64 0) := (blk_cell BK200.out 2).trans rfl; have hfz20_0 := blk_frozen BK200.out 0; have hfz20_1 := blk_frozen BK200.out 1; have hfz20_2 := blk_frozen BK200.out 2))
        go_roundg k1
        case measure => have := HK1.out; omega
        case rel => exact ⟨(wrap64 (x13_1 + 1)), (by first | rfl | (simp; done) | (simp [*]; done)), H', ⟨by have := HK1.out; omega⟩, ⟨by repeat (first | (with_reducible first | exact HB.out | apply below_alloc | apply pw_below_drewN | apply below_drew1 | refine below_set ?_ GE200.out) | exact HB.out)⟩⟩
      ·
       rw [if_neg c8] at H
       exact absurd H (by simp)
     ·
      rw [if_neg c7] at H
      exact absurd H (by simp)
    ·
     rw [if_neg c6] at H
     have c6b0 : decide (x13_1 < (l0.length : Int)) = false := decide_eq_false c6
     clear c6
     simp only [Option.some.injEq, Prod.mk.injEq] at H
     obtain ⟨rfl, rfl⟩ := H
     go_wp2
     go_ret2
     exact ⟨by first | rfl | (simp [errW_none, errW_some] <;> rfl) | (simp [*, errW_none, errW_some] <;> rfl), by repeat (first | (with_reducible first | exact HB.out | apply below_alloc | apply pw_below_drewN | apply below_drew1) | exact HB.out)⟩
 ·
  replace c4 := Bool.eq_false_iff.mpr c4
  subst c4
  have H1 : (some (0, false)) = some (r1, r2) := by rw [if_neg (show ¬ (false = true) by decide)] at H; exact H
  clear H
  have H := H1
  clear H1
  simp only [Option.some.injEq, Prod.mk.injEq] at H
  obtain ⟨rfl, rfl⟩ := H
  go_enter Try.func22, Try.ntmps22
  go_wp2_with (first | ((with_reducible refine gate_callee (f := 19) rfl ?_); refine goesL_ (some 9) rfl rfl Try.func19 (by kernel_rfl) rfl #[.slice A0 l0.length c0] rfl (by (try simp only [List.map_toArray, List.map_cons, List.map_nil]); first | done | rfl | (simp only [List.length_drop, List.length_take]; rfl)) ?_; (with_reducible refine (extent_Valid.calls k _ _ l0 false _ ?side1 ?side2 A3.out).mono ?_); (case side1 => repeat (first | exact HR0.out | (with_reducible refine Kd.C_alloc ?_ _) | (with_reducible refine Kd.C_drewN ?_ _) | (with_reducible refine Kd.C_drew ?_))); (case side2 => exact HC0.out); rintro e w21 ⟨rfl, hb⟩; refine ⟨_, rfl, ?_⟩; have n0_ := Aside0.mk (below_step (by repeat (first | (with_reducible first | exact HB.out | apply below_alloc | apply pw_below_drewN | apply below_drew1) | exact HB.out)) hb); clear HB; have HB := n0_; clear n0_; (try clear hb); (try clear hb2); (try clear hk); (try clear hi)))
  go_ret2
  exact ⟨by first | rfl | (simp [errW_none, errW_some] <;> rfl) | (simp [*, errW_none, errW_some] <;> rfl), by repeat (first | (with_reducible first | exact HB.out | apply below_alloc | apply pw_below_drewN | apply below_drew1) | exact HB.out)⟩

/-! ### tegularef32_Find: function 23 -/
def tegularef32_Find.l0 : Nat → List (S33) → Int → Int → Option (Int × Bool)
 | 0, _, _, _ => none
 | k + 1, x0, x1, x6 => if x6 < (x0.length : Int) then (if 0 ≤ x6 then (if x1 ≥ ((rd_T33 x0 x6).f0) then (if x1 < (wrap64 (((rd_T33 x0 x6).f0) + ((rd_T33 x0 x6).f1))) then (some (wrap64 ((wrap64 (((rd_T33 x0 x6).f2) + x1)) - ((rd_T33 x0 x6).f0)), true)) else (tegularef32_Find.l0 k x0 x1 (wrap64 (x6 + 1)))) else (tegularef32_Find.l0 k x0 x1 (wrap64 (x6 + 1)))) else (none)) else (some (0, false))
def tegularef32_Find.f (k : Nat) (l0 : List (S33)) (a1 : Int) : Option (Int × Bool) := (tegularef32_Valid.f k l0).bind fun t202 => (if t202 = true then (tegularef32_Find.l0 k l0 a1 0) else (some (0, false)))
theorem tegularef32_Find.mono_l : ∀ k, (∀ y0 y1 y2, LeO (tegularef32_Find.l0 k y0 y1 y2) (tegularef32_Find.l0 (k + 1) y0 y1 y2))
 | 0 => fun _ _ _ r h => by simp [tegularef32_Find.l0] at h
 | k + 1 => by
  have ih0 := tegularef32_Find.mono_l k
  ·
   intro y0 y1 y2
   unfold tegularef32_Find.l0
   repeat' first
   | (with_reducible exact ih0 _ _ _)
   | (with_reducible exact tegularef32_Valid.mono _ _)
   | (with_reducible exact LeO.refl _)
   | (with_reducible exact LeO.none _)
   | (with_reducible refine LeO.ite ?_ ?_)
   | (with_reducible refine LeO.bind ?_ (fun _ => ?_))
   | exact ih0 _ _ _
   | exact tegularef32_Valid.mono _ _
   | exact LeO.none _
   | refine LeO.ite ?_ ?_
   | refine LeO.bind ?_ (fun _ => ?_)
theorem tegularef32_Find.mono : ∀ a0 a1 k, LeO (tegularef32_Find.f k a0 a1) (tegularef32_Find.f (k + 1) a0 a1) := by
 intro a0 a1 k
 have ih0 := tegularef32_Find.mono_l k
 unfold tegularef32_Find.f
 repeat' first
   | (with_reducible exact ih0 _ _ _)
   | (with_reducible exact tegularef32_Valid.mono _ _)
   | (with_reducible exact LeO.refl _)
   | (with_reducible exact LeO.none _)
   | (with_reducible refine LeO.ite ?_ ?_)
   | (with_reducible refine LeO.bind ?_ (fun _ => ?_))
   | exact ih0 _ _ _
   | exact tegularef32_Valid.mono _ _
   | exact LeO.none _
   | refine LeO.ite ?_ ?_
   | refine LeO.bind ?_ (fun _ => ?_)
set_option maxHeartbeats 8000000 in
set_option maxRecDepth 100000 in
theorem tegularef32_Find.calls (k : Nat) (A0 : Option Addr) (c0 : Nat) (l0 : List (S33)) (a1 : Int) (r1 : Int) (r2 : Bool) (w : World) (hr0 : Kd.C k33 w A0 l0.length l0) (hc0 : l0.length ≤ c0) (h : tegularef32_Find.f k l0 a1 = some (r1, r2)) :
  Calls Try.prog 23 #[.slice A0 l0.length c0, .int .i64 a1] w fun e w' => e = .returned (.tuple #[.int .i64 r1, .bool r2]) ∧ Below w.heap.size w w' := by
 have HR0 := Aside0.mk hr0
 have HC0 := Aside0.mk hc0
 clear hr0 hc0
 have HB := Aside0.mk (Below.refl w.heap.size w)
 have H : ((tegularef32_Valid.f k l0).bind fun t202 => (if t202 = true then (tegularef32_Find.l0 k l0 a1 0) else (some (0, false)))) = some (r1, r2) := h
 clear h
 replace H := Option.bind_eq_some_iff.mp H
 obtain ⟨t202, A30, H⟩ := H
 replace H : (if t202 = true then (tegularef32_Find.l0 k l0 a1 0) else (some (0, false))) = some (r1, r2) := H
 have A3 := Aside0.mk A30
 clear A30
 by_cases c4 : t202 = true
 ·
  subst c4
  have H1 : (tegularef32_Find.l0 k l0 a1 0) = some (r1, r2) := by rw [if_pos rfl] at H; exact H
  clear H
  have H := H1
  clear H1
  have H' := Aside0.mk H
  clear H
  go_enter Try.func23, Try.ntmps23
  go_wp2_with (first | (go_at_call 16; (with_reducible refine (tegularef32_Valid.calls k _ _ l0 true _ ?side1 ?side2 A3.out).mono ?_); (case side1 => repeat (first | exact HR0.out | (with_reducible refine Kd.C_alloc ?_ _) | (with_reducible refine Kd.C_drewN ?_ _) | (with_reducible refine Kd.C_drew ?_))); (case side2 => exact HC0.out); rintro e w5 ⟨rfl, hb⟩; have n0_ := Aside0.mk (below_step (by repeat (first | (with_reducible first | exact HB.out | apply below_alloc | apply pw_below_drewN | apply below_drew1) | exact HB.out)) hb); clear HB; have HB := n0_; clear n0_; (try clear hb); (try clear hb2); (try clear hk); (try clear hi)))
  repeat (go_quiet (first | (go_at_call 16; (with_reducible refine (tegularef32_Valid.calls k _ _ l0 true _ ?side1 ?side2 A3.out).mono ?_); (case side1 => repeat (first | exact HR0.out | (with_reducible refine Kd.C_alloc ?_ _) | (with_reducible refine Kd.C_drewN ?_ _) | (with_reducible refine Kd.C_drew ?_))); (case side2 => exact HC0.out); rintro e w5 ⟨rfl, hb⟩; have n0_ := Aside0.mk (below_step (by repeat (first | (with_reducible first | exact HB.out | apply below_alloc | apply pw_below_drewN | apply below_drew1) | exact HB.out)) hb); clear HB; have HB := n0_; clear n0_; (try clear hb); (try clear hb2); (try clear hk); (try clear hi))); try go_wp2_with (first | (go_at_call 16; (with_reducible refine (tegularef32_Valid.calls k _ _ l0 true _ ?side1 ?side2 A3.out).mono ?_); (case side1 => repeat (first | exact HR0.out | (with_reducible refine Kd.C_alloc ?_ _) | (with_reducible refine Kd.C_drewN ?_ _) | (with_reducible refine Kd.C_drew ?_))); (case side2 => exact HC0.out); rintro e w5 ⟨rfl, hb⟩; have n0_ := Aside0.mk (below_step (by repeat (first | (with_reducible first | exact HB.out | apply below_alloc | apply pw_below_drewN | apply below_drew1) | exact HB.out)) hb); clear HB; have HB := n0_; clear n0_; (try clear hb); (try clear hb2); (try clear hk); (try clear hi))))
  go_loopg [6] k (fun kq v6 w' => ∃ (x6_1 : Int), v6 = .int .i64 x6_1 ∧ Aside0 (tegularef32_Find.l0 kq l0 a1 x6_1 = some (r1, r2)) ∧ Aside0 (kq ≤ k) ∧ Aside0 (Below w.heap.size w w'))
  case atStart => exact ⟨(0), (by first | rfl | (simp; done) | (simp [*]; done)), H', ⟨Nat.le_refl _⟩, ⟨by repeat (first | (with_reducible first | exact HB.out | apply below_alloc | apply pw_below_drewN | apply below_drew1) | exact HB.out)⟩⟩
  case round =>
   clear H'
   try clear c2
   try clear p2
   try clear c4
   obtain ⟨x6_1, rfl, HA, HK1, HB⟩ := hrel
   cases gk with
   | zero => exact absurd HA.out (by simp [tegularef32_Find.l0])
   | succ k1 =>
    have H := HA.out
    clear HA
    simp only [tegularef32_Find.l0] at H
    by_cases c6 : x6_1 < (l0.length : Int)
    ·
     rw [if_pos c6] at H
     have c6b0 : decide (x6_1 < (l0.length : Int)) = true := decide_eq_true c6
     clear c6
     by_cases c7 : 0 ≤ x6_1
     ·
      rw [if_pos c7] at H
      have c7b0 : decide (0 ≤ x6_1) = true := decide_eq_true c7
      clear c7
      by_cases c8 : a1 ≥ ((rd_T33 l0 x6_1).f0)
      ·
       rw [if_pos c8] at H
       have c8b0 : decide (((rd_T33 l0 x6_1).f0) ≤ a1) = true := decide_eq_true c8
       clear c8
       by_cases c9 : a1 < (wrap64 (((rd_T33 l0 x6_1).f0) + ((rd_T33 l0 x6_1).f1)))
       ·
        rw [if_pos c9] at H
        have c9b0 : decide (a1 < (wrap64 (((rd_T33 l0 x6_1).f0) + ((rd_T33 l0 x6_1).f1)))) = true := decide_eq_true c9
        clear c9
        simp only [Option.some.injEq, Prod.mk.injEq] at H
        obtain ⟨rfl, rfl⟩ := H
        have p203 : 0 ≤ (x6_1 : Int) := of_decide_eq_true (by first | (with_reducible assumption) | assumption)
        have q203 : x6_1 < (l0.length : Int) := of_decide_eq_true (by first | (with_reducible assumption) | assumption)
        obtain ⟨ad203, e203, hx203_0, hx203_1, hx203_2⟩ := at_T33 HR0.out x6_1 p203 q203
        cases e203
        replace hx203_0 := (HB.out.cell (World.block_lt_of_cell? w _ hx203_0)).trans hx203_0
        replace hx203_1 := (HB.out.cell (World.block_lt_of_cell? w _ hx203_1)).trans hx203_1
        replace hx203_2 := (HB.out.cell (World.block_lt_of_cell? w _ hx203_2)).trans hx203_2
        replace p203 := eq_true p203
        replace q203 := eq_true q203
        have p204 : 0 ≤ (x6_1 : Int) := of_decide_eq_true (by first | (with_reducible assumption) | assumption)
        have q204 : x6_1 < (l0.length : Int) := of_decide_eq_true (by first | (with_reducible assumption) | assumption)
        obtain ⟨ad204, e204, hx204_0, hx204_1, hx204_2⟩ := at_T33 HR0.out x6_1 p204 q204
        obtain rfl : ad203 = ad204 := (by injection e204)
        replace hx204_0 := (HB.out.cell (World.block_lt_of_cell? w _ hx204_0)).trans hx204_0
        replace hx204_1 := (HB.out.cell (World.block_lt_of_cell? w _ hx204_1)).trans hx204_1
        replace hx204_2 := (HB.out.cell (World.block_lt_of_cell? w _ hx204_2)).trans hx204_2
        replace p204 := eq_true p204
        replace q204 := eq_true q204
        have p205 : 0 ≤ (x6_1 : Int) := of_decide_eq_true (by first | (with_reducible assumption) | assumption)
        have q205 : x6_1 < (l0.length : Int) := of_decide_eq_true (by first | (with_reducible assumption) | assumption)
        obtain ⟨ad205, e205, hx205_0, hx205_1, hx205_2⟩ := at_T33 HR0.out x6_1 p205 q205
        obtain rfl : ad203 = ad205 := (by injection e205)
        replace hx205_0 := (HB.out.cell (World.block_lt_of_cell? w _ hx205_0)).trans hx205_0
        replace hx205_1 := (HB.out.cell (World.block_lt_of_cell? w _ hx205_1)).trans hx205_1
        replace hx205_2 := (HB.out.cell (World.block_lt_of_cell? w _ hx205_2)).trans hx205_2
        replace p205 := eq_true p205
        replace q205 := eq_true q205
        have p206 : 0 ≤ (x6_1 : Int) := of_decide_eq_true (by first | (with_reducible assumption) | assumption)
        have q206 : x6_1 < (l0.length : Int) := of_decide_eq_true (by first | (with_reducible assumption) | assumption)
        obtain ⟨ad206, e206, hx206_0, hx206_1, hx206_2⟩ := at_T33 HR0.out x6_1 p206 q206
        obtain rfl : ad203 = ad206 := (by injection e206)
        replace hx206_0 := (HB.out.cell (World.block_lt_of_cell? w _ hx206_0)).trans hx206_0
        replace hx206_1 := (HB.out.cell (World.block_lt_of_cell? w _ hx206_1)).trans hx206_1
        replace hx206_2 := (HB.out.cell (World.block_lt_of_cell? w _ hx206_2)).trans hx206_2
        replace p206 := eq_true p206
        replace q206 := eq_true q206
        have p207 : 0 ≤ (x6_1 : Int) := of_decide_eq_true (by first | (with_reducible assumption) | assumption)
        have q207 : x6_1 < (l0.length : Int) := of_decide_eq_true (by first | (with_reducible assumption) | assumption)
        obtain ⟨ad207, e207, hx207_0, hx207_1, hx207_2⟩ := at_T33 HR0.out x6_1 p207 q207
        obtain rfl : ad203 = ad207 := (by injection e207)
        replace hx207_0 := (HB.out.cell (World.block_lt_of_cell? w _ hx207_0)).trans hx207_0
        replace hx207_1 := (HB.out.cell (World.block_lt_of_cell? w _ hx207_1)).trans hx207_1
        replace hx207_2 := (HB.out.cell (World.block_lt_of_cell? w _ hx207_2)).trans hx207_2
        replace p207 := eq_true p207
        replace q207 := eq_true q207
        go_wp2
        repeat (go_quiet (fail); try go_wp2)
        go_ret2
        exact ⟨by first | rfl | (simp [errW_none, errW_some] <;> rfl) | (simp [*, errW_none, errW_some] <;> rfl), by repeat (first | (with_reducible first | exact HB.out | apply below_alloc | apply pw_below_drewN | apply below_drew1) | exact HB.out)⟩
       ·
        rw [if_neg c9] at H
        have c9b0 : decide (a1 < (wrap64 (((rd_T33 l0 x6_1).f0) + ((rd_T33 l0 x6_1).f1)))) = false := decide_eq_false c9
        clear c9
        have H' := Aside0.mk H
        clear H
        have p203 : 0 ≤ (x6_1 : Int) := of_decide_eq_true (by first | (with_reducible assumption) | assumption)
        have q203 : x6_1 < (l0.length : Int) := of_decide_eq_true (by first | (with_reducible assumption) | assumption)
        obtain ⟨ad203, e203, hx203_0, hx203_1, hx203_2⟩ := at_T33 HR0.out x6_1 p203 q203
        cases e203
        replace hx203_0 := (HB.out.cell (World.block_lt_of_cell? w _ hx203_0)).trans hx203_0
        replace hx203_1 := (HB.out.cell (World.block_lt_of_cell? w _ hx203_1)).trans hx203_1
        replace hx203_2 := (HB.out.cell (World.block_lt_of_cell? w _ hx203_2)).trans hx203_2
        replace p203 := eq_true p203
        replace q203 := eq_true q203
        have p204 : 0 ≤ (x6_1 : Int) := of_decide_eq_true (by first | (with_reducible assumption) | assumption)
        have q204 : x6_1 < (l0.length : Int) := of_decide_eq_true (by first | (with_reducible assumption) | assumption)
        obtain ⟨ad204, e204, hx204_0, hx204_1, hx204_2⟩ := at_T33 HR0.out x6_1 p204 q204
        obtain rfl : ad203 = ad204 := (by injection e204)
        replace hx204_0 := (HB.out.cell (World.block_lt_of_cell? w _ hx204_0)).trans hx204_0
        replace hx204_1 := (HB.out.cell (World.block_lt_of_cell? w _ hx204_1)).trans hx204_1
        replace hx204_2 := (HB.out.cell (World.block_lt_of_cell? w _ hx204_2)).trans hx204_2
        replace p204 := eq_true p204
        replace q204 := eq_true q204
        have p205 : 0 ≤ (x6_1 : Int) := of_decide_eq_true (by first | (with_reducible assumption) | assumption)
        have q205 : x6_1 < (l0.length : Int) := of_decide_eq_true (by first | (with_reducible assumption) | assumption)
        obtain ⟨ad205, e205, hx205_0, hx205_1, hx205_2⟩ := at_T33 HR0.out x6_1 p205 q205
        obtain rfl : ad203 = ad205 := (by injection e205)
        replace hx205_0 := (HB.out.cell (World.block_lt_of_cell? w _ hx205_0)).trans hx205_0
        replace hx205_1 := (HB.out.cell (World.block_lt_of_cell? w _ hx205_1)).trans hx205_1
        replace hx205_2 := (HB.out.cell (World.block_lt_of_cell? w _ hx205_2)).trans hx205_2
        replace p205 := eq_true p205
        replace q205 := eq_true q205
        go_wp2
        repeat (go_quiet (fail); try go_wp2)
        go_roundg k1
        case measure => have := HK1.out; omega
        case rel => exact ⟨(wrap64 (x6_1 + 1)), (by first | rfl | (simp; done) | (simp [*]; done)), H', ⟨by have := HK1.out; omega⟩, ⟨by repeat (first | (with_reducible first | exact HB.out | apply below_alloc | apply pw_below_drewN | apply below_drew1) | exact HB.out)⟩⟩
      ·
       rw [if_neg c8] at H
       have c8b0 : decide (((rd_T33 l0 x6_1).f0) ≤ a1) = false := decide_eq_false c8
       clear c8
       have H' := Aside0.mk H
       clear H
       have p203 : 0 ≤ (x6_1 : Int) := of_decide_eq_true (by first | (with_reducible assumption) | assumption)
       have q203 : x6_1 < (l0.length : Int) := of_decide_eq_true (by first | (with_reducible assumption) | assumption)
       obtain ⟨ad203, e203, hx203_0, hx203_1, hx203_2⟩ := at_T33 HR0.out x6_1 p203 q203
       cases e203
       replace hx203_0 := (HB.out.cell (World.block_lt_of_cell? w _ hx203_0)).trans hx203_0
       replace hx203_1 := (HB.out.cell (World.block_lt_of_cell? w _ hx203_1)).trans hx203_1
       replace hx203_2 := (HB.out.cell (World.block_lt_of_cell? w _ hx203_2)).trans hx203_2
       replace p203 := eq_true p203
       replace q203 := eq_true q203
       go_wp2
       repeat (go_quiet (fail); try go_wp2)
       go_roundg k1
       case measure => have := HK1.out; omega
       case rel => exact ⟨(wrap64 (x6_1 + 1)), (by first | rfl | (simp; done) | (simp [*]; done)), H', ⟨by have := HK1.out; omega⟩, ⟨by repeat (first | (with_reducible first | exact HB.out | apply below_alloc | apply pw_below_drewN | apply below_drew1) | exact HB.out)⟩⟩
     ·
      rw [if_neg c7] at H
      exact absurd H (by simp)
    ·
     rw [if_neg c6] at H
     have c6b0 : decide (x6_1 < (l0.length : Int)) = false := decide_eq_false c6
     clear c6
     simp only [Option.some.injEq, Prod.mk.injEq] at H
     obtain ⟨rfl, rfl⟩ := H
     go_wp2
     repeat (go_quiet (fail); try go_wp2)
     go_ret2
     exact ⟨by first | rfl | (simp [errW_none, errW_some] <;> rfl) | (simp [*, errW_none, errW_some] <;> rfl), by repeat (first | (with_reducible first | exact HB.out | apply below_alloc | apply pw_below_drewN | apply below_drew1) | exact HB.out)⟩
 ·
  replace c4 := Bool.eq_false_iff.mpr c4
  subst c4
  have H1 : (some (0, false)) = some (r1, r2) := by rw [if_neg (show ¬ (false = true) by decide)] at H; exact H
  clear H
  have H := H1
  clear H1
  simp only [Option.some.injEq, Prod.mk.injEq] at H
  obtain ⟨rfl, rfl⟩ := H
  go_enter Try.func23, Try.ntmps23
  go_wp2_with (first | (go_at_call 16; (with_reducible refine (tegularef32_Valid.calls k _ _ l0 false _ ?side1 ?side2 A3.out).mono ?_); (case side1 => repeat (first | exact HR0.out | (with_reducible refine Kd.C_alloc ?_ _) | (with_reducible refine Kd.C_drewN ?_ _) | (with_reducible refine Kd.C_drew ?_))); (case side2 => exact HC0.out); rintro e w10 ⟨rfl, hb⟩; have n0_ := Aside0.mk (below_step (by repeat (first | (with_reducible first | exact HB.out | apply below_alloc | apply pw_below_drewN | apply below_drew1) | exact HB.out)) hb); clear HB; have HB := n0_; clear n0_; (try clear hb); (try clear hb2); (try clear hk); (try clear hi)))
  repeat (go_quiet (first | (go_at_call 16; (with_reducible refine (tegularef32_Valid.calls k _ _ l0 false _ ?side1 ?side2 A3.out).mono ?_); (case side1 => repeat (first | exact HR0.out | (with_reducible refine Kd.C_alloc ?_ _) | (with_reducible refine Kd.C_drewN ?_ _) | (with_reducible refine Kd.C_drew ?_))); (case side2 => exact HC0.out); rintro e w10 ⟨rfl, hb⟩; have n0_ := Aside0.mk (below_step (by repeat (first | (with_reducible first | exact HB.out | apply below_alloc | apply pw_below_drewN | apply below_drew1) | exact HB.out)) hb); clear HB; have HB := n0_; clear n0_; (try clear hb); (try clear hb2); (try clear hk); (try clear hi))); try go_wp2_with (first | (go_at_call 16; (with_reducible refine (tegularef32_Valid.calls k _ _ l0 false _ ?side1 ?side2 A3.out).mono ?_); (case side1 => repeat (first | exact HR0.out | (with_reducible refine Kd.C_alloc ?_ _) | (with_reducible refine Kd.C_drewN ?_ _) | (with_reducible refine Kd.C_drew ?_))); (case side2 => exact HC0.out); rintro e w10 ⟨rfl, hb⟩; have n0_ := Aside0.mk (below_step (by repeat (first | (with_reducible first | exact HB.out | apply below_alloc | apply pw_below_drewN | apply below_drew1) | exact HB.out)) hb); clear HB; have HB := n0_; clear n0_; (try clear hb); (try clear hb2); (try clear hk); (try clear hi))))
  go_ret2
  exact ⟨by first | rfl | (simp [errW_none, errW_some] <;> rfl) | (simp [*, errW_none, errW_some] <;> rfl), by repeat (first | (with_reducible first | exact HB.out | apply below_alloc | apply pw_below_drewN | apply below_drew1) | exact HB.out)⟩

-- NOT PRINTED: function 36 (api_Extent_36)

-- NOT PRINTED: function 46 (api_Extent_46)

-- NOT PRINTED: function 62 (api_Extent_62)

-- NOT PRINTED: function 51 (api_Extent_51)

-- NOT PRINTED: function 47 (api_Extent_47)

-- NOT PRINTED: function 38 (api_Extent_38)

-- ROUNDS MAKES
-- MAKES
/-- The cells of a list of extents. -/
def encE (x : S33) : List Value := [.int .i64 x.f0, .int .i64 x.f1, .int .i64 x.f2]
theorem encE_len (l : List S33) : (l.flatMap encE).length = l.length * 3 := by
 induction l with
 | nil => rfl
 | cons x l ih => simp only [List.flatMap_cons, List.length_append, ih, encE, List.length_cons, List.length_nil]; omega
theorem encE_one (l : List S33) : ∀ v ∈ l.flatMap encE, v.oneCell' = true := by
 intro v hv
 obtain ⟨x, _, hx⟩ := List.mem_flatMap.1 hv
 simp [encE] at hx
 rcases hx with rfl | rfl | rfl <;> rfl
theorem encE_take (l : List S33) (i : Nat) : (l.flatMap encE).take (i * 3) = (l.take i).flatMap encE := by
 induction l generalizing i with
 | nil => simp
 | cons x l ih =>
  cases i with
  | zero => simp
  | succ i => rw [List.flatMap_cons, show (i + 1) * 3 = (encE x).length + i * 3 by simp [encE]; omega, List.take_length_add_append, ih]; rfl
theorem encE_drop (l : List S33) (i : Nat) : (l.flatMap encE).drop (i * 3) = (l.drop i).flatMap encE := by
 induction l generalizing i with
 | nil => simp
 | cons x l ih =>
  cases i with
  | zero => simp
  | succ i => rw [List.flatMap_cons, show (i + 1) * 3 = (encE x).length + i * 3 by simp [encE]; omega, List.drop_length_add_append, ih]; rfl
theorem reps_enc {w : World} {b : Nat} {ok : Nat → Prop} : ∀ {ps : List S33} {cs : List Value}, Reps (k33.M w b ok) 3 ps cs → cs = ps.flatMap encE
 | [], cs, h => by have := h.1; simp at this; simpa using this
 | p :: ps, cs, h => by
  have h0 := h.2 0 p rfl
  have h0' := k33_openM h0
  have hl := h.1
  simp only [List.length_cons] at hl
  have hd : Reps (k33.M w b ok) 3 ps (cs.drop 3) := ⟨by rw [List.length_drop]; omega, fun j q hq => by
   have := h.2 (j + 1) q hq
   rw [List.drop_drop, show 3 + j * 3 = (j + 1) * 3 by omega]
   exact this⟩
  have ih := reps_enc hd
  rw [List.flatMap_cons, ← ih]
  simp only [Nat.zero_mul, List.drop_zero] at h0'
  have := List.take_append_drop 3 cs
  rw [h0'] at this
  exact this.symm
theorem enc_reps {w : World} {b : Nat} {ok : Nat → Prop} (ps : List S33) : Reps (k33.M w b ok) 3 ps (ps.flatMap encE) := by
 refine ⟨encE_len ps, fun j p hp => ?_⟩
 have hj := (List.getElem?_eq_some_iff.1 hp).1
 rw [encE_drop, List.drop_eq_getElem_cons hj, List.flatMap_cons, show 3 = (encE ps[j]).length by rfl, List.take_left]
 have hpj : ps[j] = p := (List.getElem?_eq_some_iff.1 hp).2
 rw [hpj]
 exact k33_mkM w b ok p
/-- Where an extent is put: ahead of the first one that begins behind it. -/
def posE (X : Int) : List S33 → Nat
 | [] => 0
 | x :: l => if X < x.f0 then 0 else posE X l + 1
theorem posE_le (X : Int) : ∀ l : List S33, posE X l ≤ l.length
 | [] => Nat.le_refl _
 | x :: l => by
  have := posE_le X l
  simp only [posE, List.length_cons]
  split <;> omega
theorem idx_pos (X : Int) : ∀ (l : List S33) (k : Nat), YtcgihjpnemnkeaaIns.idxB X (l.map fun x => (x.f0, x.f1, x.f2)) k = if posE X l < l.length then ((k + posE X l : Nat) : Int) else -1
 | [], k => rfl
 | x :: l, k => by
  simp only [List.map_cons, YtcgihjpnemnkeaaIns.idxB]
  by_cases h : X < x.f0
  ·
   have e : posE X (x :: l) = 0 := by simp only [posE]; rw [if_pos h]
   rw [if_pos h, e, if_pos (by simp)]
   rfl
  ·
   have e : posE X (x :: l) = posE X l + 1 := by simp only [posE]; rw [if_neg h]
   rw [if_neg h, e, idx_pos X l (k + 1)]
   by_cases h2 : posE X l < l.length
   ·
    rw [if_pos h2, if_pos (by simpa using h2)]
    congr 1; omega
   ·
    rw [if_neg h2, if_neg (by simpa using h2)]
def insE (X : Int) (l : List S33) (x : S33) : List S33 := l.take (posE X l) ++ [x] ++ l.drop (posE X l)
theorem insE_len (X : Int) (l : List S33) (x : S33) : (insE X l x).length = l.length + 1 := by
 have := posE_le X l
 simp [insE]; omega

def extent_Put.f (k : Nat) (l0 : List (S33)) (a1_0 : Int) (a1_1 : Int) (a1_2 : Int) : Option ((List (S33)) × (List (S33)) × Int) :=
 (extent_proper.f a1_0 a1_1 a1_2).bind fun t => if t = true then (extent_Cut.f k l0 a1_0 a1_1).bind fun r => if r.2.2 = 0 then (if r.1.length ≤ 1000000000 then (extent_Join.f k (insE a1_0 r.1 ⟨a1_0, a1_1, a1_2⟩)).bind fun q => some (q.1, r.2.1, q.2) else none) else some ([], [], r.2.2) else some ([], [], 1)
theorem extent_Put.mono : ∀ a0 a1 a2 a3 k, LeO (extent_Put.f k a0 a1 a2 a3) (extent_Put.f (k + 1) a0 a1 a2 a3) := by
 intro l a b c k r h
 unfold extent_Put.f at h ⊢
 obtain ⟨t, ht, h⟩ := Option.bind_eq_some_iff.1 h
 rw [ht]
 simp only [Option.bind_some]
 by_cases h1 : t = true
 ·
  rw [if_pos h1] at h ⊢
  obtain ⟨q, hq, h⟩ := Option.bind_eq_some_iff.1 h
  rw [extent_Cut.mono l a b k q hq]
  simp only [Option.bind_some]
  by_cases h2 : q.2.2 = 0
  ·
   rw [if_pos h2] at h ⊢
   by_cases h3 : q.1.length ≤ 1000000000
   ·
    rw [if_pos h3] at h ⊢
    obtain ⟨z, hz, h⟩ := Option.bind_eq_some_iff.1 h
    rw [extent_Join.mono _ k z hz]
    exact h
   ·
    rw [if_neg h3] at h
    cases h
  ·
   rw [if_neg h2] at h ⊢
   exact h
 ·
  rw [if_neg h1] at h ⊢
  exact h
theorem c_of_row {w : World} {A : Option Addr} {c : Nat} {l : List S33} {base : Nat} {ok : Nat → Prop} (h : Kd.R k33 33 w base ok (.slice A l.length c) l) : ∀ j (hj : j < (l.map fun x => (x.f0, x.f1, x.f2)).length), ∃ g, A = some ⟨g, 0, none⟩ ∧ g < w.heap.size ∧ w.cell? ⟨g, j * 3, none⟩ = some (.int .i64 ((l.map fun x => (x.f0, x.f1, x.f2))[j]).1) ∧ w.cell? ⟨g, j * 3 + 1, none⟩ = some (.int .i64 ((l.map fun x => (x.f0, x.f1, x.f2))[j]).2.1) ∧ w.cell? ⟨g, j * 3 + 2, none⟩ = some (.int .i64 ((l.map fun x => (x.f0, x.f1, x.f2))[j]).2.2) := by
 intro j hj
 have hjl : j < l.length := by simpa using hj
 obtain ⟨g, cap, he, _, hg, _⟩ := Kd.R_form h (by omega)
 injection he with hA _ _
 subst hA
 obtain ⟨ad, e, c0, c1, c2⟩ := at_T33 (Kd.R_reads' h).2.2 (j : Int) (by omega) (by omega)
 injection e with e
 subst e
 have hr : rd_T33 l (j : Int) = l[j] := by unfold rd_T33; rw [List.getD_eq_getElem?_getD, show (j : Int).toNat = j from by omega, List.getElem?_eq_getElem hjl]; rfl
 rw [hr] at c0 c1 c2
 have ha : (⟨g, 0, none⟩ : Addr).add ((j : Int).toNat * 3) = ⟨g, j * 3, none⟩ := by rw [show (j : Int).toNat = j from by omega]; unfold Addr.add; split <;> simp_all
 rw [ha] at c0 c1 c2
 exact ⟨g, rfl, hg, by simpa using c0, by simpa using c1, by simpa using c2⟩

set_option maxHeartbeats 4000000 in
set_option maxRecDepth 100000 in
theorem extent_Put.calls (k : Nat) (A0 : Option Addr) (c0 : Nat) (l0 : List (S33)) (a1_0 : Int) (a1_1 : Int) (a1_2 : Int) (r1 : List (S33)) (r2 : List (S33)) (r3 : Int) (w : World) (hr0 : Kd.C k33 w A0 l0.length l0) (hc0 : l0.length ≤ c0) (h : extent_Put.f k l0 a1_0 a1_1 a1_2 = some (r1, r2, r3)) :
  Calls Try.prog 24 #[.slice A0 l0.length c0, .agg #[.int .i64 a1_0, .int .i64 a1_1, .int .i64 a1_2]] w fun e w' => ∃ v0_ v1_ : Value, e = .returned (.tuple #[v0_, v1_, .int .i64 r3]) ∧ Kd.R k33 33 w' w.heap.size (fun k_ => some k_ ≠ (v1_ : Value).ownBlock) v0_ r1 ∧ Kd.R k33 33 w' w.heap.size (fun k_ => some k_ ≠ (v0_ : Value).ownBlock) v1_ r2 ∧ Below w.heap.size w w' := by
 have hu33 := Try.underlying33
 have HR0 := Aside0.mk hr0
 have HC0 := Aside0.mk hc0
 clear hr0 hc0
 unfold extent_Put.f at h
 obtain ⟨t, ht, h⟩ := Option.bind_eq_some_iff.1 h
 have HT := Aside0.mk ht
 clear ht
 obtain ⟨bx, hbx⟩ : ∃ bx, bx = w.heap.size := ⟨_, rfl⟩
 have HBX := Aside0.mk hbx
 clear hbx
 cases t with
 | false =>
  simp only [Bool.false_eq_true, if_false, Option.some.injEq, Prod.mk.injEq] at h
  obtain ⟨rfl, rfl, rfl⟩ := h
  go_enter Try.func24, Try.ntmps24
  go_wp2_with fail
  refine (extent_proper.calls _ _ _ _ _ HT.out).mono ?_
  rintro e w1 ⟨rfl, hb⟩
  have HB := Aside0.mk hb
  clear hb
  go_wp2_with fail
  go_ret3
  exact ⟨_, _, rfl, Kd.R_nil _ _ _ _ _, Kd.R_nil _ _ _ _ _, ((Below.refl _ _).alloc (Nat.le_refl _) _).trans (HB.out.mono (by simp))⟩
 | true =>
  simp only [if_true] at h
  obtain ⟨q, hq, h⟩ := Option.bind_eq_some_iff.1 h
  obtain ⟨q1, q2, q3⟩ := q
  have HQ := Aside0.mk hq
  clear hq
  simp only at h
  have HH := Aside0.mk h
  clear h
  go_enter Try.func24, Try.ntmps24
  go_wp2_with fail
  refine (extent_proper.calls _ _ _ _ _ HT.out).mono ?_
  rintro e w1 ⟨rfl, hb⟩
  have b0 : w1.cell? ⟨w.heap.size, 0, none⟩ = some (.int .i64 a1_0) := (hb.cell (p := ⟨w.heap.size, 0, none⟩) (by simp)).trans (by simp)
  have b1 : w1.cell? ⟨w.heap.size, 1, none⟩ = some (.int .i64 a1_1) := (hb.cell (p := ⟨w.heap.size, 1, none⟩) (by simp)).trans (by simp)
  have b2 : w1.cell? ⟨w.heap.size, 2, none⟩ = some (.int .i64 a1_2) := (hb.cell (p := ⟨w.heap.size, 2, none⟩) (by simp)).trans (by simp)
  have hs1 : w.heap.size < w1.heap.size := by have := hb.size; simp at this; omega
  have HB1 := Aside0.mk (((Below.refl w.heap.size w).alloc (Nat.le_refl _) _).trans (hb.mono (by simp)))
  have HS1 := Aside0.mk hs1
  clear hb hs1
  go_wp2_with fail
  refine (extent_Cut.calls k A0 c0 l0 a1_0 a1_1 q1 q2 q3 _ (Kd.C_below HR0.out HB1.out) HC0.out HQ.out).mono ?_
  rintro e w2 ⟨v0, v1, rfl, ho0, ho1, hb⟩
  have HO0 := Aside0.mk (Kd.R_lower ho0 (Nat.le_of_lt HS1.out))
  have HO1 := Aside0.mk (Kd.R_lower ho1 (Nat.le_of_lt HS1.out))
  have d0 : w2.cell? ⟨w.heap.size, 0, none⟩ = some (.int .i64 a1_0) := (hb.cell (p := ⟨w.heap.size, 0, none⟩) HS1.out).trans b0
  have d1 : w2.cell? ⟨w.heap.size, 1, none⟩ = some (.int .i64 a1_1) := (hb.cell (p := ⟨w.heap.size, 1, none⟩) HS1.out).trans b1
  have d2 : w2.cell? ⟨w.heap.size, 2, none⟩ = some (.int .i64 a1_2) := (hb.cell (p := ⟨w.heap.size, 2, none⟩) HS1.out).trans b2
  have HS2 := Aside0.mk (Nat.lt_of_lt_of_le HS1.out hb.size)
  have HB2 := Aside0.mk (HB1.out.trans (hb.mono (Nat.le_of_lt HS1.out)))
  clear ho0 ho1 hb b0 b1 b2
  have H := HH.out
  clear HH
  by_cases hq3 : q3 = 0
  ·
   subst hq3
   rw [if_pos rfl] at H
   by_cases hlen : q1.length ≤ 1000000000
   ·
    rw [if_pos hlen] at H
    obtain ⟨z, hz, H⟩ := Option.bind_eq_some_iff.1 H
    obtain ⟨z1, z2⟩ := z
    simp only [Option.some.injEq, Prod.mk.injEq] at H
    obtain ⟨rfl, rfl, rfl⟩ := H
    have HZ := Aside0.mk hz
    clear hz
    obtain ⟨A1, e1, he1⟩ := Kd.R_slice HO0.out
    subst he1
    have hidx := YtcgihjpnemnkeaaIns.index_calls A1 e1 w.heap.size a1_0 (q1.map fun x => (x.f0, x.f1, x.f2)) w2 HS2.out d0 (by simpa using hlen) (c_of_row HO0.out)
    rw [List.length_map, idx_pos] at hidx
    have HIX := Aside0.mk hidx
    clear hidx
    go_wp2_with fail
    refine HIX.out.mono ?_
    rintro e w3 ⟨rfl, hb⟩
    have g0 : w3.cell? ⟨w.heap.size, 0, none⟩ = some (.int .i64 a1_0) := (hb.cell (p := ⟨w.heap.size, 0, none⟩) HS2.out).trans d0
    have g1 : w3.cell? ⟨w.heap.size, 1, none⟩ = some (.int .i64 a1_1) := (hb.cell (p := ⟨w.heap.size, 1, none⟩) HS2.out).trans d1
    have g2 : w3.cell? ⟨w.heap.size, 2, none⟩ = some (.int .i64 a1_2) := (hb.cell (p := ⟨w.heap.size, 2, none⟩) HS2.out).trans d2
    have HP0 := Aside0.mk (Kd.R_below HO0.out hb)
    have HP1 := Aside0.mk (Kd.R_below HO1.out hb)
    have HS3 := Aside0.mk (Nat.lt_of_lt_of_le HS2.out hb.size)
    have HB3 := Aside0.mk (HB2.out.trans (hb.mono (Nat.le_of_lt HS2.out)))
    clear hb d0 d1 d2 HO0 HO1 HIX
    by_cases hp : posE a1_0 q1 < q1.length
    ·
     rw [if_pos hp]
     have hp0 : ¬ (((0 + posE a1_0 q1 : Nat) : Int) < 0) := by omega
     have HPP := Aside0.mk hp
     clear hp
     go_wp2_with fail
     obtain ⟨h0, inner, hown, hr⟩ := HP0.out
     have hinner := reps_enc hr
     subst hinner
     have hlt3 : ∀ k_, (Value.slice A1 q1.length e1).ownBlock = some k_ → k_ < w3.heap.size := fun k_ hk => own_lt hown k_ hk
     have HI := YtcgihjpnemnkeaaIns.insert_any w.heap.size q1.length (posE a1_0 q1) w3.heap.size 1 (.slice A1 q1.length e1) (q1.flatMap encE) [.int .i64 a1_0, .int .i64 a1_1, .int .i64 a1_2] (w3.alloc (.cells #[.int .i64 a1_0, .int .i64 a1_1, .int .i64 a1_2] 33)) (Nat.le_of_lt HPP.out) hlen (Nat.le_trans (Nat.le_of_lt HS3.out) (by simp)) (hown.alloc _) (fun e => by have := hlt3 _ e; omega) (by exact YtcgihjpnemnkeaaIns.heap_new w3 _) rfl (by intro v hv; simp at hv; rcases hv with rfl | rfl | rfl <;> rfl) (encE_one q1)
     refine HI.mono ?_
     rintro e w4 ⟨v4, rfl, hown4, hg4⟩
     have hins : (q1.flatMap encE).take ((posE a1_0 q1) * 3) ++ [.int .i64 a1_0, .int .i64 a1_1, .int .i64 a1_2] ++ (q1.flatMap encE).drop ((posE a1_0 q1) * 3) = (insE a1_0 q1 ⟨a1_0, a1_1, a1_2⟩).flatMap encE := by
      rw [encE_take, encE_drop, insE]; simp [encE]
     rw [hins] at hown4
     have hR4 : Kd.R k33 33 w4 w.heap.size (fun _ => True) v4 (insE a1_0 q1 ⟨a1_0, a1_1, a1_2⟩) := ⟨fun _ _ => trivial, _, by rw [insE_len]; exact hown4, enc_reps _⟩
     have hb3 : Below w3.heap.size w3 (w3.alloc (.cells #[.int .i64 a1_0, .int .i64 a1_1, .int .i64 a1_2] 33)) := (Below.refl _ _).alloc (Nat.le_refl _) _
     have HR1 := Aside0.mk (Kd.R_grown (Kd.R_below HP1.out hb3) hg4 (fun _ hk => hk))
     have hb4 : Below w.heap.size w w4 := (HB3.out.trans (hb3.mono (Nat.le_of_lt HS3.out))).grown hg4 (Nat.le_trans (Nat.le_of_lt HS3.out) (by simp)) (fun k_ hk => own_base hown k_ hk)
     obtain ⟨A4, e4, he4, hle4, hC4⟩ := Kd.R_reads hR4
     subst he4
     have HB4 := Aside0.mk hb4
     have HC4 := Aside0.mk hC4
     have HL4 := Aside0.mk hle4
     have HS4 := Aside0.mk (Nat.le_of_lt (Nat.lt_of_lt_of_le HS3.out (Nat.le_trans (by simp) hg4.size)))
     clear hins hown4 hR4 hb3 hb4 hle4 hC4 hg4 HI hlt3 hown hr h0 g0 g1 g2 HP0 HP1
     go_wp2_with fail
     refine (extent_Join.calls k A4 e4 (insE a1_0 q1 ⟨a1_0, a1_1, a1_2⟩) z1 z2 _ HC4.out HL4.out HZ.out).mono ?_
     rintro e w5 ⟨v5, rfl, ho5, hb5⟩
     have HO5 := Aside0.mk ho5
     have HB5 := Aside0.mk hb5
     clear ho5 hb5
     go_wp2_with fail
     go_ret3
     exact ⟨v5, v1, rfl, Kd.R_mono (Kd.R_lower (Kd.R_new' HO5.out (Kd.R_lt HR1.out)) HS4.out) (fun _ hk => hk.2), Kd.R_mono (Kd.R_told (Kd.R_old HR1.out HB5.out) (Kd.R_base HO5.out)) (fun _ hk => hk.1.2), HB4.out.trans (HB5.out.mono HS4.out)⟩
    ·
     rw [if_neg hp]
     have hpe : posE a1_0 q1 = q1.length := by have := posE_le a1_0 q1; omega
     have HPE := Aside0.mk hpe
     clear hp hpe
     go_wp2_with fail
     obtain ⟨h0, inner, hown, hr⟩ := HP0.out
     have hinner := reps_enc hr
     subst hinner
     have hlt3 : ∀ k_, (Value.slice A1 q1.length e1).ownBlock = some k_ → k_ < w3.heap.size := fun k_ hk => own_lt hown k_ hk
     have HI := YtcgihjpnemnkeaaIns.insert_any w.heap.size q1.length q1.length w3.heap.size 1 (.slice A1 q1.length e1) (q1.flatMap encE) [.int .i64 a1_0, .int .i64 a1_1, .int .i64 a1_2] (w3.alloc (.cells #[.int .i64 a1_0, .int .i64 a1_1, .int .i64 a1_2] 33)) (Nat.le_refl _) hlen (Nat.le_trans (Nat.le_of_lt HS3.out) (by simp)) (hown.alloc _) (fun e => by have := hlt3 _ e; omega) (by exact YtcgihjpnemnkeaaIns.heap_new w3 _) rfl (by intro v hv; simp at hv; rcases hv with rfl | rfl | rfl <;> rfl) (encE_one q1)
     refine HI.mono ?_
     rintro e w4 ⟨v4, rfl, hown4, hg4⟩
     have hins : (q1.flatMap encE).take (q1.length * 3) ++ [.int .i64 a1_0, .int .i64 a1_1, .int .i64 a1_2] ++ (q1.flatMap encE).drop (q1.length * 3) = (insE a1_0 q1 ⟨a1_0, a1_1, a1_2⟩).flatMap encE := by
      rw [encE_take, encE_drop, insE, HPE.out]; simp [encE]
     rw [hins] at hown4
     have hR4 : Kd.R k33 33 w4 w.heap.size (fun _ => True) v4 (insE a1_0 q1 ⟨a1_0, a1_1, a1_2⟩) := ⟨fun _ _ => trivial, _, by rw [insE_len]; exact hown4, enc_reps _⟩
     have hb3 : Below w3.heap.size w3 (w3.alloc (.cells #[.int .i64 a1_0, .int .i64 a1_1, .int .i64 a1_2] 33)) := (Below.refl _ _).alloc (Nat.le_refl _) _
     have HR1 := Aside0.mk (Kd.R_grown (Kd.R_below HP1.out hb3) hg4 (fun _ hk => hk))
     have hb4 : Below w.heap.size w w4 := (HB3.out.trans (hb3.mono (Nat.le_of_lt HS3.out))).grown hg4 (Nat.le_trans (Nat.le_of_lt HS3.out) (by simp)) (fun k_ hk => own_base hown k_ hk)
     obtain ⟨A4, e4, he4, hle4, hC4⟩ := Kd.R_reads hR4
     subst he4
     have HB4 := Aside0.mk hb4
     have HC4 := Aside0.mk hC4
     have HL4 := Aside0.mk hle4
     have HS4 := Aside0.mk (Nat.le_of_lt (Nat.lt_of_lt_of_le HS3.out (Nat.le_trans (by simp) hg4.size)))
     clear hins hown4 hR4 hb3 hb4 hle4 hC4 hg4 HI hlt3 hown hr h0 g0 g1 g2 HP0 HP1
     go_wp2_with fail
     refine (extent_Join.calls k A4 e4 (insE a1_0 q1 ⟨a1_0, a1_1, a1_2⟩) z1 z2 _ HC4.out HL4.out HZ.out).mono ?_
     rintro e w5 ⟨v5, rfl, ho5, hb5⟩
     have HO5 := Aside0.mk ho5
     have HB5 := Aside0.mk hb5
     clear ho5 hb5
     go_wp2_with fail
     go_ret3
     exact ⟨v5, v1, rfl, Kd.R_mono (Kd.R_lower (Kd.R_new' HO5.out (Kd.R_lt HR1.out)) HS4.out) (fun _ hk => hk.2), Kd.R_mono (Kd.R_told (Kd.R_old HR1.out HB5.out) (Kd.R_base HO5.out)) (fun _ hk => hk.1.2), HB4.out.trans (HB5.out.mono HS4.out)⟩
   ·
    rw [if_neg hlen] at H
    cases H
  ·
   rw [if_neg hq3] at H
   simp only [Option.some.injEq, Prod.mk.injEq] at H
   obtain ⟨rfl, rfl, rfl⟩ := H
   have HQ3 := Aside0.mk hq3
   have hq3' : (q3 != 0) = true := by simpa using hq3
   clear hq3
   go_wp2_with fail
   go_ret3
   exact ⟨_, _, rfl, Kd.R_nil _ _ _ _ _, Kd.R_nil _ _ _ _ _, HB2.out⟩

end Go.Proofs.Ytcgihjpnemnkeaa.PExtentMaps
