-- Written for this claim by a program of this session (wip/), out of the translation's own print: Lean checks it
import Derived.Test.YtnloofhpdlggnaaPRefcountLargex0
import Derived.Test.YtnloofhpdlggnaaPRefcountLargex1
import Derived.Test.YtnloofhpdlggnaaPRefcountLargex2
import Derived.Test.YtnloofhpdlggnaaPRefcountLargex4
namespace Go.Proofs.Ytnloofhpdlggnaa.PRefcountLarge
open Go.RowKit Go.Proofs.YtnloofhpdlggnaaW.PrintWords Go.Proofs.YtnloofhpdlggnaaW.PrintLast Go.Proofs.YtnloofhpdlggnaaW.PrintMore
attribute [local go_sem] max2_int min2_int max_two min_two max_three min_three max_four min_four   -- for this text's walks alone
set_option linter.unusedVariables false
set_option linter.unusedSimpArgs false

attribute [local go_sem high] eqA41
/-! ### refcount_Counts_Drop: function 14 -/
mutual
def refcount_Counts_Drop.l0 : Nat → List (S41) → List (S41) → Int → Int → List Int → Option (List Int × (List (S41)) × Int)
 | 0, _, _, _, _, _ => none
 | k + 1, x8, x24, x25, x26, x145000 => if x26 < x25 then (if 0 ≤ x26 then (if x26 < (x24.length : Int) then (refcount_Counts_Drop.l1 k x8 ((rd_T41 x24 x26).f2) x24 x25 x26 x145000 ((rd_T41 x24 x26).f0) ((rd_T41 x24 x26).f1) ((rd_T41 x24 x26).f2)) else (none)) else (none)) else ((extent_Runs.f k x8).bind fun t146 => (some (x145000, t146, 0)))
def refcount_Counts_Drop.l1 : Nat → List (S41) → Int → List (S41) → Int → Int → List Int → Int → Int → Int → Option (List Int × (List (S41)) × Int)
 | 0, _, _, _, _, _, _, _, _, _ => none
 | k + 1, x8, x11, x24, x25, x26, x145000, x151000, x151001, x151002 => if x11 < (wrap64 (x151002 + x151001)) then (if 0 ≤ x11 then (if x11 < (x145000.length : Int) then (if (rd x145000 x11) = 0 then (if x8.length < 5864062014805 then (refcount_Counts_Drop.l1 k (x8 ++ [(⟨0, 1, x11⟩ : S41)]) (wrap64 (x11 + 1)) x24 x25 x26 x145000 x151000 x151001 x151002) else (none)) else (refcount_Counts_Drop.l1 k x8 (wrap64 (x11 + 1)) x24 x25 x26 x145000 x151000 x151001 x151002)) else (none)) else (none)) else (refcount_Counts_Drop.l0 k x8 x24 x25 (wrap64 (x26 + 1)) x145000)
end
def refcount_Counts_Drop.f (k : Nat) (l0_0 : List Int) (l1 : List (S41)) : Option (List Int × (List (S41)) × Int) := (refcount_Counts_permitted.f l0_0 l1).bind fun t140 => (if t140 = true then ((refcount_Counts_changed.f k l0_0 l1 (-1)).bind fun t141 => ((slices_ContainsFunc_int_int.f t141).bind fun t145 => (if t145 = true then (some (([] : List Int), ([] : List (S41)), 8)) else (refcount_Counts_Drop.l0 k ([] : List (S41)) l1 (l1.length : Int) 0 t141)))) else (some (([] : List Int), ([] : List (S41)), 2)))
theorem refcount_Counts_Drop.mono_l : ∀ k, (∀ y0 y1 y2 y3 y4, LeO (refcount_Counts_Drop.l0 k y0 y1 y2 y3 y4) (refcount_Counts_Drop.l0 (k + 1) y0 y1 y2 y3 y4)) ∧ (∀ y0 y1 y2 y3 y4 y5 y6 y7 y8, LeO (refcount_Counts_Drop.l1 k y0 y1 y2 y3 y4 y5 y6 y7 y8) (refcount_Counts_Drop.l1 (k + 1) y0 y1 y2 y3 y4 y5 y6 y7 y8))
 | 0 => ⟨fun _ _ _ _ _ r h => by simp [refcount_Counts_Drop.l0] at h, fun _ _ _ _ _ _ _ _ _ r h => by simp [refcount_Counts_Drop.l1] at h⟩
 | k + 1 => by
  obtain ⟨ih0, ih1⟩ := refcount_Counts_Drop.mono_l k
  refine ⟨?_, ?_⟩
  ·
   intro y0 y1 y2 y3 y4
   unfold refcount_Counts_Drop.l0
   repeat' first
   | (with_reducible exact ih0 _ _ _ _ _)
   | (with_reducible exact ih1 _ _ _ _ _ _ _ _ _)
   | (with_reducible exact extent_Runs.mono _ _)
   | (with_reducible exact refcount_Counts_changed.mono _ _ _ _)
   | (with_reducible exact LeO.refl _)
   | (with_reducible exact LeO.none _)
   | (with_reducible refine LeO.ite ?_ ?_)
   | (with_reducible refine LeO.bind ?_ (fun _ => ?_))
   | exact ih0 _ _ _ _ _
   | exact ih1 _ _ _ _ _ _ _ _ _
   | exact extent_Runs.mono _ _
   | exact refcount_Counts_changed.mono _ _ _ _
   | exact LeO.none _
   | refine LeO.ite ?_ ?_
   | refine LeO.bind ?_ (fun _ => ?_)
  ·
   intro y0 y1 y2 y3 y4 y5 y6 y7 y8
   unfold refcount_Counts_Drop.l1
   repeat' first
   | (with_reducible exact ih0 _ _ _ _ _)
   | (with_reducible exact ih1 _ _ _ _ _ _ _ _ _)
   | (with_reducible exact extent_Runs.mono _ _)
   | (with_reducible exact refcount_Counts_changed.mono _ _ _ _)
   | (with_reducible exact LeO.refl _)
   | (with_reducible exact LeO.none _)
   | (with_reducible refine LeO.ite ?_ ?_)
   | (with_reducible refine LeO.bind ?_ (fun _ => ?_))
   | exact ih0 _ _ _ _ _
   | exact ih1 _ _ _ _ _ _ _ _ _
   | exact extent_Runs.mono _ _
   | exact refcount_Counts_changed.mono _ _ _ _
   | exact LeO.none _
   | refine LeO.ite ?_ ?_
   | refine LeO.bind ?_ (fun _ => ?_)
theorem refcount_Counts_Drop.mono : ∀ a0 a1 k, LeO (refcount_Counts_Drop.f k a0 a1) (refcount_Counts_Drop.f (k + 1) a0 a1) := by
 intro a0 a1 k
 obtain ⟨ih0, ih1⟩ := refcount_Counts_Drop.mono_l k
 unfold refcount_Counts_Drop.f
 repeat' first
   | (with_reducible exact ih0 _ _ _ _ _)
   | (with_reducible exact ih1 _ _ _ _ _ _ _ _ _)
   | (with_reducible exact extent_Runs.mono _ _)
   | (with_reducible exact refcount_Counts_changed.mono _ _ _ _)
   | (with_reducible exact LeO.refl _)
   | (with_reducible exact LeO.none _)
   | (with_reducible refine LeO.ite ?_ ?_)
   | (with_reducible refine LeO.bind ?_ (fun _ => ?_))
   | exact ih0 _ _ _ _ _
   | exact ih1 _ _ _ _ _ _ _ _ _
   | exact extent_Runs.mono _ _
   | exact refcount_Counts_changed.mono _ _ _ _
   | exact LeO.none _
   | refine LeO.ite ?_ ?_
   | refine LeO.bind ?_ (fun _ => ?_)
set_option maxHeartbeats 8000000 in
set_option maxRecDepth 100000 in
theorem refcount_Counts_Drop.calls (k : Nat) (A0_0 : Option Addr) (c0_0 : Nat) (l0_0 : List Int) (A1 : Option Addr) (c1 : Nat) (l1 : List (S41)) (r1 : List Int) (r2 : List (S41)) (r3 : Int) (w : World) (hr0_0 : Kd.C (Kd.int .i64) w A0_0 l0_0.length l0_0) (hc0_0 : l0_0.length ≤ c0_0) (hr1 : Kd.C k41 w A1 l1.length l1) (hc1 : l1.length ≤ c1) (h : refcount_Counts_Drop.f k l0_0 l1 = some (r1, r2, r3)) :
  Calls Try.prog 14 #[.agg #[.slice A0_0 l0_0.length c0_0], .slice A1 l1.length c1] w fun e w' => ∃ v0_ v1_ : Value, e = .returned (.tuple #[.agg #[v0_], v1_, .int .i64 r3]) ∧ Kd.R (Kd.int .i64) 3 w' w.heap.size (fun _ => True) v0_ r1 ∧ Kd.R k41 41 w' w.heap.size (fun _ => True) v1_ r2 ∧ Below w.heap.size w w' := by
 have hu27 := Try.underlying27
 have hu41 := Try.underlying41
 have HR0_0 := Aside0.mk hr0_0
 have HC0_0 := Aside0.mk hc0_0
 clear hr0_0 hc0_0
 have HR1 := Aside0.mk hr1
 have HC1 := Aside0.mk hc1
 clear hr1 hc1
 have HB := Aside0.mk (Below.refl w.heap.size w)
 have H : ((refcount_Counts_permitted.f l0_0 l1).bind fun t140 => (if t140 = true then ((refcount_Counts_changed.f k l0_0 l1 (-1)).bind fun t141 => ((slices_ContainsFunc_int_int.f t141).bind fun t145 => (if t145 = true then (some (([] : List Int), ([] : List (S41)), 8)) else (refcount_Counts_Drop.l0 k ([] : List (S41)) l1 (l1.length : Int) 0 t141)))) else (some (([] : List Int), ([] : List (S41)), 2)))) = some (r1, r2, r3) := h
 clear h
 replace H := Option.bind_eq_some_iff.mp H
 obtain ⟨t140, A30, H⟩ := H
 replace H : (if t140 = true then ((refcount_Counts_changed.f k l0_0 l1 (-1)).bind fun t141 => ((slices_ContainsFunc_int_int.f t141).bind fun t145 => (if t145 = true then (some (([] : List Int), ([] : List (S41)), 8)) else (refcount_Counts_Drop.l0 k ([] : List (S41)) l1 (l1.length : Int) 0 t141)))) else (some (([] : List Int), ([] : List (S41)), 2))) = some (r1, r2, r3) := H
 have A3 := Aside0.mk A30
 clear A30
 by_cases c4 : t140 = true
 ·
  subst c4
  have H1 : ((refcount_Counts_changed.f k l0_0 l1 (-1)).bind fun t141 => ((slices_ContainsFunc_int_int.f t141).bind fun t145 => (if t145 = true then (some (([] : List Int), ([] : List (S41)), 8)) else (refcount_Counts_Drop.l0 k ([] : List (S41)) l1 (l1.length : Int) 0 t141)))) = some (r1, r2, r3) := by rw [if_pos rfl] at H; exact H
  clear H
  have H := H1
  clear H1
  replace H := Option.bind_eq_some_iff.mp H
  obtain ⟨t141, A50, H⟩ := H
  replace H : ((slices_ContainsFunc_int_int.f t141).bind fun t145 => (if t145 = true then (some (([] : List Int), ([] : List (S41)), 8)) else (refcount_Counts_Drop.l0 k ([] : List (S41)) l1 (l1.length : Int) 0 t141))) = some (r1, r2, r3) := H
  have A5 := Aside0.mk A50
  clear A50
  replace H := Option.bind_eq_some_iff.mp H
  obtain ⟨t145, A60, H⟩ := H
  replace H : (if t145 = true then (some (([] : List Int), ([] : List (S41)), 8)) else (refcount_Counts_Drop.l0 k ([] : List (S41)) l1 (l1.length : Int) 0 t141)) = some (r1, r2, r3) := H
  have A6 := Aside0.mk A60
  clear A60
  by_cases c7 : t145 = true
  ·
   subst c7
   have H1 : (some (([] : List Int), ([] : List (S41)), 8)) = some (r1, r2, r3) := by rw [if_pos rfl] at H; exact H
   clear H
   have H := H1
   clear H1
   simp only [Option.some.injEq, Prod.mk.injEq] at H
   obtain ⟨rfl, rfl, rfl⟩ := H
   go_enter Try.func14, Try.ntmps14
   go_wp2_with (first | ((with_reducible refine gate_dst (N := 2) rfl ?_); refine box_event ?hg (N := 2) ?hd (cs := #[.slice A0_0 l0_0.length c0_0]) (t := 27) ?hr ?_; (case hd => rfl); (case hg => rfl); (case hr => first | (go_simp; done) | (go_simp; rfl)); intro gb138 hg w8 hbox hb; have BK138 := Aside0.mk (hbox); have GW138 := Aside0.mk ((by rw [hg]; exact (below_size (bU HB.out)) : w.heap.size ≤ gb138)); have GE138 := Aside0.mk ((by rw [hg]; exact (below_size (bU HB.out)) : w.heap.size ≤ gb138)); replace HB := Aside0.mk (below_step (bU HB.out) hb); clear hb hbox hg) | ((with_reducible refine gate_dst (N := 4) rfl ?_); refine box_event ?hg (N := 4) ?hd (cs := #[.slice none 0 0]) (t := 27) ?hr ?_; (case hd => rfl); (case hg => rfl); (case hr => first | (go_simp; done) | (go_simp; rfl)); intro gb139 hg w9 hbox hb; have BK139 := Aside0.mk (hbox); have GW139 := Aside0.mk ((by rw [hg]; exact (below_size (by repeat (first | (with_reducible first | exact HB.out | apply below_alloc | apply pw_below_drewN | apply below_drew1 | refine below_set ?_ GE138.out) | exact HB.out))) : w.heap.size ≤ gb139)); have GE139 := Aside0.mk ((by rw [hg]; exact (below_size (by repeat (first | (with_reducible first | exact HB.out | apply below_alloc | apply pw_below_drewN | apply below_drew1 | refine below_set ?_ GE138.out) | exact HB.out))) : w.heap.size ≤ gb139)); replace HB := Aside0.mk (below_step (by repeat (first | (with_reducible first | exact HB.out | apply below_alloc | apply pw_below_drewN | apply below_drew1 | refine below_set ?_ GE138.out) | exact HB.out)) hb); have NB138_139 := Aside0.mk ((by rw [hg]; exact Nat.ne_of_lt (blk_lt (g := gb138) (o := .cells #[.slice A0_0 l0_0.length c0_0] 27 (0, 0)) (kU BK138.out)) : gb138 ≠ gb139)); have NB139_138 := Aside0.mk ((by rw [hg]; exact Nat.ne_of_gt (blk_lt (g := gb138) (o := .cells #[.slice A0_0 l0_0.length c0_0] 27 (0, 0)) (kU BK138.out)) : gb139 ≠ gb138)); replace BK138 := Aside0.mk (blk_below (g := gb138) (o := .cells #[.slice A0_0 l0_0.length c0_0] 27 (0, 0)) (kU BK138.out) hb); clear hb hbox hg; have hnb10 := NB138_139.out; have hnc10 := NB139_138.out; have hcz11_0 : w9.cell? ⟨gb138, 0, none⟩ = some (.slice A0_0 l0_0.length c0_0) := (blk_cell BK138.out 0).trans rfl; have hfz11_0 := blk_frozen BK138.out 0) | ((with_reducible refine gate_callee (f := 28) rfl ?_); refine goesL_ (some 14) rfl rfl Try.func28 (by kernel_rfl) rfl #[.agg #[.slice A0_0 l0_0.length c0_0], .slice A1 l1.length c1] rfl (by (try simp only [List.map_toArray, List.map_cons, List.map_nil]); first | done | rfl | (simp only [List.length_drop, List.length_take]; rfl)) ?_; (with_reducible refine (refcount_Counts_permitted.calls _ _ l0_0 _ _ l1 true _ ?side1 ?side2 ?side3 ?side4 A3.out).mono ?_); (case side1 => exact cU (Kd.C_below HR0_0.out HB.out)); (case side2 => exact HC0_0.out); (case side3 => exact cU (Kd.C_below HR1.out HB.out)); (case side4 => exact HC1.out); rintro e w12 ⟨rfl, hb⟩; refine ⟨_, rfl, ?_⟩; replace BK138 := Aside0.mk (blk_below (g := gb138) (o := .cells #[.slice A0_0 l0_0.length c0_0] 27 (0, 0)) (kU BK138.out) hb); replace BK139 := Aside0.mk (blk_below (g := gb139) (o := .cells #[.slice none 0 0] 27 (0, 0)) (kU BK139.out) hb); replace HB := Aside0.mk (below_step (by repeat (first | (with_reducible first | exact HB.out | apply below_alloc | apply pw_below_drewN | apply below_drew1 | refine below_set ?_ GE138.out | refine below_set ?_ GE139.out) | exact HB.out)) hb); (try clear hb); (try clear hk); have hcz13_0 : w12.cell? ⟨gb138, 0, none⟩ = some (.slice A0_0 l0_0.length c0_0) := (blk_cell BK138.out 0).trans rfl; have hfz13_0 := blk_frozen BK138.out 0) | ((with_reducible refine gate_callee (f := 29) rfl ?_); refine goesL_ (some 19) rfl rfl Try.func29 (by kernel_rfl) rfl #[.agg #[.slice A0_0 l0_0.length c0_0], .slice A1 l1.length c1, .int .i64 (-1)] rfl (by (try simp only [List.map_toArray, List.map_cons, List.map_nil]); first | done | rfl | (simp only [List.length_drop, List.length_take]; rfl)) ?_; (with_reducible refine (refcount_Counts_changed.calls k _ _ l0_0 _ _ l1 (-1) t141 _ ?side1 ?side2 ?side3 ?side4 A5.out).mono ?_); (case side1 => exact cU (Kd.C_below HR0_0.out HB.out)); (case side2 => exact HC0_0.out); (case side3 => exact cU (Kd.C_below HR1.out HB.out)); (case side4 => exact HC1.out); rintro e w14 ⟨v142, rfl, ho0, hb⟩; refine ⟨_, rfl, ?_⟩; have HO143 := Aside0.mk (Kd.R_lower ho0 (below_size (by repeat (first | (with_reducible first | exact HB.out | apply below_alloc | apply pw_below_drewN | apply below_drew1 | refine below_set ?_ GE138.out | refine below_set ?_ GE139.out) | exact HB.out)))); replace BK138 := Aside0.mk (blk_below (g := gb138) (o := .cells #[.slice A0_0 l0_0.length c0_0] 27 (0, 0)) (kU BK138.out) hb); replace BK139 := Aside0.mk (blk_below (g := gb139) (o := .cells #[.slice none 0 0] 27 (0, 0)) (kU BK139.out) hb); replace HB := Aside0.mk (below_step (by repeat (first | (with_reducible first | exact HB.out | apply below_alloc | apply pw_below_drewN | apply below_drew1 | refine below_set ?_ GE138.out | refine below_set ?_ GE139.out) | exact HB.out)) hb); (try clear hb); (try clear hk); (try clear ho0)) | ((with_reducible refine gate_dst (N := 7) rfl ?_); refine box_event ?hg (N := 7) ?hd (cs := #[.slice none 0 0]) (t := 27) ?hr ?_; (case hd => rfl); (case hg => rfl); (case hr => first | (go_simp; done) | (go_simp; rfl)); intro gb144 hg w15 hbox hb; replace HO143 := Aside0.mk (Kd.R_below (rU HO143.out) hb); have BK144 := Aside0.mk (hbox); have GW144 := Aside0.mk ((by rw [hg]; exact (below_size (by repeat (first | (with_reducible first | exact HB.out | apply below_alloc | apply pw_below_drewN | apply below_drew1 | refine below_set ?_ GE138.out | refine below_set ?_ GE139.out) | exact HB.out))) : w.heap.size ≤ gb144)); have GE144 := Aside0.mk ((by rw [hg]; exact (below_size (by repeat (first | (with_reducible first | exact HB.out | apply below_alloc | apply pw_below_drewN | apply below_drew1 | refine below_set ?_ GE138.out | refine below_set ?_ GE139.out) | exact HB.out))) : w.heap.size ≤ gb144)); replace HB := Aside0.mk (below_step (by repeat (first | (with_reducible first | exact HB.out | apply below_alloc | apply pw_below_drewN | apply below_drew1 | refine below_set ?_ GE138.out | refine below_set ?_ GE139.out) | exact HB.out)) hb); have NB138_144 := Aside0.mk ((by rw [hg]; exact Nat.ne_of_lt (blk_lt (g := gb138) (o := .cells #[.slice A0_0 l0_0.length c0_0] 27 (0, 0)) (kU BK138.out)) : gb138 ≠ gb144)); have NB144_138 := Aside0.mk ((by rw [hg]; exact Nat.ne_of_gt (blk_lt (g := gb138) (o := .cells #[.slice A0_0 l0_0.length c0_0] 27 (0, 0)) (kU BK138.out)) : gb144 ≠ gb138)); replace BK138 := Aside0.mk (blk_below (g := gb138) (o := .cells #[.slice A0_0 l0_0.length c0_0] 27 (0, 0)) (kU BK138.out) hb); have NB139_144 := Aside0.mk ((by rw [hg]; exact Nat.ne_of_lt (blk_lt (g := gb139) (o := .cells #[.slice none 0 0] 27 (0, 0)) (kU BK139.out)) : gb139 ≠ gb144)); have NB144_139 := Aside0.mk ((by rw [hg]; exact Nat.ne_of_gt (blk_lt (g := gb139) (o := .cells #[.slice none 0 0] 27 (0, 0)) (kU BK139.out)) : gb144 ≠ gb139)); replace BK139 := Aside0.mk (blk_below (g := gb139) (o := .cells #[.slice none 0 0] 27 (0, 0)) (kU BK139.out) hb); clear hb hbox hg; obtain ⟨Ao16, co16, eo16⟩ := Kd.R_slice HO143.out; subst eo16; have hnb17 := NB144_138.out; have hnc17 := NB138_144.out; have hnb18 := NB144_139.out; have hnc18 := NB139_144.out; have hcz19_0 : w15.cell? ⟨gb144, 0, none⟩ = some (.slice none 0 0) := (blk_cell BK144.out 0).trans rfl; have hfz19_0 := blk_frozen BK144.out 0) | ((with_reducible refine gate_callee (f := 32) rfl ?_); refine goesL_ (some 22) rfl rfl Try.func32 (by kernel_rfl) rfl #[.slice Ao16 t141.length co16, .func (.func 33) #[] #[]] rfl (by (try simp only [List.map_toArray, List.map_cons, List.map_nil]); first | done | rfl | (simp only [List.length_drop, List.length_take]; rfl)) ?_; (with_reducible refine (slices_ContainsFunc_int_int.calls _ _ t141 true _ ?side1 ?side2 A6.out).mono ?_); (case side1 => refine (Kd.R_reads' (e := 3) (base := w.heap.size) (ok := fun k_ => True) (n := t141.length) (c := co16) ?_).2.2; exact (rU (Kd.R_mono (Kd.R_far (p := ⟨gb144, 0, none⟩) (Kd.R_types HO143.out BK144.out (by decide)) (fun _ hk => hk.2) (.slice Ao16 t141.length co16)) (fun _ h_ => h_.1)))); (case side2 => exact (Kd.R_reads' HO143.out).2.1); rintro e w20 ⟨rfl, hb⟩; refine ⟨_, rfl, ?_⟩; replace HO143 := Aside0.mk (Kd.R_below (rU (Kd.R_mono (Kd.R_far (p := ⟨gb144, 0, none⟩) (Kd.R_types HO143.out BK144.out (by decide)) (fun _ hk => hk.2) (.slice Ao16 t141.length co16)) (fun _ h_ => h_.1))) hb); replace BK138 := Aside0.mk (blk_below (g := gb138) (o := .cells #[.slice A0_0 l0_0.length c0_0] 27 (0, 0)) (by (with_reducible repeat (first | refine blk_drewN ?_ _ | refine blk_drew ?_ | refine blk_alloc ?_ _)); refine blk_far ?_ NB138_144.out _; (with_reducible repeat (first | refine blk_drewN ?_ _ | refine blk_drew ?_ | refine blk_alloc ?_ _)); exact BK138.out) hb); replace BK139 := Aside0.mk (blk_below (g := gb139) (o := .cells #[.slice none 0 0] 27 (0, 0)) (by (with_reducible repeat (first | refine blk_drewN ?_ _ | refine blk_drew ?_ | refine blk_alloc ?_ _)); refine blk_far ?_ NB139_144.out _; (with_reducible repeat (first | refine blk_drewN ?_ _ | refine blk_drew ?_ | refine blk_alloc ?_ _)); exact BK139.out) hb); replace BK144 := Aside0.mk (blk_below (g := gb144) (o := .cells #[.slice Ao16 t141.length co16] 27 (0, 0)) (by (with_reducible repeat (first | refine blk_drewN ?_ _ | refine blk_drew ?_ | refine blk_alloc ?_ _)); refine blk_put (cs := #[.slice none 0 0]) ?_ 0 _ rfl; (with_reducible repeat (first | refine blk_drewN ?_ _ | refine blk_drew ?_ | refine blk_alloc ?_ _)); exact BK144.out) hb); replace HB := Aside0.mk (below_step (by repeat (first | (with_reducible first | exact HB.out | apply below_alloc | apply pw_below_drewN | apply below_drew1 | refine below_set ?_ GE138.out | refine below_set ?_ GE139.out | refine below_set ?_ GE144.out) | exact HB.out)) hb); (try clear hb); (try clear hk); have hcz21_0 : w20.cell? ⟨gb139, 0, none⟩ = some (.slice none 0 0) := (blk_cell BK139.out 0).trans rfl; have hfz21_0 := blk_frozen BK139.out 0))
   refine bodyPost_ret (results_ctt rfl _ _ gb139 27 #[.slice none 0 0] (0, 0) _ rfl (by (with_reducible repeat (first | refine blk_drewN ?_ _ | refine blk_drew ?_ | refine blk_alloc ?_ _)); refine blk_put (cs := #[.slice none 0 0]) ?_ 0 _ rfl; (with_reducible repeat (first | refine blk_drewN ?_ _ | refine blk_drew ?_ | refine blk_alloc ?_ _)); exact BK139.out) Try.underlying27 rfl (by kernel_rfl)) rfl ?_
   exact ⟨_, _, by first | rfl | (simp [errW_none, errW_some] <;> rfl) | (simp [*, errW_none, errW_some] <;> rfl), by first | exact Kd.R_nil _ _ _ _ _ | exact Kd.N_nil _ _ _ _ _ | exact Kd.V_nil _ _ _ _ _ | exact Kd.Q_nil _ _ _ _ _ | exact Kd.S_nil _ _ _ _ _, by first | exact Kd.R_nil _ _ _ _ _ | exact Kd.N_nil _ _ _ _ _ | exact Kd.V_nil _ _ _ _ _ | exact Kd.Q_nil _ _ _ _ _ | exact Kd.S_nil _ _ _ _ _, by repeat (first | (with_reducible first | exact HB.out | apply below_alloc | apply pw_below_drewN | apply below_drew1 | refine below_set ?_ GE138.out | refine below_set ?_ GE139.out | refine below_set ?_ GE144.out) | exact HB.out)⟩
  ·
   replace c7 := Bool.eq_false_iff.mpr c7
   subst c7
   have H1 : (refcount_Counts_Drop.l0 k ([] : List (S41)) l1 (l1.length : Int) 0 t141) = some (r1, r2, r3) := by rw [if_neg (show ¬ (false = true) by decide)] at H; exact H
   clear H
   have H := H1
   clear H1
   have H' := Aside0.mk H
   clear H
   go_enter Try.func14, Try.ntmps14
   go_wp2_with (first | ((with_reducible refine gate_dst (N := 2) rfl ?_); refine box_event ?hg (N := 2) ?hd (cs := #[.slice A0_0 l0_0.length c0_0]) (t := 27) ?hr ?_; (case hd => rfl); (case hg => rfl); (case hr => first | (go_simp; done) | (go_simp; rfl)); intro gb138 hg w22 hbox hb; have BK138 := Aside0.mk (hbox); have GW138 := Aside0.mk ((by rw [hg]; exact (below_size (bU HB.out)) : w.heap.size ≤ gb138)); have GE138 := Aside0.mk ((by rw [hg]; exact (below_size (bU HB.out)) : w.heap.size ≤ gb138)); replace HB := Aside0.mk (below_step (bU HB.out) hb); clear hb hbox hg) | ((with_reducible refine gate_dst (N := 4) rfl ?_); refine box_event ?hg (N := 4) ?hd (cs := #[.slice none 0 0]) (t := 27) ?hr ?_; (case hd => rfl); (case hg => rfl); (case hr => first | (go_simp; done) | (go_simp; rfl)); intro gb139 hg w23 hbox hb; have BK139 := Aside0.mk (hbox); have GW139 := Aside0.mk ((by rw [hg]; exact (below_size (by repeat (first | (with_reducible first | exact HB.out | apply below_alloc | apply pw_below_drewN | apply below_drew1 | refine below_set ?_ GE138.out) | exact HB.out))) : w.heap.size ≤ gb139)); have GE139 := Aside0.mk ((by rw [hg]; exact (below_size (by repeat (first | (with_reducible first | exact HB.out | apply below_alloc | apply pw_below_drewN | apply below_drew1 | refine below_set ?_ GE138.out) | exact HB.out))) : w.heap.size ≤ gb139)); replace HB := Aside0.mk (below_step (by repeat (first | (with_reducible first | exact HB.out | apply below_alloc | apply pw_below_drewN | apply below_drew1 | refine below_set ?_ GE138.out) | exact HB.out)) hb); have NB138_139 := Aside0.mk ((by rw [hg]; exact Nat.ne_of_lt (blk_lt (g := gb138) (o := .cells #[.slice A0_0 l0_0.length c0_0] 27 (0, 0)) (kU BK138.out)) : gb138 ≠ gb139)); have NB139_138 := Aside0.mk ((by rw [hg]; exact Nat.ne_of_gt (blk_lt (g := gb138) (o := .cells #[.slice A0_0 l0_0.length c0_0] 27 (0, 0)) (kU BK138.out)) : gb139 ≠ gb138)); replace BK138 := Aside0.mk (blk_below (g := gb138) (o := .cells #[.slice A0_0 l0_0.length c0_0] 27 (0, 0)) (kU BK138.out) hb); clear hb hbox hg; have hnb24 := NB138_139.out; have hnc24 := NB139_138.out; have hcz25_0 : w23.cell? ⟨gb138, 0, none⟩ = some (.slice A0_0 l0_0.length c0_0) := (blk_cell BK138.out 0).trans rfl; have hfz25_0 := blk_frozen BK138.out 0) | ((with_reducible refine gate_callee (f := 28) rfl ?_); refine goesL_ (some 14) rfl rfl Try.func28 (by kernel_rfl) rfl #[.agg #[.slice A0_0 l0_0.length c0_0], .slice A1 l1.length c1] rfl (by (try simp only [List.map_toArray, List.map_cons, List.map_nil]); first | done | rfl | (simp only [List.length_drop, List.length_take]; rfl)) ?_; (with_reducible refine (refcount_Counts_permitted.calls _ _ l0_0 _ _ l1 true _ ?side1 ?side2 ?side3 ?side4 A3.out).mono ?_); (case side1 => exact cU (Kd.C_below HR0_0.out HB.out)); (case side2 => exact HC0_0.out); (case side3 => exact cU (Kd.C_below HR1.out HB.out)); (case side4 => exact HC1.out); rintro e w26 ⟨rfl, hb⟩; refine ⟨_, rfl, ?_⟩; replace BK138 := Aside0.mk (blk_below (g := gb138) (o := .cells #[.slice A0_0 l0_0.length c0_0] 27 (0, 0)) (kU BK138.out) hb); replace BK139 := Aside0.mk (blk_below (g := gb139) (o := .cells #[.slice none 0 0] 27 (0, 0)) (kU BK139.out) hb); replace HB := Aside0.mk (below_step (by repeat (first | (with_reducible first | exact HB.out | apply below_alloc | apply pw_below_drewN | apply below_drew1 | refine below_set ?_ GE138.out | refine below_set ?_ GE139.out) | exact HB.out)) hb); (try clear hb); (try clear hk); have hcz27_0 : w26.cell? ⟨gb138, 0, none⟩ = some (.slice A0_0 l0_0.length c0_0) := (blk_cell BK138.out 0).trans rfl; have hfz27_0 := blk_frozen BK138.out 0) | ((with_reducible refine gate_callee (f := 29) rfl ?_); refine goesL_ (some 19) rfl rfl Try.func29 (by kernel_rfl) rfl #[.agg #[.slice A0_0 l0_0.length c0_0], .slice A1 l1.length c1, .int .i64 (-1)] rfl (by (try simp only [List.map_toArray, List.map_cons, List.map_nil]); first | done | rfl | (simp only [List.length_drop, List.length_take]; rfl)) ?_; (with_reducible refine (refcount_Counts_changed.calls k _ _ l0_0 _ _ l1 (-1) t141 _ ?side1 ?side2 ?side3 ?side4 A5.out).mono ?_); (case side1 => exact cU (Kd.C_below HR0_0.out HB.out)); (case side2 => exact HC0_0.out); (case side3 => exact cU (Kd.C_below HR1.out HB.out)); (case side4 => exact HC1.out); rintro e w28 ⟨v142, rfl, ho0, hb⟩; refine ⟨_, rfl, ?_⟩; have HO143 := Aside0.mk (Kd.R_lower ho0 (below_size (by repeat (first | (with_reducible first | exact HB.out | apply below_alloc | apply pw_below_drewN | apply below_drew1 | refine below_set ?_ GE138.out | refine below_set ?_ GE139.out) | exact HB.out)))); replace BK138 := Aside0.mk (blk_below (g := gb138) (o := .cells #[.slice A0_0 l0_0.length c0_0] 27 (0, 0)) (kU BK138.out) hb); replace BK139 := Aside0.mk (blk_below (g := gb139) (o := .cells #[.slice none 0 0] 27 (0, 0)) (kU BK139.out) hb); replace HB := Aside0.mk (below_step (by repeat (first | (with_reducible first | exact HB.out | apply below_alloc | apply pw_below_drewN | apply below_drew1 | refine below_set ?_ GE138.out | refine below_set ?_ GE139.out) | exact HB.out)) hb); (try clear hb); (try clear hk); (try clear ho0)) | ((with_reducible refine gate_dst (N := 7) rfl ?_); refine box_event ?hg (N := 7) ?hd (cs := #[.slice none 0 0]) (t := 27) ?hr ?_; (case hd => rfl); (case hg => rfl); (case hr => first | (go_simp; done) | (go_simp; rfl)); intro gb144 hg w29 hbox hb; replace HO143 := Aside0.mk (Kd.R_below (rU HO143.out) hb); have BK144 := Aside0.mk (hbox); have GW144 := Aside0.mk ((by rw [hg]; exact (below_size (by repeat (first | (with_reducible first | exact HB.out | apply below_alloc | apply pw_below_drewN | apply below_drew1 | refine below_set ?_ GE138.out | refine below_set ?_ GE139.out) | exact HB.out))) : w.heap.size ≤ gb144)); have GE144 := Aside0.mk ((by rw [hg]; exact (below_size (by repeat (first | (with_reducible first | exact HB.out | apply below_alloc | apply pw_below_drewN | apply below_drew1 | refine below_set ?_ GE138.out | refine below_set ?_ GE139.out) | exact HB.out))) : w.heap.size ≤ gb144)); replace HB := Aside0.mk (below_step (by repeat (first | (with_reducible first | exact HB.out | apply below_alloc | apply pw_below_drewN | apply below_drew1 | refine below_set ?_ GE138.out | refine below_set ?_ GE139.out) | exact HB.out)) hb); have NB138_144 := Aside0.mk ((by rw [hg]; exact Nat.ne_of_lt (blk_lt (g := gb138) (o := .cells #[.slice A0_0 l0_0.length c0_0] 27 (0, 0)) (kU BK138.out)) : gb138 ≠ gb144)); have NB144_138 := Aside0.mk ((by rw [hg]; exact Nat.ne_of_gt (blk_lt (g := gb138) (o := .cells #[.slice A0_0 l0_0.length c0_0] 27 (0, 0)) (kU BK138.out)) : gb144 ≠ gb138)); replace BK138 := Aside0.mk (blk_below (g := gb138) (o := .cells #[.slice A0_0 l0_0.length c0_0] 27 (0, 0)) (kU BK138.out) hb); have NB139_144 := Aside0.mk ((by rw [hg]; exact Nat.ne_of_lt (blk_lt (g := gb139) (o := .cells #[.slice none 0 0] 27 (0, 0)) (kU BK139.out)) : gb139 ≠ gb144)); have NB144_139 := Aside0.mk ((by rw [hg]; exact Nat.ne_of_gt (blk_lt (g := gb139) (o := .cells #[.slice none 0 0] 27 (0, 0)) (kU BK139.out)) : gb144 ≠ gb139)); replace BK139 := Aside0.mk (blk_below (g := gb139) (o := .cells #[.slice none 0 0] 27 (0, 0)) (kU BK139.out) hb); clear hb hbox hg; obtain ⟨Ao30, co30, eo30⟩ := Kd.R_slice HO143.out; subst eo30; have hnb31 := NB144_138.out; have hnc31 := NB138_144.out; have hnb32 := NB144_139.out; have hnc32 := NB139_144.out; have hcz33_0 : w29.cell? ⟨gb144, 0, none⟩ = some (.slice none 0 0) := (blk_cell BK144.out 0).trans rfl; have hfz33_0 := blk_frozen BK144.out 0) | ((with_reducible refine gate_callee (f := 32) rfl ?_); refine goesL_ (some 22) rfl rfl Try.func32 (by kernel_rfl) rfl #[.slice Ao30 t141.length co30, .func (.func 33) #[] #[]] rfl (by (try simp only [List.map_toArray, List.map_cons, List.map_nil]); first | done | rfl | (simp only [List.length_drop, List.length_take]; rfl)) ?_; (with_reducible refine (slices_ContainsFunc_int_int.calls _ _ t141 false _ ?side1 ?side2 A6.out).mono ?_); (case side1 => refine (Kd.R_reads' (e := 3) (base := w.heap.size) (ok := fun k_ => True) (n := t141.length) (c := co30) ?_).2.2; exact (rU (Kd.R_mono (Kd.R_far (p := ⟨gb144, 0, none⟩) (Kd.R_types HO143.out BK144.out (by decide)) (fun _ hk => hk.2) (.slice Ao30 t141.length co30)) (fun _ h_ => h_.1)))); (case side2 => exact (Kd.R_reads' HO143.out).2.1); rintro e w34 ⟨rfl, hb⟩; refine ⟨_, rfl, ?_⟩; replace HO143 := Aside0.mk (Kd.R_below (rU (Kd.R_mono (Kd.R_far (p := ⟨gb144, 0, none⟩) (Kd.R_types HO143.out BK144.out (by decide)) (fun _ hk => hk.2) (.slice Ao30 t141.length co30)) (fun _ h_ => h_.1))) hb); replace BK138 := Aside0.mk (blk_below (g := gb138) (o := .cells #[.slice A0_0 l0_0.length c0_0] 27 (0, 0)) (by (with_reducible repeat (first | refine blk_drewN ?_ _ | refine blk_drew ?_ | refine blk_alloc ?_ _)); refine blk_far ?_ NB138_144.out _; (with_reducible repeat (first | refine blk_drewN ?_ _ | refine blk_drew ?_ | refine blk_alloc ?_ _)); exact BK138.out) hb); replace BK139 := Aside0.mk (blk_below (g := gb139) (o := .cells #[.slice none 0 0] 27 (0, 0)) (by (with_reducible repeat (first | refine blk_drewN ?_ _ | refine blk_drew ?_ | refine blk_alloc ?_ _)); refine blk_far ?_ NB139_144.out _; (with_reducible repeat (first | refine blk_drewN ?_ _ | refine blk_drew ?_ | refine blk_alloc ?_ _)); exact BK139.out) hb); replace BK144 := Aside0.mk (blk_below (g := gb144) (o := .cells #[.slice Ao30 t141.length co30] 27 (0, 0)) (by (with_reducible repeat (first | refine blk_drewN ?_ _ | refine blk_drew ?_ | refine blk_alloc ?_ _)); refine blk_put (cs := #[.slice none 0 0]) ?_ 0 _ rfl; (with_reducible repeat (first | refine blk_drewN ?_ _ | refine blk_drew ?_ | refine blk_alloc ?_ _)); exact BK144.out) hb); replace HB := Aside0.mk (below_step (by repeat (first | (with_reducible first | exact HB.out | apply below_alloc | apply pw_below_drewN | apply below_drew1 | refine below_set ?_ GE138.out | refine below_set ?_ GE139.out | refine below_set ?_ GE144.out) | exact HB.out)) hb); (try clear hb); (try clear hk)))
   go_loopg [8, 26] k (fun kq v8 v26 w' => ∃ (x8_1 : List (S41)) (x26_1 : Int), v26 = .int .i64 x26_1 ∧ Aside0 (refcount_Counts_Drop.l0 kq x8_1 l1 (l1.length : Int) x26_1 t141 = some (r1, r2, r3)) ∧ Aside0 (kq ≤ k) ∧ Aside0 (Kd.R k41 41 w' w.heap.size (fun _ => True) v8 x8_1) ∧ Aside0 (Kd.R (Kd.int .i64) 3 w' w.heap.size (fun _ => True) (.slice Ao30 t141.length co30) t141) ∧ Aside0 (w'.heap[gb138]? = some (.cells #[(.slice A0_0 l0_0.length c0_0)] 27 (0, 0))) ∧ Aside0 (w'.heap[gb139]? = some (.cells #[(.slice none 0 0)] 27 (0, 0))) ∧ Aside0 (w'.heap[gb144]? = some (.cells #[(.slice Ao30 t141.length co30)] 27 (0, 0))) ∧ Aside0 (Below w.heap.size w w'))
   case atStart => exact ⟨(([] : List (S41))), (0), (by first | rfl | (simp; done) | (simp [*]; done)), H', ⟨Nat.le_refl _⟩, ⟨by first | exact Kd.R_nil _ _ _ _ _ | exact Kd.N_nil _ _ _ _ _ | exact Kd.V_nil _ _ _ _ _ | exact Kd.Q_nil _ _ _ _ _ | exact Kd.S_nil _ _ _ _ _⟩, ⟨rU HO143.out⟩, ⟨by (with_reducible repeat (first | refine blk_drewN ?_ _ | refine blk_drew ?_ | refine blk_alloc ?_ _)); exact BK138.out⟩, ⟨by (with_reducible repeat (first | refine blk_drewN ?_ _ | refine blk_drew ?_ | refine blk_alloc ?_ _)); exact BK139.out⟩, ⟨by (with_reducible repeat (first | refine blk_drewN ?_ _ | refine blk_drew ?_ | refine blk_alloc ?_ _)); exact BK144.out⟩, ⟨by repeat (first | (with_reducible first | exact HB.out | apply below_alloc | apply pw_below_drewN | apply below_drew1 | refine below_set ?_ GE138.out | refine below_set ?_ GE139.out | refine below_set ?_ GE144.out) | exact HB.out)⟩⟩
   case round =>
    clear H'
    try clear c1
    try clear c2
    try clear p2
    try clear c3
    try clear c4
    try clear c7
    try clear c10
    try clear c14
    try clear c17
    try clear c18
    try clear c24
    try clear c28
    try clear c29
    try clear c31
    try clear c32
    try clear hcz11_0
    try clear hcz13_0
    try clear hcz19_0
    try clear hcz21_0
    try clear hcz25_0
    try clear hcz27_0
    try clear hcz33_0
    try clear hfz11_0
    try clear hfz13_0
    try clear hfz19_0
    try clear hfz21_0
    try clear hfz25_0
    try clear hfz27_0
    try clear hfz33_0
    obtain ⟨x8_1, x26_1, rfl, HA, HK1, HO_8, HO_145000, BK138, BK139, BK144, HB⟩ := hrel
    cases gk with
    | zero => exact absurd HA.out (by simp [refcount_Counts_Drop.l0])
    | succ k1 =>
     have H := HA.out
     clear HA
     simp only [refcount_Counts_Drop.l0] at H
     by_cases c35 : x26_1 < (l1.length : Int)
     ·
      rw [if_pos c35] at H
      have c35b0 := decide_eq_true c35
      clear c35
      by_cases c36 : 0 ≤ x26_1
      ·
       rw [if_pos c36] at H
       have c36b0 := decide_eq_true c36
       clear c36
       by_cases c37 : x26_1 < (l1.length : Int)
       ·
        rw [if_pos c37] at H
        have c37b0 := decide_eq_true c37
        clear c37
        have H' := Aside0.mk H
        clear H
        have p149 : 0 ≤ (x26_1 : Int) := of_decide_eq_true (by first | (with_reducible assumption) | assumption)
        have q149 : x26_1 < (l1.length : Int) := of_decide_eq_true (by first | (with_reducible assumption) | assumption)
        obtain ⟨ad149, e149, hx149_0, hx149_1, hx149_2⟩ := at_T41 HR1.out x26_1 p149 q149
        cases e149
        replace hx149_0 := (HB.out.cell (World.block_lt_of_cell? w _ hx149_0)).trans hx149_0
        replace hx149_1 := (HB.out.cell (World.block_lt_of_cell? w _ hx149_1)).trans hx149_1
        replace hx149_2 := (HB.out.cell (World.block_lt_of_cell? w _ hx149_2)).trans hx149_2
        replace p149 := eq_true p149
        replace q149 := eq_true q149
        go_wp2_with (first | ((with_reducible refine gate_dst (N := 10) rfl ?_); refine box_event ?hg (N := 10) ?hd (cs := #[.int .i64 0, .int .i64 0, .int .i64 0]) (t := 41) ?hr ?_; (case hd => rfl); (case hg => rfl); (case hr => first | (go_simp; done) | (go_simp; rfl)); intro gb150 hg w38 hbox hb; replace HO_8 := Aside0.mk (Kd.R_below (Kd.R_elderB (rU HO_8.out) gb150 (Nat.le_of_eq hg.symm)) hb); replace HO_145000 := Aside0.mk (Kd.R_below (rU HO_145000.out) hb); have BK150 := Aside0.mk (hbox); have GW150 := Aside0.mk ((by rw [hg]; exact (below_size (by repeat (first | (with_reducible first | exact HB.out | apply below_alloc | apply pw_below_drewN | apply below_drew1 | refine below_set ?_ GE138.out | refine below_set ?_ GE139.out | refine below_set ?_ GE144.out) | exact HB.out))) : w.heap.size ≤ gb150)); have GE150 := Aside0.mk ((by rw [hg]; exact (below_size (by repeat (first | (with_reducible first | exact HB.out | apply below_alloc | apply pw_below_drewN | apply below_drew1 | refine below_set ?_ GE138.out | refine below_set ?_ GE139.out | refine below_set ?_ GE144.out) | exact HB.out))) : w.heap.size ≤ gb150)); replace HB := Aside0.mk (below_step (by repeat (first | (with_reducible first | exact HB.out | apply below_alloc | apply pw_below_drewN | apply below_drew1 | refine below_set ?_ GE138.out | refine below_set ?_ GE139.out | refine below_set ?_ GE144.out) | exact HB.out)) hb); have NB138_150 := Aside0.mk ((by rw [hg]; exact Nat.ne_of_lt (blk_lt (g := gb138) (o := .cells #[.slice A0_0 l0_0.length c0_0] 27 (0, 0)) (kU BK138.out)) : gb138 ≠ gb150)); have NB150_138 := Aside0.mk ((by rw [hg]; exact Nat.ne_of_gt (blk_lt (g := gb138) (o := .cells #[.slice A0_0 l0_0.length c0_0] 27 (0, 0)) (kU BK138.out)) : gb150 ≠ gb138)); replace BK138 := Aside0.mk (blk_below (g := gb138) (o := .cells #[.slice A0_0 l0_0.length c0_0] 27 (0, 0)) (kU BK138.out) hb); have NB139_150 := Aside0.mk ((by rw [hg]; exact Nat.ne_of_lt (blk_lt (g := gb139) (o := .cells #[.slice none 0 0] 27 (0, 0)) (kU BK139.out)) : gb139 ≠ gb150)); have NB150_139 := Aside0.mk ((by rw [hg]; exact Nat.ne_of_gt (blk_lt (g := gb139) (o := .cells #[.slice none 0 0] 27 (0, 0)) (kU BK139.out)) : gb150 ≠ gb139)); replace BK139 := Aside0.mk (blk_below (g := gb139) (o := .cells #[.slice none 0 0] 27 (0, 0)) (kU BK139.out) hb); have NB144_150 := Aside0.mk ((by rw [hg]; exact Nat.ne_of_lt (blk_lt (g := gb144) (o := .cells #[.slice Ao30 t141.length co30] 27 (0, 0)) (kU BK144.out)) : gb144 ≠ gb150)); have NB150_144 := Aside0.mk ((by rw [hg]; exact Nat.ne_of_gt (blk_lt (g := gb144) (o := .cells #[.slice Ao30 t141.length co30] 27 (0, 0)) (kU BK144.out)) : gb150 ≠ gb144)); replace BK144 := Aside0.mk (blk_below (g := gb144) (o := .cells #[.slice Ao30 t141.length co30] 27 (0, 0)) (kU BK144.out) hb); clear hb hbox hg; have hnb39 := NB150_138.out; have hnc39 := NB138_150.out; have hnb40 := NB150_139.out; have hnc40 := NB139_150.out; have hnb41 := NB150_144.out; have hnc41 := NB144_150.out; have hcz42_0 : w38.cell? ⟨gb150, 0, none⟩ = some (.int .i64 0) := (blk_cell BK150.out 0).trans rfl; have hcz42_1 : w38.cell? ⟨gb150, 1, none⟩ = some (.int .i64 0) := (blk_cell BK150.out 1).trans rfl; have hcz42_2 : w38.cell? ⟨gb150, 2, none⟩ = some (.int .i64 0) := (blk_cell BK150.out 2).trans rfl; have hfz42_0 := blk_frozen BK150.out 0; have hfz42_1 := blk_frozen BK150.out 1; have hfz42_2 := blk_frozen BK150.out 2))
        go_loopg [8, 11] k1 (fun kq v8 v11 w' => ∃ (x8_2 : List (S41)) (x11_2 : Int), v11 = .int .i64 x11_2 ∧ Aside0 (refcount_Counts_Drop.l1 kq x8_2 x11_2 l1 (l1.length : Int) x26_1 t141 ((rd_T41 l1 x26_1).f0) ((rd_T41 l1 x26_1).f1) ((rd_T41 l1 x26_1).f2) = some (r1, r2, r3)) ∧ Aside0 (kq ≤ k1) ∧ Aside0 (Kd.R k41 41 w' w.heap.size (fun k_ => k_ ≠ gb150) v8 x8_2) ∧ Aside0 (Kd.R (Kd.int .i64) 3 w' w.heap.size (fun _ => True) (.slice Ao30 t141.length co30) t141) ∧ Aside0 (w'.heap[gb138]? = some (.cells #[(.slice A0_0 l0_0.length c0_0)] 27 (0, 0))) ∧ Aside0 (w'.heap[gb139]? = some (.cells #[(.slice none 0 0)] 27 (0, 0))) ∧ Aside0 (w'.heap[gb144]? = some (.cells #[(.slice Ao30 t141.length co30)] 27 (0, 0))) ∧ Aside0 (w'.heap[gb150]? = some (.cells #[.int .i64 ((rd_T41 l1 x26_1).f0), .int .i64 ((rd_T41 l1 x26_1).f1), .int .i64 ((rd_T41 l1 x26_1).f2)] 41 (0, 0))) ∧ Aside0 (Below w.heap.size w w'))
        case atStart => exact ⟨(x8_1), ((rd_T41 l1 x26_1).f2), (by first | rfl | (simp; done) | (simp [*]; done)), H', ⟨Nat.le_refl _⟩, ⟨by (with_reducible repeat (first | apply Kd.R_alloc | apply Kd.R_drewN | apply Kd.R_drew)); exact Kd.R_mono (Kd.R_far (p := ⟨gb150, 2, none⟩) (Kd.R_far (p := ⟨gb150, 1, none⟩) (Kd.R_far (p := ⟨gb150, 0, none⟩) (Kd.R_mono HO_8.out (fun k_ hk => (⟨hk, hk.2⟩ : _ ∧ k_ ≠ gb150))) (fun _ hk => hk.2) (.int .i64 ((rd_T41 l1 x26_1).f0))) (fun _ hk => hk.2) (.int .i64 ((rd_T41 l1 x26_1).f1))) (fun _ hk => hk.2) (.int .i64 ((rd_T41 l1 x26_1).f2))) (fun _ hk => hk.1.2)⟩, ⟨by (with_reducible repeat (first | apply Kd.R_alloc | apply Kd.R_drewN | apply Kd.R_drew)); exact Kd.R_mono (Kd.R_far (p := ⟨gb150, 2, none⟩) (Kd.R_far (p := ⟨gb150, 1, none⟩) (Kd.R_far (p := ⟨gb150, 0, none⟩) (Kd.R_types HO_145000.out BK150.out (by decide)) (fun _ hk => hk.2) (.int .i64 ((rd_T41 l1 x26_1).f0))) (fun _ hk => hk.2) (.int .i64 ((rd_T41 l1 x26_1).f1))) (fun _ hk => hk.2) (.int .i64 ((rd_T41 l1 x26_1).f2))) (fun _ hk => trivial)⟩, ⟨by (with_reducible repeat (first | refine blk_drewN ?_ _ | refine blk_drew ?_ | refine blk_alloc ?_ _)); refine blk_far ?_ NB138_150.out _; (with_reducible repeat (first | refine blk_drewN ?_ _ | refine blk_drew ?_ | refine blk_alloc ?_ _)); refine blk_far ?_ NB138_150.out _; (with_reducible repeat (first | refine blk_drewN ?_ _ | refine blk_drew ?_ | refine blk_alloc ?_ _)); refine blk_far ?_ NB138_150.out _; (with_reducible repeat (first | refine blk_drewN ?_ _ | refine blk_drew ?_ | refine blk_alloc ?_ _)); exact BK138.out⟩, ⟨by (with_reducible repeat (first | refine blk_drewN ?_ _ | refine blk_drew ?_ | refine blk_alloc ?_ _)); refine blk_far ?_ NB139_150.out _; (with_reducible repeat (first | refine blk_drewN ?_ _ | refine blk_drew ?_ | refine blk_alloc ?_ _)); refine blk_far ?_ NB139_150.out _; (with_reducible repeat (first | refine blk_drewN ?_ _ | refine blk_drew ?_ | refine blk_alloc ?_ _)); refine blk_far ?_ NB139_150.out _; (with_reducible repeat (first | refine blk_drewN ?_ _ | refine blk_drew ?_ | refine blk_alloc ?_ _)); exact BK139.out⟩, ⟨by (with_reducible repeat (first | refine blk_drewN ?_ _ | refine blk_drew ?_ | refine blk_alloc ?_ _)); refine blk_far ?_ NB144_150.out _; (with_reducible repeat (first | refine blk_drewN ?_ _ | refine blk_drew ?_ | refine blk_alloc ?_ _)); refine blk_far ?_ NB144_150.out _; (with_reducible repeat (first | refine blk_drewN ?_ _ | refine blk_drew ?_ | refine blk_alloc ?_ _)); refine blk_far ?_ NB144_150.out _; (with_reducible repeat (first | refine blk_drewN ?_ _ | refine blk_drew ?_ | refine blk_alloc ?_ _)); exact BK144.out⟩, ⟨by (with_reducible repeat (first | refine blk_drewN ?_ _ | refine blk_drew ?_ | refine blk_alloc ?_ _)); refine blk_put (cs := #[.int .i64 ((rd_T41 l1 x26_1).f0), .int .i64 ((rd_T41 l1 x26_1).f1), .int .i64 0]) ?_ 2 _ rfl; (with_reducible repeat (first | refine blk_drewN ?_ _ | refine blk_drew ?_ | refine blk_alloc ?_ _)); refine blk_put (cs := #[.int .i64 ((rd_T41 l1 x26_1).f0), .int .i64 0, .int .i64 0]) ?_ 1 _ rfl; (with_reducible repeat (first | refine blk_drewN ?_ _ | refine blk_drew ?_ | refine blk_alloc ?_ _)); refine blk_put (cs := #[.int .i64 0, .int .i64 0, .int .i64 0]) ?_ 0 _ rfl; (with_reducible repeat (first | refine blk_drewN ?_ _ | refine blk_drew ?_ | refine blk_alloc ?_ _)); exact BK150.out⟩, ⟨by repeat (first | (with_reducible first | exact HB.out | apply below_alloc | apply pw_below_drewN | apply below_drew1 | refine below_set ?_ GE138.out | refine below_set ?_ GE139.out | refine below_set ?_ GE144.out | refine below_set ?_ GE150.out) | exact HB.out)⟩⟩
        case round =>
         clear H'
         try clear c1
         try clear p1
         try clear q1
         try clear hx1
         try clear c2
         try clear p2
         try clear c3
         try clear c4
         try clear c7
         try clear c10
         try clear c14
         try clear p14
         try clear q14
         try clear hx14
         try clear c17
         try clear c18
         try clear c24
         try clear c28
         try clear c29
         try clear c31
         try clear c32
         try clear c35
         try clear c35b0
         try clear c36
         try clear c36b0
         try clear c37
         try clear c37b0
         try clear c39
         try clear c40
         try clear c41
         try clear hcz11_0
         try clear hcz13_0
         try clear hcz19_0
         try clear hcz21_0
         try clear hcz25_0
         try clear hcz27_0
         try clear hcz33_0
         try clear hcz42_0
         try clear hcz42_1
         try clear hcz42_2
         try clear hfz11_0
         try clear hfz13_0
         try clear hfz19_0
         try clear hfz21_0
         try clear hfz25_0
         try clear hfz27_0
         try clear hfz33_0
         try clear hfz42_0
         try clear hfz42_1
         try clear hfz42_2
         try clear hx149_0
         try clear hx149_1
         try clear hx149_2
         try clear p149
         try clear p2
         try clear q149
         obtain ⟨x8_2, x11_2, rfl, HA, HK2, HO_8, HO_145000, BK138, BK139, BK144, BK150, HB⟩ := hrel
         cases gk with
         | zero => exact absurd HA.out (by simp [refcount_Counts_Drop.l1])
         | succ k2 =>
          have H := HA.out
          clear HA
          simp only [refcount_Counts_Drop.l1] at H
          by_cases c43 : x11_2 < (wrap64 (((rd_T41 l1 x26_1).f2) + ((rd_T41 l1 x26_1).f1)))
          ·
           rw [if_pos c43] at H
           have c43b0 := decide_eq_true c43
           clear c43
           by_cases c44 : 0 ≤ x11_2
           ·
            rw [if_pos c44] at H
            have c44b0 := decide_eq_true c44
            clear c44
            by_cases c45 : x11_2 < (t141.length : Int)
            ·
             rw [if_pos c45] at H
             have c45b0 := decide_eq_true c45
             clear c45
             by_cases c46 : (rd t141 x11_2) = 0
             ·
              rw [if_pos c46] at H
              have c46b0 : ((rd t141 x11_2) == 0) = true := beq_iff_eq.mpr c46
              have c46b1 : ((rd t141 x11_2) != 0) = false := bne_eq_false_iff_eq.mpr c46
              clear c46
              by_cases c47 : x8_2.length < 5864062014805
              ·
               rw [if_pos c47] at H
               have LMc47 := Aside0.mk c47
               clear c47
               obtain ⟨y152, hy152⟩ : ∃ y_ : List (S41), y_ = (x8_2 ++ [(⟨0, 1, x11_2⟩ : S41)]) := ⟨_, rfl⟩
               replace H : (refcount_Counts_Drop.l1 k2 y152 (wrap64 (x11_2 + 1)) l1 (l1.length : Int) x26_1 t141 ((rd_T41 l1 x26_1).f0) ((rd_T41 l1 x26_1).f1) ((rd_T41 l1 x26_1).f2)) = some (r1, r2, r3) := by first | (rw [hy152]; exact H) | exact H
               have Ny152 := Aside0.mk hy152
               clear hy152
               have H' := Aside0.mk H
               clear H
               have hnb48 := NB150_138.out
               have hnc48 := NB138_150.out
               have hnb49 := NB150_139.out
               have hnc49 := NB139_150.out
               have hnb50 := NB150_144.out
               have hnc50 := NB144_150.out
               have hcz51_0 : wr.cell? ⟨gb150, 0, none⟩ = some (.int .i64 ((rd_T41 l1 x26_1).f0)) := (blk_cell BK150.out 0).trans rfl
               have hcz51_1 : wr.cell? ⟨gb150, 1, none⟩ = some (.int .i64 ((rd_T41 l1 x26_1).f1)) := (blk_cell BK150.out 1).trans rfl
               have hcz51_2 : wr.cell? ⟨gb150, 2, none⟩ = some (.int .i64 ((rd_T41 l1 x26_1).f2)) := (blk_cell BK150.out 2).trans rfl
               have hfz51_0 := blk_frozen BK150.out 0
               have hfz51_1 := blk_frozen BK150.out 1
               have hfz51_2 := blk_frozen BK150.out 2
               have hnb52 := NB144_138.out
               have hnc52 := NB138_144.out
               have hnb53 := NB144_139.out
               have hnc53 := NB139_144.out
               have hcz54_0 : wr.cell? ⟨gb144, 0, none⟩ = some (.slice Ao30 t141.length co30) := (blk_cell BK144.out 0).trans rfl
               have hfz54_0 := blk_frozen BK144.out 0
               have p151 : 0 ≤ (x11_2 : Int) := of_decide_eq_true (by first | (with_reducible assumption) | assumption)
               have q151 : x11_2 < (t141.length : Int) := of_decide_eq_true (by first | (with_reducible assumption) | assumption)
               obtain ⟨ad151, e151, hx151_0⟩ := Kd.at_int (Kd.R_reads' HO_145000.out).2.2 x11_2 p151 q151
               cases e151
               replace p151 := eq_true p151
               replace q151 := eq_true q151
               go_wp2_with (first | ((with_reducible refine gate_builtin (b := .append) (xs := #[.tmp 47, .tmp 50]) rfl ?_); at_builtin; refine Kd.R_append k41 (w0 := w) w.heap.size rfl (.tmp 47) (.tmp 50) 32 41 (.agg #[(.int .i64 0), (.int .i64 0), (.int .i64 0)]) 24 rfl Try.underlying32 info41 rfl (by decide) (by omega) u8 x8_2 (⟨0, 1, x11_2⟩ : S41) [.int .i64 0, .int .i64 1, .int .i64 x11_2] (fun k_ => k_ ≠ gb150) (fun _ => False) rfl rfl ?aP (fun _ hk => hk.elim) ?aF ?aO ?aB ?aS ?aL ?_; (case aP => exact k41_mkM _ _ _ (⟨0, 1, x11_2⟩ : S41)); (case aB => exact (by repeat (first | (with_reducible first | exact HB.out | apply below_alloc | apply pw_below_drewN | apply below_drew1 | refine below_set ?_ GE138.out | refine below_set ?_ GE139.out | refine below_set ?_ GE144.out | refine below_set ?_ GE150.out) | exact HB.out))); (case aF => exact (fun k_ hk => Kd.freshB (g := gb150) (o := .cells #[.int .i64 ((rd_T41 l1 x26_1).f0), .int .i64 ((rd_T41 l1 x26_1).f1), .int .i64 ((rd_T41 l1 x26_1).f2)] 41 (0, 0)) (kU BK150.out) k_ hk)); (case aO => exact (rU HO_8.out)); (case aS => exact (below_size (by repeat (first | (with_reducible first | exact HB.out | apply below_alloc | apply pw_below_drewN | apply below_drew1 | refine below_set ?_ GE138.out | refine below_set ?_ GE139.out | refine below_set ?_ GE144.out | refine below_set ?_ GE150.out) | exact HB.out)))); (case aL => have := LMc47.out; omega); intro v153 w55 ho hb hg hat; rw [← Ny152.out] at ho; have n0_ := Aside0.mk (Kd.R_over' (rU HO_145000.out) (Kd.R_typed (rU HO_8.out)) (by decide) hg); have n1_ := Aside0.mk (blk_grown (g := gb138) (o := .cells #[.slice A0_0 l0_0.length c0_0] 27 (0, 0)) (kU BK138.out) hg (Kd.R_ne HO_8.out BK138.out (by decide))); have n2_ := Aside0.mk (blk_grown (g := gb139) (o := .cells #[.slice none 0 0] 27 (0, 0)) (kU BK139.out) hg (Kd.R_ne HO_8.out BK139.out (by decide))); have n3_ := Aside0.mk (blk_grown (g := gb144) (o := .cells #[.slice (some ad151) t141.length co30] 27 (0, 0)) (kU BK144.out) hg (Kd.R_ne HO_8.out BK144.out (by decide))); have n4_ := Aside0.mk (blk_grown (g := gb150) (o := .cells #[.int .i64 ((rd_T41 l1 x26_1).f0), .int .i64 ((rd_T41 l1 x26_1).f1), .int .i64 ((rd_T41 l1 x26_1).f2)] 41 (0, 0)) (kU BK150.out) hg (Kd.R_away HO_8.out (fun _ hk => hk))); have n5_ := Aside0.mk (hb); have n6_ := Aside0.mk (ho); clear HO_145000; clear BK138; clear BK139; clear BK144; clear BK150; clear HB; clear HO_8; have HO_145000 := n0_; have BK138 := n1_; have BK139 := n2_; have BK144 := n3_; have BK150 := n4_; have HB := n5_; have HO154 := n6_; clear n0_ n1_ n2_ n3_ n4_ n5_ n6_; clear ho hb hg hat))
               go_roundg k2
               case measure => have := HK1.out; have := HK2.out; omega
               case rel => exact ⟨(y152), (wrap64 (x11_2 + 1)), (by first | rfl | (simp; done) | (simp [*]; done)), H', ⟨by have := HK1.out; have := HK2.out; omega⟩, ⟨rU HO154.out⟩, ⟨rU HO_145000.out⟩, ⟨by (with_reducible repeat (first | refine blk_drewN ?_ _ | refine blk_drew ?_ | refine blk_alloc ?_ _)); exact BK138.out⟩, ⟨by (with_reducible repeat (first | refine blk_drewN ?_ _ | refine blk_drew ?_ | refine blk_alloc ?_ _)); exact BK139.out⟩, ⟨by (with_reducible repeat (first | refine blk_drewN ?_ _ | refine blk_drew ?_ | refine blk_alloc ?_ _)); exact BK144.out⟩, ⟨by (with_reducible repeat (first | refine blk_drewN ?_ _ | refine blk_drew ?_ | refine blk_alloc ?_ _)); exact BK150.out⟩, ⟨by repeat (first | (with_reducible first | exact HB.out | apply below_alloc | apply pw_below_drewN | apply below_drew1 | refine below_set ?_ GE138.out | refine below_set ?_ GE139.out | refine below_set ?_ GE144.out | refine below_set ?_ GE150.out) | exact HB.out)⟩⟩
              ·
               rw [if_neg c47] at H
               exact absurd H (by simp)
             ·
              rw [if_neg c46] at H
              have c46b0 : ((rd t141 x11_2) == 0) = false := beq_eq_false_iff_ne.mpr c46
              have c46b1 : ((rd t141 x11_2) != 0) = true := bne_iff_ne.mpr c46
              have H' := Aside0.mk H
              clear H
              have hnb56 := NB150_138.out
              have hnc56 := NB138_150.out
              have hnb57 := NB150_139.out
              have hnc57 := NB139_150.out
              have hnb58 := NB150_144.out
              have hnc58 := NB144_150.out
              have hcz59_0 : wr.cell? ⟨gb150, 0, none⟩ = some (.int .i64 ((rd_T41 l1 x26_1).f0)) := (blk_cell BK150.out 0).trans rfl
              have hcz59_1 : wr.cell? ⟨gb150, 1, none⟩ = some (.int .i64 ((rd_T41 l1 x26_1).f1)) := (blk_cell BK150.out 1).trans rfl
              have hcz59_2 : wr.cell? ⟨gb150, 2, none⟩ = some (.int .i64 ((rd_T41 l1 x26_1).f2)) := (blk_cell BK150.out 2).trans rfl
              have hfz59_0 := blk_frozen BK150.out 0
              have hfz59_1 := blk_frozen BK150.out 1
              have hfz59_2 := blk_frozen BK150.out 2
              have hnb60 := NB144_138.out
              have hnc60 := NB138_144.out
              have hnb61 := NB144_139.out
              have hnc61 := NB139_144.out
              have hcz62_0 : wr.cell? ⟨gb144, 0, none⟩ = some (.slice Ao30 t141.length co30) := (blk_cell BK144.out 0).trans rfl
              have hfz62_0 := blk_frozen BK144.out 0
              have p151 : 0 ≤ (x11_2 : Int) := of_decide_eq_true (by first | (with_reducible assumption) | assumption)
              have q151 : x11_2 < (t141.length : Int) := of_decide_eq_true (by first | (with_reducible assumption) | assumption)
              obtain ⟨ad151, e151, hx151_0⟩ := Kd.at_int (Kd.R_reads' HO_145000.out).2.2 x11_2 p151 q151
              cases e151
              replace p151 := eq_true p151
              replace q151 := eq_true q151
              go_wp2
              go_roundg k2
              case measure => have := HK1.out; have := HK2.out; omega
              case rel => exact ⟨(x8_2), (wrap64 (x11_2 + 1)), (by first | rfl | (simp; done) | (simp [*]; done)), H', ⟨by have := HK1.out; have := HK2.out; omega⟩, ⟨rU HO_8.out⟩, ⟨rU HO_145000.out⟩, ⟨by (with_reducible repeat (first | refine blk_drewN ?_ _ | refine blk_drew ?_ | refine blk_alloc ?_ _)); exact BK138.out⟩, ⟨by (with_reducible repeat (first | refine blk_drewN ?_ _ | refine blk_drew ?_ | refine blk_alloc ?_ _)); exact BK139.out⟩, ⟨by (with_reducible repeat (first | refine blk_drewN ?_ _ | refine blk_drew ?_ | refine blk_alloc ?_ _)); exact BK144.out⟩, ⟨by (with_reducible repeat (first | refine blk_drewN ?_ _ | refine blk_drew ?_ | refine blk_alloc ?_ _)); exact BK150.out⟩, ⟨by repeat (first | (with_reducible first | exact HB.out | apply below_alloc | apply pw_below_drewN | apply below_drew1 | refine below_set ?_ GE138.out | refine below_set ?_ GE139.out | refine below_set ?_ GE144.out | refine below_set ?_ GE150.out) | exact HB.out)⟩⟩
            ·
             rw [if_neg c45] at H
             exact absurd H (by simp)
           ·
            rw [if_neg c44] at H
            exact absurd H (by simp)
          ·
           rw [if_neg c43] at H
           have c43b0 := decide_eq_false c43
           clear c43
           have H' := Aside0.mk H
           clear H
           have hnb63 := NB150_138.out
           have hnc63 := NB138_150.out
           have hnb64 := NB150_139.out
           have hnc64 := NB139_150.out
           have hnb65 := NB150_144.out
           have hnc65 := NB144_150.out
           have hcz66_0 : wr.cell? ⟨gb150, 0, none⟩ = some (.int .i64 ((rd_T41 l1 x26_1).f0)) := (blk_cell BK150.out 0).trans rfl
           have hcz66_1 : wr.cell? ⟨gb150, 1, none⟩ = some (.int .i64 ((rd_T41 l1 x26_1).f1)) := (blk_cell BK150.out 1).trans rfl
           have hcz66_2 : wr.cell? ⟨gb150, 2, none⟩ = some (.int .i64 ((rd_T41 l1 x26_1).f2)) := (blk_cell BK150.out 2).trans rfl
           have hfz66_0 := blk_frozen BK150.out 0
           have hfz66_1 := blk_frozen BK150.out 1
           have hfz66_2 := blk_frozen BK150.out 2
           go_wp2
           go_roundg k2
           case measure => have := HK1.out; have := HK2.out; omega
           case rel => exact ⟨(x8_2), (wrap64 (x26_1 + 1)), (by first | rfl | (simp; done) | (simp [*]; done)), H', ⟨by have := HK1.out; have := HK2.out; omega⟩, ⟨by (with_reducible repeat (first | apply Kd.R_alloc | apply Kd.R_drewN | apply Kd.R_drew)); exact Kd.R_mono HO_8.out (fun _ hk => trivial)⟩, ⟨rU HO_145000.out⟩, ⟨by (with_reducible repeat (first | refine blk_drewN ?_ _ | refine blk_drew ?_ | refine blk_alloc ?_ _)); exact BK138.out⟩, ⟨by (with_reducible repeat (first | refine blk_drewN ?_ _ | refine blk_drew ?_ | refine blk_alloc ?_ _)); exact BK139.out⟩, ⟨by (with_reducible repeat (first | refine blk_drewN ?_ _ | refine blk_drew ?_ | refine blk_alloc ?_ _)); exact BK144.out⟩, ⟨by repeat (first | (with_reducible first | exact HB.out | apply below_alloc | apply pw_below_drewN | apply below_drew1 | refine below_set ?_ GE138.out | refine below_set ?_ GE139.out | refine below_set ?_ GE144.out | refine below_set ?_ GE150.out) | exact HB.out)⟩⟩
       ·
        rw [if_neg c37] at H
        exact absurd H (by simp)
      ·
       rw [if_neg c36] at H
       exact absurd H (by simp)
     ·
      rw [if_neg c35] at H
      have c35b0 := decide_eq_false c35
      clear c35
      replace H := Option.bind_eq_some_iff.mp H
      obtain ⟨t146, A670, H⟩ := H
      replace H : (some (t141, t146, 0)) = some (r1, r2, r3) := H
      have A67 := Aside0.mk A670
      clear A670
      simp only [Option.some.injEq, Prod.mk.injEq] at H
      obtain ⟨rfl, rfl, rfl⟩ := H
      try go_wp2
      have n0_ := Aside0.mk (Kd.R_drew HO_8.out)
      have n1_ := Aside0.mk (Kd.R_drew HO_145000.out)
      have n2_ := Aside0.mk (blk_drew BK138.out)
      have n3_ := Aside0.mk (blk_drew BK139.out)
      have n4_ := Aside0.mk (blk_drew BK144.out)
      have n5_ := Aside0.mk (below_drew1 HB.out)
      clear HO_8
      clear HO_145000
      clear BK138
      clear BK139
      clear BK144
      clear HB
      have HO_8 := n0_
      have HO_145000 := n1_
      have BK138 := n2_
      have BK139 := n3_
      have BK144 := n4_
      have HB := n5_
      clear n0_ n1_ n2_ n3_ n4_ n5_
      obtain ⟨Ao69, co69, eo69⟩ := Kd.R_slice HO_8.out
      (first | subst eo69 | (injection eo69 with f1_ f2_ f3_; have f4_ := f1_.symm; have f5_ := f3_.symm; clear f1_ f2_ f3_; subst f4_; subst f5_))
      refine start_ (n := 6) (S := fun w' => w'.cell? ⟨gb144, 0, none⟩ = some (.slice Ao30 t141.length co30)) (ds := []) #[false, false, false, false, false, false] (by kernel_rfl) rfl rfl ((blk_cell BK144.out 0).trans rfl) (fun hHeld => ?_)
      generalize wr.drew = w68 at HO_8 HO_145000 BK138 BK139 BK144 HB hHeld ⊢
      refine pure_ (i := 1) (N := some 54) (v := ?_) (a' := ?_) #[false, true, false, false, false, false] rfl rfl (by kernel_rfl) (fun _ _ _ h => h) (Or.inl ⟨by rfl, ?_⟩) ?_ ?_
      rotate_left
      ·
       intro w'; go_simp; with_reducible rfl
      rotate_left
      ·
       simp only [AP]; rfl
      refine take_ (i := 0) (N := some 53) (v := ?_) (a' := ?_) #[true, true, false, false, false, false] rfl rfl (by kernel_rfl) (fun _ _ _ h => h) (Or.inl ⟨by rfl, ?_⟩) hHeld ?_ ?_
      rotate_left
      ·
       intro w' s0
       go_simp; with_reducible rfl
      rotate_left
      ·
       simp only [AP]; rfl
      refine one_ (i := 2) (N := some 55) #[true, true, true, false, false, false] rfl rfl (by kernel_rfl) (by decide) (fun K hK => ?_)
      refine goes_ Try.func34 (by kernel_rfl) rfl #[.slice Ao69 x8_1.length co69] (by rfl) rfl rfl (by (try simp only [List.map_toArray, List.map_cons, List.map_nil]); first | done | rfl | (simp only [List.length_drop, List.length_take]; rfl)) ?_
      with_reducible refine (extent_Runs.calls k1 _ _ x8_1 t146 _ ?side1 ?side2 A67.out).mono ?_
      (case side1 => repeat (first | exact (Kd.R_reads' HO_8.out).2.2 | (with_reducible refine Kd.C_alloc ?_ _) | (with_reducible refine Kd.C_drewN ?_ _) | (with_reducible refine Kd.C_drew ?_)))
      (case side2 => exact (Kd.R_reads' HO_8.out).2.1)
      rintro e w70 ⟨v147, rfl, ho0, hb⟩
      refine ⟨_, rfl, ?_⟩
      have n0_ := Aside0.mk (Kd.R_elder' (rU HO_8.out) (Kd.R_base ho0) hb)
      have n1_ := Aside0.mk (Kd.R_below (rU HO_145000.out) hb)
      have n2_ := Aside0.mk (Kd.R_lower (Kd.R_new' ho0 (Kd.R_lt (rU HO_8.out))) (below_size (by repeat (first | (with_reducible first | exact HB.out | apply below_alloc | apply pw_below_drewN | apply below_drew1 | refine below_set ?_ GE138.out | refine below_set ?_ GE139.out | refine below_set ?_ GE144.out) | exact HB.out))))
      have n3_ := Aside0.mk (blk_below (g := gb138) (o := .cells #[.slice A0_0 l0_0.length c0_0] 27 (0, 0)) (kU BK138.out) hb)
      have n4_ := Aside0.mk (blk_below (g := gb139) (o := .cells #[.slice none 0 0] 27 (0, 0)) (kU BK139.out) hb)
      have n5_ := Aside0.mk (blk_below (g := gb144) (o := .cells #[.slice Ao30 t141.length co30] 27 (0, 0)) (kU BK144.out) hb)
      have n6_ := Aside0.mk (below_step (by repeat (first | (with_reducible first | exact HB.out | apply below_alloc | apply pw_below_drewN | apply below_drew1 | refine below_set ?_ GE138.out | refine below_set ?_ GE139.out | refine below_set ?_ GE144.out) | exact HB.out)) hb)
      clear HO_8
      clear HO_145000
      clear BK138
      clear BK139
      clear BK144
      clear HB
      have HO_8 := n0_
      have HO_145000 := n1_
      have HO148 := n2_
      have BK138 := n3_
      have BK139 := n4_
      have BK144 := n5_
      have HB := n6_
      clear n0_ n1_ n2_ n3_ n4_ n5_ n6_
      (try clear hb)
      (try clear hb2)
      (try clear hk)
      (try clear hi)
      (try clear ho0)
      refine hK.out _ _ ((blk_cell BK144.out 0).trans rfl) (fun hHeld => ?_)
      clear hK K
      refine norm_ (a' := ?_) ?_ ?_
      rotate_left
      ·
       show Act.put _ (some 55) _ = _
       simp only [AP]; rfl
      refine one_ (i := 3) (N := none) #[true, true, true, true, false, false] rfl rfl (by kernel_rfl) (by decide) (fun K hK => ?_)
      have hs71 : w70.cell? ⟨gb139, 0, none⟩ = some (.slice none 0 0) := (blk_cell BK139.out 0).trans rfl
      have hfs71 := blk_frozen BK139.out 0
      have hns71_0 := NB138_139.out
      have hns71_2 := NB144_139.out
      have hms71_0 := NB139_138.out
      have hms71_2 := NB139_144.out
      refine skip_ (w1 := ?_) (by rfl) rfl ?_ ?_
      rotate_left
      ·
       go_simp; rfl
      refine hK.out _ _ (((cell_far (p := ⟨gb139, _, none⟩) NB144_139.out _).trans (hHeld))) (fun hHeld => ?_)
      clear hK K
      refine pure_ (i := 4) (N := some 5) (v := ?_) (a' := ?_) #[true, true, true, true, true, false] rfl rfl (by kernel_rfl) (fun _ _ _ h => h) (Or.inl ⟨by rfl, ?_⟩) ?_ ?_
      rotate_left
      ·
       intro w'; go_simp; with_reducible rfl
      rotate_left
      ·
       simp only [AP]; rfl
      refine pure_ (i := 5) (N := some 6) (v := ?_) (a' := ?_) #[true, true, true, true, true, true] rfl rfl (by kernel_rfl) (fun _ _ _ h => h) (Or.inl ⟨by rfl, ?_⟩) ?_ ?_
      rotate_left
      ·
       intro w'; go_simp; with_reducible rfl
      rotate_left
      ·
       simp only [AP]; rfl
      refine done_ (by kernel_rfl) ?_
      try go_wp2
      refine bodyPost_ret (results_ctt rfl _ _ gb139 27 #[.slice Ao30 t141.length co30] (0, 0) _ rfl (by (with_reducible repeat (first | refine blk_drewN ?_ _ | refine blk_drew ?_ | refine blk_alloc ?_ _)); refine blk_put (cs := #[.slice none 0 0]) ?_ 0 _ rfl; (with_reducible repeat (first | refine blk_drewN ?_ _ | refine blk_drew ?_ | refine blk_alloc ?_ _)); exact BK139.out) Try.underlying27 rfl (by kernel_rfl)) rfl ?_
      exact ⟨_, _, by first | rfl | (simp [errW_none, errW_some] <;> rfl) | (simp [*, errW_none, errW_some] <;> rfl), by (with_reducible repeat (first | apply Kd.R_alloc | apply Kd.R_drewN | apply Kd.R_drew)); exact Kd.R_mono (Kd.R_far (p := ⟨gb139, 0, none⟩) (Kd.R_types HO_145000.out BK139.out (by decide)) (fun _ hk => hk.2) (.slice Ao30 t141.length co30)) (fun _ hk => trivial), by (with_reducible repeat (first | apply Kd.R_alloc | apply Kd.R_drewN | apply Kd.R_drew)); exact Kd.R_mono (Kd.R_far (p := ⟨gb139, 0, none⟩) (Kd.R_types HO148.out BK139.out (by decide)) (fun _ hk => hk.2) (.slice Ao30 t141.length co30)) (fun _ hk => trivial), by repeat (first | (with_reducible first | exact HB.out | apply below_alloc | apply pw_below_drewN | apply below_drew1 | refine below_set ?_ GE138.out | refine below_set ?_ GE139.out | refine below_set ?_ GE144.out) | exact HB.out)⟩
 ·
  replace c4 := Bool.eq_false_iff.mpr c4
  subst c4
  have H1 : (some (([] : List Int), ([] : List (S41)), 2)) = some (r1, r2, r3) := by rw [if_neg (show ¬ (false = true) by decide)] at H; exact H
  clear H
  have H := H1
  clear H1
  simp only [Option.some.injEq, Prod.mk.injEq] at H
  obtain ⟨rfl, rfl, rfl⟩ := H
  go_enter Try.func14, Try.ntmps14
  go_wp2_with (first | ((with_reducible refine gate_dst (N := 2) rfl ?_); refine box_event ?hg (N := 2) ?hd (cs := #[.slice A0_0 l0_0.length c0_0]) (t := 27) ?hr ?_; (case hd => rfl); (case hg => rfl); (case hr => first | (go_simp; done) | (go_simp; rfl)); intro gb138 hg w72 hbox hb; have BK138 := Aside0.mk (hbox); have GW138 := Aside0.mk ((by rw [hg]; exact (below_size (bU HB.out)) : w.heap.size ≤ gb138)); have GE138 := Aside0.mk ((by rw [hg]; exact (below_size (bU HB.out)) : w.heap.size ≤ gb138)); replace HB := Aside0.mk (below_step (bU HB.out) hb); clear hb hbox hg) | ((with_reducible refine gate_dst (N := 4) rfl ?_); refine box_event ?hg (N := 4) ?hd (cs := #[.slice none 0 0]) (t := 27) ?hr ?_; (case hd => rfl); (case hg => rfl); (case hr => first | (go_simp; done) | (go_simp; rfl)); intro gb139 hg w73 hbox hb; have BK139 := Aside0.mk (hbox); have GW139 := Aside0.mk ((by rw [hg]; exact (below_size (by repeat (first | (with_reducible first | exact HB.out | apply below_alloc | apply pw_below_drewN | apply below_drew1 | refine below_set ?_ GE138.out) | exact HB.out))) : w.heap.size ≤ gb139)); have GE139 := Aside0.mk ((by rw [hg]; exact (below_size (by repeat (first | (with_reducible first | exact HB.out | apply below_alloc | apply pw_below_drewN | apply below_drew1 | refine below_set ?_ GE138.out) | exact HB.out))) : w.heap.size ≤ gb139)); replace HB := Aside0.mk (below_step (by repeat (first | (with_reducible first | exact HB.out | apply below_alloc | apply pw_below_drewN | apply below_drew1 | refine below_set ?_ GE138.out) | exact HB.out)) hb); have NB138_139 := Aside0.mk ((by rw [hg]; exact Nat.ne_of_lt (blk_lt (g := gb138) (o := .cells #[.slice A0_0 l0_0.length c0_0] 27 (0, 0)) (kU BK138.out)) : gb138 ≠ gb139)); have NB139_138 := Aside0.mk ((by rw [hg]; exact Nat.ne_of_gt (blk_lt (g := gb138) (o := .cells #[.slice A0_0 l0_0.length c0_0] 27 (0, 0)) (kU BK138.out)) : gb139 ≠ gb138)); replace BK138 := Aside0.mk (blk_below (g := gb138) (o := .cells #[.slice A0_0 l0_0.length c0_0] 27 (0, 0)) (kU BK138.out) hb); clear hb hbox hg; have hnb74 := NB138_139.out; have hnc74 := NB139_138.out; have hcz75_0 : w73.cell? ⟨gb138, 0, none⟩ = some (.slice A0_0 l0_0.length c0_0) := (blk_cell BK138.out 0).trans rfl; have hfz75_0 := blk_frozen BK138.out 0) | ((with_reducible refine gate_callee (f := 28) rfl ?_); refine goesL_ (some 14) rfl rfl Try.func28 (by kernel_rfl) rfl #[.agg #[.slice A0_0 l0_0.length c0_0], .slice A1 l1.length c1] rfl (by (try simp only [List.map_toArray, List.map_cons, List.map_nil]); first | done | rfl | (simp only [List.length_drop, List.length_take]; rfl)) ?_; (with_reducible refine (refcount_Counts_permitted.calls _ _ l0_0 _ _ l1 false _ ?side1 ?side2 ?side3 ?side4 A3.out).mono ?_); (case side1 => exact cU (Kd.C_below HR0_0.out HB.out)); (case side2 => exact HC0_0.out); (case side3 => exact cU (Kd.C_below HR1.out HB.out)); (case side4 => exact HC1.out); rintro e w76 ⟨rfl, hb⟩; refine ⟨_, rfl, ?_⟩; replace BK138 := Aside0.mk (blk_below (g := gb138) (o := .cells #[.slice A0_0 l0_0.length c0_0] 27 (0, 0)) (kU BK138.out) hb); replace BK139 := Aside0.mk (blk_below (g := gb139) (o := .cells #[.slice none 0 0] 27 (0, 0)) (kU BK139.out) hb); replace HB := Aside0.mk (below_step (by repeat (first | (with_reducible first | exact HB.out | apply below_alloc | apply pw_below_drewN | apply below_drew1 | refine below_set ?_ GE138.out | refine below_set ?_ GE139.out) | exact HB.out)) hb); (try clear hb); have hcz77_0 : w76.cell? ⟨gb139, 0, none⟩ = some (.slice none 0 0) := (blk_cell BK139.out 0).trans rfl; have hfz77_0 := blk_frozen BK139.out 0))
  refine bodyPost_ret (results_ctt rfl _ _ gb139 27 #[.slice none 0 0] (0, 0) _ rfl (by (with_reducible repeat (first | refine blk_drewN ?_ _ | refine blk_drew ?_ | refine blk_alloc ?_ _)); refine blk_put (cs := #[.slice none 0 0]) ?_ 0 _ rfl; (with_reducible repeat (first | refine blk_drewN ?_ _ | refine blk_drew ?_ | refine blk_alloc ?_ _)); exact BK139.out) Try.underlying27 rfl (by kernel_rfl)) rfl ?_
  exact ⟨_, _, by first | rfl | (simp [errW_none, errW_some] <;> rfl) | (simp [*, errW_none, errW_some] <;> rfl), by first | exact Kd.R_nil _ _ _ _ _ | exact Kd.N_nil _ _ _ _ _ | exact Kd.V_nil _ _ _ _ _ | exact Kd.Q_nil _ _ _ _ _ | exact Kd.S_nil _ _ _ _ _, by first | exact Kd.R_nil _ _ _ _ _ | exact Kd.N_nil _ _ _ _ _ | exact Kd.V_nil _ _ _ _ _ | exact Kd.Q_nil _ _ _ _ _ | exact Kd.S_nil _ _ _ _ _, by repeat (first | (with_reducible first | exact HB.out | apply below_alloc | apply pw_below_drewN | apply below_drew1 | refine below_set ?_ GE138.out | refine below_set ?_ GE139.out) | exact HB.out)⟩

/-! ### tegularef32_Same: function 16 -/
def tegularef32_Same.l0 : Nat → List (S41) → List (S41) → Int → Option (Bool)
 | 0, _, _, _ => none
 | k + 1, x0, x1, x5 => if x5 < (x0.length : Int) then (if 0 ≤ x5 then (if x5 < (x1.length : Int) then (if (!(((rd_T41 x0 x5).f0) == ((rd_T41 x1 x5).f0)) || (!(((rd_T41 x0 x5).f1) == ((rd_T41 x1 x5).f1)) || (!(((rd_T41 x0 x5).f2) == ((rd_T41 x1 x5).f2))))) = true then (some false) else (tegularef32_Same.l0 k x0 x1 (wrap64 (x5 + 1)))) else (none)) else (none)) else (some true)
def tegularef32_Same.f (k : Nat) (l0 : List (S41)) (l1 : List (S41)) : Option (Bool) := if (l0.length : Int) = (l1.length : Int) then (tegularef32_Same.l0 k l0 l1 0) else (some false)
theorem tegularef32_Same.mono_l : ∀ k, (∀ y0 y1 y2, LeO (tegularef32_Same.l0 k y0 y1 y2) (tegularef32_Same.l0 (k + 1) y0 y1 y2))
 | 0 => fun _ _ _ r h => by simp [tegularef32_Same.l0] at h
 | k + 1 => by
  have ih0 := tegularef32_Same.mono_l k
  ·
   intro y0 y1 y2
   unfold tegularef32_Same.l0
   repeat' first
   | (with_reducible exact ih0 _ _ _)
   | (with_reducible exact LeO.refl _)
   | (with_reducible exact LeO.none _)
   | (with_reducible refine LeO.ite ?_ ?_)
   | (with_reducible refine LeO.bind ?_ (fun _ => ?_))
   | exact ih0 _ _ _
   | exact LeO.none _
   | refine LeO.ite ?_ ?_
   | refine LeO.bind ?_ (fun _ => ?_)
theorem tegularef32_Same.mono : ∀ a0 a1 k, LeO (tegularef32_Same.f k a0 a1) (tegularef32_Same.f (k + 1) a0 a1) := by
 intro a0 a1 k
 have ih0 := tegularef32_Same.mono_l k
 unfold tegularef32_Same.f
 repeat' first
   | (with_reducible exact ih0 _ _ _)
   | (with_reducible exact LeO.refl _)
   | (with_reducible exact LeO.none _)
   | (with_reducible refine LeO.ite ?_ ?_)
   | (with_reducible refine LeO.bind ?_ (fun _ => ?_))
   | exact ih0 _ _ _
   | exact LeO.none _
   | refine LeO.ite ?_ ?_
   | refine LeO.bind ?_ (fun _ => ?_)
set_option maxHeartbeats 8000000 in
set_option maxRecDepth 100000 in
theorem tegularef32_Same.calls (k : Nat) (A0 : Option Addr) (c0 : Nat) (l0 : List (S41)) (A1 : Option Addr) (c1 : Nat) (l1 : List (S41)) (r : Bool) (w : World) (hr0 : Kd.C k41 w A0 l0.length l0) (hc0 : l0.length ≤ c0) (hr1 : Kd.C k41 w A1 l1.length l1) (hc1 : l1.length ≤ c1) (h : tegularef32_Same.f k l0 l1 = some r) :
  Calls Try.prog 16 #[.slice A0 l0.length c0, .slice A1 l1.length c1] w fun e w' => e = .returned (.bool r) ∧ Drawn0 w w' := by
 have hu41 := Try.underlying41
 have HR0 := Aside0.mk hr0
 have HC0 := Aside0.mk hc0
 clear hr0 hc0
 have HR1 := Aside0.mk hr1
 have HC1 := Aside0.mk hc1
 clear hr1 hc1
 have H : (if (l0.length : Int) = (l1.length : Int) then (tegularef32_Same.l0 k l0 l1 0) else (some false)) = some r := h
 clear h
 by_cases c3 : (l0.length : Int) = (l1.length : Int)
 ·
  rw [if_pos c3] at H
  have c3b0 : ((l0.length : Int) == (l1.length : Int)) = true := beq_iff_eq.mpr c3
  have c3b1 : ((l0.length : Int) != (l1.length : Int)) = false := bne_eq_false_iff_eq.mpr c3
  have c3b2 : (l0.length == l1.length) = true := by first | simpa using c3 | (simp at c3 ⊢; omega)
  clear c3
  have H' := Aside0.mk H
  clear H
  go_enter Try.func16, Try.ntmps16
  go_wp2
  repeat (go_quiet (fail); try go_wp2)
  go_loopg [5] k (fun kq v5 w' => ∃ (x5_1 : Int), v5 = .int .i64 x5_1 ∧ Aside0 (tegularef32_Same.l0 kq l0 l1 x5_1 = some r) ∧ Aside0 (kq ≤ k) ∧ Drawn0 w w')
  case atStart => exact ⟨(0), (by first | rfl | (simp; done) | (simp [*]; done)), H', ⟨Nat.le_refl _⟩, by repeat (first | exact Drawn0.refl _ | apply Drawn0.step)⟩
  case round =>
   clear H'
   try clear c1
   try clear p2
   try clear c3
   try clear c3b0
   try clear c3b1
   try clear c3b2
   obtain ⟨x5_1, rfl, HA, HK1, ⟨m1, rfl⟩⟩ := hrel
   cases gk with
   | zero => exact absurd HA.out (by simp [tegularef32_Same.l0])
   | succ k1 =>
    have H := HA.out
    clear HA
    simp only [tegularef32_Same.l0] at H
    by_cases c4 : x5_1 < (l0.length : Int)
    ·
     rw [if_pos c4] at H
     have c4b0 := decide_eq_true c4
     clear c4
     by_cases c5 : 0 ≤ x5_1
     ·
      rw [if_pos c5] at H
      have c5b0 := decide_eq_true c5
      clear c5
      by_cases c6 : x5_1 < (l1.length : Int)
      ·
       rw [if_pos c6] at H
       have c6b0 := decide_eq_true c6
       clear c6
       by_cases c7 : (!(((rd_T41 l0 x5_1).f0) == ((rd_T41 l1 x5_1).f0)) || (!(((rd_T41 l0 x5_1).f1) == ((rd_T41 l1 x5_1).f1)) || (!(((rd_T41 l0 x5_1).f2) == ((rd_T41 l1 x5_1).f2))))) = true
       ·
        rw [if_pos c7] at H
        have c7b0 : (!(((rd_T41 l0 x5_1).f0) == ((rd_T41 l1 x5_1).f0)) || (!(((rd_T41 l0 x5_1).f1) == ((rd_T41 l1 x5_1).f1)) || (!(((rd_T41 l0 x5_1).f2) == ((rd_T41 l1 x5_1).f2))))) = true := c7
        clear c7
        obtain rfl := Option.some.inj H
        have p155 : 0 ≤ (x5_1 : Int) := of_decide_eq_true (by first | (with_reducible assumption) | assumption)
        have q155 : x5_1 < (l0.length : Int) := of_decide_eq_true (by first | (with_reducible assumption) | assumption)
        obtain ⟨ad155, e155, hx155_0, hx155_1, hx155_2⟩ := at_T41 HR0.out x5_1 p155 q155
        cases e155
        replace p155 := eq_true p155
        replace q155 := eq_true q155
        have p156 : 0 ≤ (x5_1 : Int) := of_decide_eq_true (by first | (with_reducible assumption) | assumption)
        have q156 : x5_1 < (l1.length : Int) := of_decide_eq_true (by first | (with_reducible assumption) | assumption)
        obtain ⟨ad156, e156, hx156_0, hx156_1, hx156_2⟩ := at_T41 HR1.out x5_1 p156 q156
        cases e156
        replace p156 := eq_true p156
        replace q156 := eq_true q156
        go_wp2
        repeat (go_quiet (fail); try go_wp2)
        go_ret
        exact ⟨by first | rfl | (simp; done) | (simp [*]; done), by repeat (first | exact Drawn0.refl _ | apply Drawn0.step)⟩
       ·
        rw [if_neg c7] at H
        have c7b0 : (!(((rd_T41 l0 x5_1).f0) == ((rd_T41 l1 x5_1).f0)) || (!(((rd_T41 l0 x5_1).f1) == ((rd_T41 l1 x5_1).f1)) || (!(((rd_T41 l0 x5_1).f2) == ((rd_T41 l1 x5_1).f2))))) = false := by simpa using c7
        clear c7
        have H' := Aside0.mk H
        clear H
        have p155 : 0 ≤ (x5_1 : Int) := of_decide_eq_true (by first | (with_reducible assumption) | assumption)
        have q155 : x5_1 < (l0.length : Int) := of_decide_eq_true (by first | (with_reducible assumption) | assumption)
        obtain ⟨ad155, e155, hx155_0, hx155_1, hx155_2⟩ := at_T41 HR0.out x5_1 p155 q155
        cases e155
        replace p155 := eq_true p155
        replace q155 := eq_true q155
        have p156 : 0 ≤ (x5_1 : Int) := of_decide_eq_true (by first | (with_reducible assumption) | assumption)
        have q156 : x5_1 < (l1.length : Int) := of_decide_eq_true (by first | (with_reducible assumption) | assumption)
        obtain ⟨ad156, e156, hx156_0, hx156_1, hx156_2⟩ := at_T41 HR1.out x5_1 p156 q156
        cases e156
        replace p156 := eq_true p156
        replace q156 := eq_true q156
        go_wp2
        repeat (go_quiet (fail); try go_wp2)
        go_roundg k1
        case measure => have := HK1.out; omega
        case rel => exact ⟨(wrap64 (x5_1 + 1)), (by first | rfl | (simp; done) | (simp [*]; done)), H', ⟨by have := HK1.out; omega⟩, by repeat (first | exact Drawn0.refl _ | apply Drawn0.step)⟩
      ·
       rw [if_neg c6] at H
       exact absurd H (by simp)
     ·
      rw [if_neg c5] at H
      exact absurd H (by simp)
    ·
     rw [if_neg c4] at H
     have c4b0 := decide_eq_false c4
     clear c4
     obtain rfl := Option.some.inj H
     go_wp2
     repeat (go_quiet (fail); try go_wp2)
     go_ret
     exact ⟨by first | rfl | (simp; done) | (simp [*]; done), by repeat (first | exact Drawn0.refl _ | apply Drawn0.step)⟩
 ·
  rw [if_neg c3] at H
  have c3b0 : ((l0.length : Int) == (l1.length : Int)) = false := beq_eq_false_iff_ne.mpr c3
  have c3b1 : ((l0.length : Int) != (l1.length : Int)) = true := bne_iff_ne.mpr c3
  have c3b2 : (l0.length == l1.length) = false := by first | simpa using c3 | (simp at c3 ⊢; omega)
  obtain rfl := Option.some.inj H
  go_enter Try.func16, Try.ntmps16
  go_wp2
  repeat (go_quiet (fail); try go_wp2)
  go_ret
  exact ⟨by first | rfl | (simp; done) | (simp [*]; done), by repeat (first | exact Drawn0.refl _ | apply Drawn0.step)⟩

-- NOT PRINTED: function 40 (refcount_fold_int_int)

-- MAKES
def stpTotal (n x : Int) : Int := wrap64 (n + x)
set_option maxHeartbeats 1000000 in
theorem Total_step (r x : Int) (w : World) : Calls Try.prog 41 #[.int .i64 r, .int .i64 x] w fun e w' => e = .returned (.int .i64 (stpTotal r x)) ∧ Below w.heap.size w w' := by
 go_enter Try.func41, Try.ntmps41
 go_wp2_with fail
 all_goals go_ret
 all_goals refine ⟨?_, Below.refl _ _⟩
 all_goals first | rfl | (simp only [stpTotal, mn]; first | (rw [if_pos (by omega)]; rfl) | (rw [if_neg (by omega)]; rfl))
set_option maxHeartbeats 2000000 in
theorem Total_fold (A : Option Addr) (c : Nat) (l : List Int) (w : World) (hC : Kd.C (Kd.int .i64) w A l.length l) (hl : l.length ≤ 1000000000) :
  Calls Try.prog 40 #[.slice A l.length c, .int .i64 0, .func (.func 41) #[] #[]] w fun e w' => e = .returned (.int .i64 (l.foldl stpTotal 0)) ∧ Below w.heap.size w w' := by
 have HC := Aside0.mk hC
 clear hC
 obtain ⟨n, hn⟩ : ∃ n, n = l.length := ⟨_, rfl⟩
 rw [← hn] at hl ⊢
 have HN := Aside0.mk hn
 clear hn
 go_enter Try.func40, Try.ntmps40
 go_wp2
 go_loopg [1, 8, 11] n (fun gg v1 _ v11 wr => ∃ kk : Nat, kk ≤ n ∧ n - kk ≤ gg ∧ v1 = .int .i64 ((l.take kk).foldl stpTotal 0) ∧ v11 = .int .i64 kk ∧ Aside0 (Below w.heap.size w wr))
 case atStart => exact ⟨0, Nat.zero_le _, by omega, rfl, rfl, ⟨Below.refl _ w⟩⟩
 case round =>
  obtain ⟨kk, hkk, hg, rfl, rfl, BW⟩ := hrel
  by_cases hlt : kk < n
  ·
   have hltz : (kk : Int) < (n : Int) := by omega
   have hkl : kk < l.length := by rw [← HN.out]; exact hlt
   have hC1 := Kd.C_below HC.out BW.out
   obtain ⟨ad, e, hx0⟩ := Kd.at_int hC1 (kk : Int) (by omega) (by omega)
   cases e
   have htk : (l.take (kk + 1)).foldl stpTotal 0 = stpTotal ((l.take kk).foldl stpTotal 0) (rd l kk) := by
    rw [List.take_succ_eq_append_getElem hkl, List.foldl_append]
    simp [rd, List.getD_eq_getElem?_getD, List.getElem?_eq_getElem hkl]
   clear hC1
   replace hx0 : wr.cell? (ad.add kk) = some (.int .i64 (rd l kk)) := by simpa using hx0
   generalize rd l kk = y at hx0 htk
   generalize (l.take kk).foldl stpTotal 0 = r at htk ⊢
   have hcall := Total_step r y wr
   have HTK := Aside0.mk htk
   clear htk
   go_wp2_with fail
   refine hcall.mono ?_
   clear hcall hx0
   rintro e w' ⟨rfl, hb'⟩
   have HBB := Aside0.mk hb'
   clear hb'
   go_wp2_with fail
   go_roundg (n - (kk + 1))
   case measure => omega
   case rel => exact ⟨kk + 1, by omega, by omega, by rw [HTK.out], by go_num, ⟨BW.out.trans (HBB.out.mono BW.out.size)⟩⟩
  ·
   have hkn : kk = n := by omega
   subst hkn
   have htk : (l.take kk).foldl stpTotal 0 = l.foldl stpTotal 0 := by rw [HN.out, List.take_length]
   rw [htk]
   go_wp2
   go_ret
   exact ⟨rfl, BW.out⟩
def refcount_Counts_Total.f (l : List Int) : Option Int := if l.length ≤ 1000000000 then some (l.foldl stpTotal 0) else none
set_option maxHeartbeats 1000000 in
theorem refcount_Counts_Total.calls (A0_0 : Option Addr) (c0_0 : Nat) (l0_0 : List Int) (r : Int) (w : World) (hr0_0 : Kd.C (Kd.int .i64) w A0_0 l0_0.length l0_0) (hc0_0 : l0_0.length ≤ c0_0) (h : refcount_Counts_Total.f l0_0 = some r) :
  Calls Try.prog 19 #[.agg #[.slice A0_0 l0_0.length c0_0]] w fun e w' => e = .returned (.int .i64 r) ∧ Below w.heap.size w w' := by
 unfold refcount_Counts_Total.f at h
 split at h
 ·
  rename_i hl
  obtain rfl := Option.some.inj h
  have hu27 := Try.underlying27
  have HH := Aside0.mk (fun w1 h1 => Total_fold A0_0 c0_0 l0_0 w1 h1 hl)
  have HC := Aside0.mk hr0_0
  clear hr0_0 h hl
  go_enter Try.func19, Try.ntmps19
  go_wp2_with fail
  refine (HH.out _ ?_).mono ?_
  ·
   first | exact HC.out | exact Kd.C_alloc HC.out _
  rintro e w1 ⟨rfl, hb⟩
  have HB := Aside0.mk hb
  clear hb
  go_wp2_with fail
  go_ret
  exact ⟨rfl, by first | exact HB.out | exact ((Below.refl _ _).alloc (Nat.le_refl _) _).trans (HB.out.mono (by simp))⟩
 ·
  cases h

-- MAKES
def stpUsed (n x : Int) : Int := wrap64 (n + mn x 1)
set_option maxHeartbeats 1000000 in
theorem Used_step (r x : Int) (w : World) : Calls Try.prog 42 #[.int .i64 r, .int .i64 x] w fun e w' => e = .returned (.int .i64 (stpUsed r x)) ∧ Below w.heap.size w w' := by
 go_enter Try.func42, Try.ntmps42
 go_wp2_with fail
 all_goals go_ret
 all_goals refine ⟨?_, Below.refl _ _⟩
 all_goals first | rfl | (simp only [stpUsed, mn]; first | (rw [if_pos (by omega)]; rfl) | (rw [if_neg (by omega)]; rfl))
set_option maxHeartbeats 2000000 in
theorem Used_fold (A : Option Addr) (c : Nat) (l : List Int) (w : World) (hC : Kd.C (Kd.int .i64) w A l.length l) (hl : l.length ≤ 1000000000) :
  Calls Try.prog 40 #[.slice A l.length c, .int .i64 0, .func (.func 42) #[] #[]] w fun e w' => e = .returned (.int .i64 (l.foldl stpUsed 0)) ∧ Below w.heap.size w w' := by
 have HC := Aside0.mk hC
 clear hC
 obtain ⟨n, hn⟩ : ∃ n, n = l.length := ⟨_, rfl⟩
 rw [← hn] at hl ⊢
 have HN := Aside0.mk hn
 clear hn
 go_enter Try.func40, Try.ntmps40
 go_wp2
 go_loopg [1, 8, 11] n (fun gg v1 _ v11 wr => ∃ kk : Nat, kk ≤ n ∧ n - kk ≤ gg ∧ v1 = .int .i64 ((l.take kk).foldl stpUsed 0) ∧ v11 = .int .i64 kk ∧ Aside0 (Below w.heap.size w wr))
 case atStart => exact ⟨0, Nat.zero_le _, by omega, rfl, rfl, ⟨Below.refl _ w⟩⟩
 case round =>
  obtain ⟨kk, hkk, hg, rfl, rfl, BW⟩ := hrel
  by_cases hlt : kk < n
  ·
   have hltz : (kk : Int) < (n : Int) := by omega
   have hkl : kk < l.length := by rw [← HN.out]; exact hlt
   have hC1 := Kd.C_below HC.out BW.out
   obtain ⟨ad, e, hx0⟩ := Kd.at_int hC1 (kk : Int) (by omega) (by omega)
   cases e
   have htk : (l.take (kk + 1)).foldl stpUsed 0 = stpUsed ((l.take kk).foldl stpUsed 0) (rd l kk) := by
    rw [List.take_succ_eq_append_getElem hkl, List.foldl_append]
    simp [rd, List.getD_eq_getElem?_getD, List.getElem?_eq_getElem hkl]
   clear hC1
   replace hx0 : wr.cell? (ad.add kk) = some (.int .i64 (rd l kk)) := by simpa using hx0
   generalize rd l kk = y at hx0 htk
   generalize (l.take kk).foldl stpUsed 0 = r at htk ⊢
   have hcall := Used_step r y wr
   have HTK := Aside0.mk htk
   clear htk
   go_wp2_with fail
   refine hcall.mono ?_
   clear hcall hx0
   rintro e w' ⟨rfl, hb'⟩
   have HBB := Aside0.mk hb'
   clear hb'
   go_wp2_with fail
   go_roundg (n - (kk + 1))
   case measure => omega
   case rel => exact ⟨kk + 1, by omega, by omega, by rw [HTK.out], by go_num, ⟨BW.out.trans (HBB.out.mono BW.out.size)⟩⟩
  ·
   have hkn : kk = n := by omega
   subst hkn
   have htk : (l.take kk).foldl stpUsed 0 = l.foldl stpUsed 0 := by rw [HN.out, List.take_length]
   rw [htk]
   go_wp2
   go_ret
   exact ⟨rfl, BW.out⟩
def refcount_Counts_Used.f (l : List Int) : Option Int := if l.length ≤ 1000000000 then some (l.foldl stpUsed 0) else none
set_option maxHeartbeats 1000000 in
theorem refcount_Counts_Used.calls (A0_0 : Option Addr) (c0_0 : Nat) (l0_0 : List Int) (r : Int) (w : World) (hr0_0 : Kd.C (Kd.int .i64) w A0_0 l0_0.length l0_0) (hc0_0 : l0_0.length ≤ c0_0) (h : refcount_Counts_Used.f l0_0 = some r) :
  Calls Try.prog 20 #[.agg #[.slice A0_0 l0_0.length c0_0]] w fun e w' => e = .returned (.int .i64 r) ∧ Below w.heap.size w w' := by
 unfold refcount_Counts_Used.f at h
 split at h
 ·
  rename_i hl
  obtain rfl := Option.some.inj h
  have hu27 := Try.underlying27
  have HH := Aside0.mk (fun w1 h1 => Used_fold A0_0 c0_0 l0_0 w1 h1 hl)
  have HC := Aside0.mk hr0_0
  clear hr0_0 h hl
  go_enter Try.func20, Try.ntmps20
  go_wp2_with fail
  refine (HH.out _ ?_).mono ?_
  ·
   first | exact HC.out | exact Kd.C_alloc HC.out _
  rintro e w1 ⟨rfl, hb⟩
  have HB := Aside0.mk hb
  clear hb
  go_wp2_with fail
  go_ret
  exact ⟨rfl, by first | exact HB.out | exact ((Below.refl _ _).alloc (Nat.le_refl _) _).trans (HB.out.mono (by simp))⟩
 ·
  cases h

/-! ### refcount_New: function 22 -/
def refcount_New.f (a0 : Int) : Option (List Int × Int) := if a0 < 0 then (some (([] : List Int), 1)) else (if a0 > 65536 then (some (([] : List Int), 1)) else (if 0 ≤ a0 then (if (a0 : Int).toNat ≤ 35184372088832 then (some ((List.replicate (a0 : Int).toNat 0), 0)) else (none)) else (none)))
set_option maxHeartbeats 8000000 in
set_option maxRecDepth 100000 in
theorem refcount_New.calls (a0 : Int) (r1 : List Int) (r2 : Int) (w : World) (h : refcount_New.f a0 = some (r1, r2)) :
  Calls Try.prog 22 #[.int .i64 a0] w fun e w' => ∃ v0_ : Value, e = .returned (.tuple #[.agg #[v0_], .int .i64 r2]) ∧ Kd.R (Kd.int .i64) 3 w' w.heap.size (fun _ => True) v0_ r1 ∧ Below w.heap.size w w' := by
 have hu27 := Try.underlying27
 have HB := Aside0.mk (Below.refl w.heap.size w)
 have H : (if a0 < 0 then (some (([] : List Int), 1)) else (if a0 > 65536 then (some (([] : List Int), 1)) else (if 0 ≤ a0 then (if (a0 : Int).toNat ≤ 35184372088832 then (some ((List.replicate (a0 : Int).toNat 0), 0)) else (none)) else (none)))) = some (r1, r2) := h
 clear h
 by_cases c2 : a0 < 0
 ·
  rw [if_pos c2] at H
  have c2b0 := decide_eq_true c2
  clear c2
  simp only [Option.some.injEq, Prod.mk.injEq] at H
  obtain ⟨rfl, rfl⟩ := H
  go_enter Try.func22, Try.ntmps22
  go_wp2_with (first | ((with_reducible refine gate_dst (N := 2) rfl ?_); refine box_event ?hg (N := 2) ?hd (cs := #[.slice none 0 0]) (t := 27) ?hr ?_; (case hd => rfl); (case hg => rfl); (case hr => first | (go_simp; done) | (go_simp; rfl)); intro gb157 hg w3 hbox hb; have BK157 := Aside0.mk (hbox); have GW157 := Aside0.mk ((by rw [hg]; exact (below_size (bU HB.out)) : w.heap.size ≤ gb157)); have GE157 := Aside0.mk ((by rw [hg]; exact (below_size (bU HB.out)) : w.heap.size ≤ gb157)); replace HB := Aside0.mk (below_step (bU HB.out) hb); clear hb hbox hg; have hcz4_0 : w3.cell? ⟨gb157, 0, none⟩ = some (.slice none 0 0) := (blk_cell BK157.out 0).trans rfl; have hfz4_0 := blk_frozen BK157.out 0))
  refine bodyPost_ret (results_ct rfl _ _ gb157 27 #[.slice none 0 0] (0, 0) _ rfl (by (with_reducible repeat (first | refine blk_drewN ?_ _ | refine blk_drew ?_ | refine blk_alloc ?_ _)); refine blk_put (cs := #[.slice none 0 0]) ?_ 0 _ rfl; (with_reducible repeat (first | refine blk_drewN ?_ _ | refine blk_drew ?_ | refine blk_alloc ?_ _)); exact BK157.out) Try.underlying27 rfl (by kernel_rfl)) rfl ?_
  exact ⟨_, by first | rfl | (simp [errW_none, errW_some] <;> rfl) | (simp [*, errW_none, errW_some] <;> rfl), by first | exact Kd.R_nil _ _ _ _ _ | exact Kd.N_nil _ _ _ _ _ | exact Kd.V_nil _ _ _ _ _ | exact Kd.Q_nil _ _ _ _ _ | exact Kd.S_nil _ _ _ _ _, by repeat (first | (with_reducible first | exact HB.out | apply below_alloc | apply pw_below_drewN | apply below_drew1 | refine below_set ?_ GE157.out) | exact HB.out)⟩
 ·
  rw [if_neg c2] at H
  have c2b0 := decide_eq_false c2
  clear c2
  by_cases c5 : a0 > 65536
  ·
   rw [if_pos c5] at H
   have c5b0 := decide_eq_true c5
   clear c5
   simp only [Option.some.injEq, Prod.mk.injEq] at H
   obtain ⟨rfl, rfl⟩ := H
   go_enter Try.func22, Try.ntmps22
   go_wp2_with (first | ((with_reducible refine gate_dst (N := 2) rfl ?_); refine box_event ?hg (N := 2) ?hd (cs := #[.slice none 0 0]) (t := 27) ?hr ?_; (case hd => rfl); (case hg => rfl); (case hr => first | (go_simp; done) | (go_simp; rfl)); intro gb157 hg w6 hbox hb; have BK157 := Aside0.mk (hbox); have GW157 := Aside0.mk ((by rw [hg]; exact (below_size (bU HB.out)) : w.heap.size ≤ gb157)); have GE157 := Aside0.mk ((by rw [hg]; exact (below_size (bU HB.out)) : w.heap.size ≤ gb157)); replace HB := Aside0.mk (below_step (bU HB.out) hb); clear hb hbox hg; have hcz7_0 : w6.cell? ⟨gb157, 0, none⟩ = some (.slice none 0 0) := (blk_cell BK157.out 0).trans rfl; have hfz7_0 := blk_frozen BK157.out 0))
   refine bodyPost_ret (results_ct rfl _ _ gb157 27 #[.slice none 0 0] (0, 0) _ rfl (by (with_reducible repeat (first | refine blk_drewN ?_ _ | refine blk_drew ?_ | refine blk_alloc ?_ _)); refine blk_put (cs := #[.slice none 0 0]) ?_ 0 _ rfl; (with_reducible repeat (first | refine blk_drewN ?_ _ | refine blk_drew ?_ | refine blk_alloc ?_ _)); exact BK157.out) Try.underlying27 rfl (by kernel_rfl)) rfl ?_
   exact ⟨_, by first | rfl | (simp [errW_none, errW_some] <;> rfl) | (simp [*, errW_none, errW_some] <;> rfl), by first | exact Kd.R_nil _ _ _ _ _ | exact Kd.N_nil _ _ _ _ _ | exact Kd.V_nil _ _ _ _ _ | exact Kd.Q_nil _ _ _ _ _ | exact Kd.S_nil _ _ _ _ _, by repeat (first | (with_reducible first | exact HB.out | apply below_alloc | apply pw_below_drewN | apply below_drew1 | refine below_set ?_ GE157.out) | exact HB.out)⟩
  ·
   rw [if_neg c5] at H
   have c5b0 := decide_eq_false c5
   clear c5
   by_cases c8 : 0 ≤ a0
   ·
    rw [if_pos c8] at H
    have c8b0 := eq_true c8
    have c8b1 := decide_eq_true c8
    clear c8
    by_cases c9 : (a0 : Int).toNat ≤ 35184372088832
    ·
     rw [if_pos c9] at H
     have c9b0 := eq_true c9
     have c9b1 := decide_eq_true c9
     clear c9
     obtain ⟨y158, hy158⟩ : ∃ y_ : List Int, y_ = (List.replicate (a0 : Int).toNat 0) := ⟨_, rfl⟩
     replace H : (some (y158, 0)) = some (r1, r2) := by first | (rw [hy158]; exact H) | exact H
     have Ny158 := Aside0.mk hy158
     clear hy158
     simp only [Option.some.injEq, Prod.mk.injEq] at H
     obtain ⟨rfl, rfl⟩ := H
     go_enter Try.func22, Try.ntmps22
     go_wp2_with (first | ((with_reducible refine gate_dst (N := 2) rfl ?_); refine box_event ?hg (N := 2) ?hd (cs := #[.slice none 0 0]) (t := 27) ?hr ?_; (case hd => rfl); (case hg => rfl); (case hr => first | (go_simp; done) | (go_simp; rfl)); intro gb157 hg w10 hbox hb; have BK157 := Aside0.mk (hbox); have GW157 := Aside0.mk ((by rw [hg]; exact (below_size (bU HB.out)) : w.heap.size ≤ gb157)); have GE157 := Aside0.mk ((by rw [hg]; exact (below_size (bU HB.out)) : w.heap.size ≤ gb157)); replace HB := Aside0.mk (below_step (bU HB.out) hb); clear hb hbox hg) | ((with_reducible refine gate_dst (N := 12) rfl ?_); refine Kd.R_make (Kd.int .i64) _ 3 rfl (N := 12) rfl 25 _ _ rfl a0 rfl rfl Try.underlying25 (.int .i64 0) 8 info3 rfl (by decide) (by omega) 0 (ok := fun _ => True) (okp := fun _ => True) rfl (fun _ hk => hk) trivial (of_decide_eq_true (by first | (with_reducible assumption) | assumption)) (Nat.le_trans (Nat.mul_le_mul_right _ (of_decide_eq_true (by first | (with_reducible assumption) | assumption) : a0.toNat ≤ 35184372088832)) (by omega)) (Below.refl _ _) (Nat.le_refl _) ?_; intro v159 w11 ho12 hb hg_ hnew_; clear hg_ hnew_; (first | rw [← Ny158.out] at ho12 | (simp only [Int.reduceToNat] at ho12; rw [← Ny158.out] at ho12)); have HO160 := Aside0.mk (Kd.R_lower ho12 (below_size (by repeat (first | (with_reducible first | exact HB.out | apply below_alloc | apply pw_below_drewN | apply below_drew1 | refine below_set ?_ GE157.out) | exact HB.out)))); replace BK157 := Aside0.mk (blk_below (g := gb157) (o := .cells #[.slice none 0 0] 27 (0, 0)) (kU BK157.out) hb); replace HB := Aside0.mk (below_step (by repeat (first | (with_reducible first | exact HB.out | apply below_alloc | apply pw_below_drewN | apply below_drew1 | refine below_set ?_ GE157.out) | exact HB.out)) hb); clear hb ho12; obtain ⟨Ao13, co13, eo13⟩ := Kd.R_slice HO160.out; subst eo13; have hcz14_0 : w11.cell? ⟨gb157, 0, none⟩ = some (.slice none 0 0) := (blk_cell BK157.out 0).trans rfl; have hfz14_0 := blk_frozen BK157.out 0))
     refine bodyPost_ret (results_ct rfl _ _ gb157 27 #[.slice Ao13 y158.length co13] (0, 0) _ rfl (by (with_reducible repeat (first | refine blk_drewN ?_ _ | refine blk_drew ?_ | refine blk_alloc ?_ _)); refine blk_put (cs := #[.slice none 0 0]) ?_ 0 _ rfl; (with_reducible repeat (first | refine blk_drewN ?_ _ | refine blk_drew ?_ | refine blk_alloc ?_ _)); exact BK157.out) Try.underlying27 rfl (by kernel_rfl)) rfl ?_
     exact ⟨_, by first | rfl | (simp [errW_none, errW_some] <;> rfl) | (simp [*, errW_none, errW_some] <;> rfl), by (with_reducible repeat (first | apply Kd.R_alloc | apply Kd.R_drewN | apply Kd.R_drew)); exact Kd.R_mono (Kd.R_far (p := ⟨gb157, 0, none⟩) (Kd.R_types HO160.out BK157.out (by decide)) (fun _ hk => hk.2) (.slice Ao13 y158.length co13)) (fun _ hk => trivial), by repeat (first | (with_reducible first | exact HB.out | apply below_alloc | apply pw_below_drewN | apply below_drew1 | refine below_set ?_ GE157.out) | exact HB.out)⟩
    ·
     rw [if_neg c9] at H
     exact absurd H (by simp)
   ·
    rw [if_neg c8] at H
    exact absurd H (by simp)

end Go.Proofs.Ytnloofhpdlggnaa.PRefcountLarge
