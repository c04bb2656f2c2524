-- Written for this claim by a program of this session (wip/), out of the translation's own print: Lean checks it
import Derived.Test.YtcjpikjbjehjeaaPAllocx0
import Derived.Test.YtcjpikjbjehjeaaPAllocx2
namespace Go.Proofs.Ytcjpikjbjehjeaa.PAlloc
open Go.RowKit Go.Proofs.YtcjpikjbjehjeaaW.PrintWords Go.Proofs.YtcjpikjbjehjeaaW.PrintLast Go.Proofs.YtcjpikjbjehjeaaW.PrintMore
attribute [local go_sem] max2_int min2_int max_two min_two max_three min_three max_four min_four   -- for this text's walks alone
set_option linter.unusedVariables false
set_option linter.unusedSimpArgs false

/-! ### alloc_Map_Largest: function 16 -/
def alloc_Map_Largest.l0 : Nat → Int → List (S53) → Int → Int → Option (Int)
 | 0, _, _, _, _ => none
 | k + 1, x3, x7, x8, x9 => if x9 < x8 then (if 0 ≤ x9 then (if x9 < (x7.length : Int) then (alloc_Map_Largest.l0 k (mx x3 ((rd_T53 x7 x9).f1)) x7 x8 (wrap64 (x9 + 1))) else (none)) else (none)) else (some x3)
def alloc_Map_Largest.f (k : Nat) (a0_0 : Int) (l0_1 : List (S53)) : Option (Int) := alloc_Map_Largest.l0 k 0 l0_1 (l0_1.length : Int) 0
theorem alloc_Map_Largest.mono_l : ∀ k, (∀ y0 y1 y2 y3, LeO (alloc_Map_Largest.l0 k y0 y1 y2 y3) (alloc_Map_Largest.l0 (k + 1) y0 y1 y2 y3))
 | 0 => fun _ _ _ _ r h => by simp [alloc_Map_Largest.l0] at h
 | k + 1 => by
  have ih0 := alloc_Map_Largest.mono_l k
  ·
   intro y0 y1 y2 y3
   unfold alloc_Map_Largest.l0
   repeat' first
   | (with_reducible exact ih0 _ _ _ _)
   | (with_reducible exact LeO.refl _)
   | (with_reducible exact LeO.none _)
   | (with_reducible refine LeO.ite ?_ ?_)
   | (with_reducible refine LeO.bind ?_ (fun _ => ?_))
   | exact ih0 _ _ _ _
   | exact LeO.none _
   | refine LeO.ite ?_ ?_
   | refine LeO.bind ?_ (fun _ => ?_)
theorem alloc_Map_Largest.mono : ∀ a0 a1 k, LeO (alloc_Map_Largest.f k a0 a1) (alloc_Map_Largest.f (k + 1) a0 a1) := by
 intro a0 a1 k
 have ih0 := alloc_Map_Largest.mono_l k
 unfold alloc_Map_Largest.f
 repeat' first
   | (with_reducible exact ih0 _ _ _ _)
   | (with_reducible exact LeO.refl _)
   | (with_reducible exact LeO.none _)
   | (with_reducible refine LeO.ite ?_ ?_)
   | (with_reducible refine LeO.bind ?_ (fun _ => ?_))
   | exact ih0 _ _ _ _
   | exact LeO.none _
   | refine LeO.ite ?_ ?_
   | refine LeO.bind ?_ (fun _ => ?_)
set_option maxHeartbeats 8000000 in
set_option maxRecDepth 100000 in
theorem alloc_Map_Largest.calls (k : Nat) (a0_0 : Int) (A0_1 : Option Addr) (c0_1 : Nat) (l0_1 : List (S53)) (r : Int) (w : World) (hr0_1 : Kd.C k53 w A0_1 l0_1.length l0_1) (hc0_1 : l0_1.length ≤ c0_1) (h : alloc_Map_Largest.f k a0_0 l0_1 = some r) :
  Calls Try.prog 16 #[.agg #[.int .i64 a0_0, .slice A0_1 l0_1.length c0_1]] w fun e w' => e = .returned (.int .i64 r) ∧ Below w.heap.size w w' := by
 have hu26 := Try.underlying26
 have hu53 := Try.underlying53
 have HR0_1 := Aside0.mk hr0_1
 have HC0_1 := Aside0.mk hc0_1
 clear hr0_1 hc0_1
 have HB := Aside0.mk (Below.refl w.heap.size w)
 have H : (alloc_Map_Largest.l0 k 0 l0_1 (l0_1.length : Int) 0) = some r := h
 clear h
 have H' := Aside0.mk H
 clear H
 go_enter Try.func16, Try.ntmps16
 go_wp2_with (first | ((with_reducible refine gate_dst (N := 1) rfl ?_); refine box_event ?hg (N := 1) ?hd (cs := #[.int .i64 a0_0, .slice A0_1 l0_1.length c0_1]) (t := 26) ?hr ?_; (case hd => rfl); (case hg => rfl); (case hr => first | (go_simp; done) | (go_simp; rfl)); intro gb359 hg w2 hbox hb; have BK359 := Aside0.mk (hbox); have GW359 := Aside0.mk ((by rw [hg]; exact (below_size (bU HB.out)) : w.heap.size ≤ gb359)); have GE359 := Aside0.mk ((by rw [hg]; exact (below_size (bU HB.out)) : w.heap.size ≤ gb359)); replace HB := Aside0.mk (below_step (bU HB.out) hb); clear hb hbox hg; have hcz3_0 : w2.cell? ⟨gb359, 0, none⟩ = some (.int .i64 a0_0) := (blk_cell BK359.out 0).trans rfl; have hcz3_1 : w2.cell? ⟨gb359, 1, none⟩ = some (.slice A0_1 l0_1.length c0_1) := (blk_cell BK359.out 1).trans rfl; have hfz3_0 := blk_frozen BK359.out 0; have hfz3_1 := blk_frozen BK359.out 1))
 go_loopg [3, 9] k (fun kq v3 v9 w' => ∃ (x3_1 : Int) (x9_1 : Int), v3 = .int .i64 x3_1 ∧ v9 = .int .i64 x9_1 ∧ Aside0 (alloc_Map_Largest.l0 kq x3_1 l0_1 (l0_1.length : Int) x9_1 = some r) ∧ Aside0 (kq ≤ k) ∧ Aside0 (w'.heap[gb359]? = some (.cells #[.int .i64 a0_0, (.slice A0_1 l0_1.length c0_1)] 26 (0, 0))) ∧ Aside0 (Below w.heap.size w w'))
 case atStart => exact ⟨(0), (0), (by first | rfl | (simp; done) | (simp [*]; done)), (by first | rfl | (simp; done) | (simp [*]; done)), H', ⟨Nat.le_refl _⟩, ⟨by (with_reducible repeat (first | refine blk_drewN ?_ _ | refine blk_drew ?_ | refine blk_alloc ?_ _)); exact BK359.out⟩, ⟨by repeat (first | (with_reducible first | exact HB.out | apply below_alloc | apply pw_below_drewN | apply below_drew1 | refine below_set ?_ GE359.out) | exact HB.out)⟩⟩
 case round =>
  clear H'
  try clear c1
  try clear p2
  try clear hcz3_0
  try clear hcz3_1
  try clear hfz3_0
  try clear hfz3_1
  obtain ⟨x3_1, x9_1, rfl, rfl, HA, HK1, BK359, HB⟩ := hrel
  cases gk with
  | zero => exact absurd HA.out (by simp [alloc_Map_Largest.l0])
  | succ k1 =>
   have H := HA.out
   clear HA
   simp only [alloc_Map_Largest.l0] at H
   by_cases c4 : x9_1 < (l0_1.length : Int)
   ·
    rw [if_pos c4] at H
    have c4b0 := decide_eq_true c4
    clear c4
    by_cases c5 : 0 ≤ x9_1
    ·
     rw [if_pos c5] at H
     have c5b0 := decide_eq_true c5
     clear c5
     by_cases c6 : x9_1 < (l0_1.length : Int)
     ·
      rw [if_pos c6] at H
      have c6b0 := decide_eq_true c6
      clear c6
      obtain ⟨ji7, hji7⟩ : ∃ j_ : Int, (mx x3_1 ((rd_T53 l0_1 x9_1).f1)) = j_ := ⟨_, rfl⟩
      replace H : (alloc_Map_Largest.l0 k1 ji7 l0_1 (l0_1.length : Int) (wrap64 (x9_1 + 1))) = some r := by first | (rw [hji7] at H; exact H) | (simp only [hji7] at H ⊢; exact H)
      have hji7_ : (if x3_1 < ((rd_T53 l0_1 x9_1).f1) then ((rd_T53 l0_1 x9_1).f1) else x3_1) = ji7 := hji7
      have H' := Aside0.mk H
      clear H
      have p360 : 0 ≤ (x9_1 : Int) := of_decide_eq_true (by first | (with_reducible assumption) | assumption)
      have q360 : x9_1 < (l0_1.length : Int) := of_decide_eq_true (by first | (with_reducible assumption) | assumption)
      obtain ⟨ad360, e360, hx360_0, hx360_1, hx360_2⟩ := at_T53 HR0_1.out x9_1 p360 q360
      cases e360
      replace hx360_0 := (HB.out.cell (World.block_lt_of_cell? w _ hx360_0)).trans hx360_0
      replace hx360_1 := (HB.out.cell (World.block_lt_of_cell? w _ hx360_1)).trans hx360_1
      replace hx360_2 := (HB.out.cell (World.block_lt_of_cell? w _ hx360_2)).trans hx360_2
      replace p360 := eq_true p360
      replace q360 := eq_true q360
      go_wp2_with (first | ((with_reducible refine gate_dst (N := 5) rfl ?_); refine box_event ?hg (N := 5) ?hd (cs := #[.int .i64 0, .int .i64 0, .int .i64 0]) (t := 53) ?hr ?_; (case hd => rfl); (case hg => rfl); (case hr => first | (go_simp; done) | (go_simp; rfl)); intro gb361 hg w8 hbox hb; have BK361 := Aside0.mk (hbox); have GW361 := Aside0.mk ((by rw [hg]; exact (below_size (by repeat (first | (with_reducible first | exact HB.out | apply below_alloc | apply pw_below_drewN | apply below_drew1 | refine below_set ?_ GE359.out) | exact HB.out))) : w.heap.size ≤ gb361)); have GE361 := Aside0.mk ((by rw [hg]; exact (below_size (by repeat (first | (with_reducible first | exact HB.out | apply below_alloc | apply pw_below_drewN | apply below_drew1 | refine below_set ?_ GE359.out) | exact HB.out))) : w.heap.size ≤ gb361)); replace HB := Aside0.mk (below_step (by repeat (first | (with_reducible first | exact HB.out | apply below_alloc | apply pw_below_drewN | apply below_drew1 | refine below_set ?_ GE359.out) | exact HB.out)) hb); have NB359_361 := Aside0.mk ((by rw [hg]; exact Nat.ne_of_lt (blk_lt (g := gb359) (o := .cells #[.int .i64 a0_0, .slice (some ad360) l0_1.length c0_1] 26 (0, 0)) (kU BK359.out)) : gb359 ≠ gb361)); have NB361_359 := Aside0.mk ((by rw [hg]; exact Nat.ne_of_gt (blk_lt (g := gb359) (o := .cells #[.int .i64 a0_0, .slice (some ad360) l0_1.length c0_1] 26 (0, 0)) (kU BK359.out)) : gb361 ≠ gb359)); replace BK359 := Aside0.mk (blk_below (g := gb359) (o := .cells #[.int .i64 a0_0, .slice (some ad360) l0_1.length c0_1] 26 (0, 0)) (kU BK359.out) hb); clear hb hbox hg; have hnb9 := NB361_359.out; have hnc9 := NB359_361.out; have hcz10_0 : w8.cell? ⟨gb361, 0, none⟩ = some (.int .i64 0) := (blk_cell BK361.out 0).trans rfl; have hcz10_1 : w8.cell? ⟨gb361, 1, none⟩ = some (.int .i64 0) := (blk_cell BK361.out 1).trans rfl; have hcz10_2 : w8.cell? ⟨gb361, 2, none⟩ = some (.int .i64 0) := (blk_cell BK361.out 2).trans rfl; have hfz10_0 := blk_frozen BK361.out 0; have hfz10_1 := blk_frozen BK361.out 1; have hfz10_2 := blk_frozen BK361.out 2))
      go_roundg k1
      case measure => have := HK1.out; omega
      case rel => exact ⟨(ji7), (wrap64 (x9_1 + 1)), (by first | rfl | (simp; done) | (simp only [← hji7] <;> (first | rfl | simp)) | (simp [*]; done)), (by first | rfl | (simp; done) | (simp [*]; done)), H', ⟨by have := HK1.out; omega⟩, ⟨by (with_reducible repeat (first | refine blk_drewN ?_ _ | refine blk_drew ?_ | refine blk_alloc ?_ _)); refine blk_far ?_ NB359_361.out _; (with_reducible repeat (first | refine blk_drewN ?_ _ | refine blk_drew ?_ | refine blk_alloc ?_ _)); refine blk_far ?_ NB359_361.out _; (with_reducible repeat (first | refine blk_drewN ?_ _ | refine blk_drew ?_ | refine blk_alloc ?_ _)); refine blk_far ?_ NB359_361.out _; (with_reducible repeat (first | refine blk_drewN ?_ _ | refine blk_drew ?_ | refine blk_alloc ?_ _)); exact BK359.out⟩, ⟨by repeat (first | (with_reducible first | exact HB.out | apply below_alloc | apply pw_below_drewN | apply below_drew1 | refine below_set ?_ GE359.out | refine below_set ?_ GE361.out) | exact HB.out)⟩⟩
     ·
      rw [if_neg c6] at H
      exact absurd H (by simp)
    ·
     rw [if_neg c5] at H
     exact absurd H (by simp)
   ·
    rw [if_neg c4] at H
    have c4b0 := decide_eq_false c4
    clear c4
    obtain rfl := Option.some.inj H
    go_wp2
    go_ret
    exact ⟨by first | rfl | (simp [errW_none, errW_some] <;> rfl) | (simp [*, errW_none, errW_some] <;> rfl), by repeat (first | (with_reducible first | exact HB.out | apply below_alloc | apply pw_below_drewN | apply below_drew1 | refine below_set ?_ GE359.out) | exact HB.out)⟩

/-! ### alloc_Map_Slots: function 17 -/
def alloc_Map_Slots.f (a0_0 : Int) (l0_1 : List (S53)) : Option (Int) := some a0_0
set_option maxHeartbeats 8000000 in
set_option maxRecDepth 100000 in
theorem alloc_Map_Slots.calls (a0_0 : Int) (A0_1 : Option Addr) (c0_1 : Nat) (l0_1 : List (S53)) (r : Int) (w : World) (hr0_1 : Kd.C k53 w A0_1 l0_1.length l0_1) (hc0_1 : l0_1.length ≤ c0_1) (h : alloc_Map_Slots.f a0_0 l0_1 = some r) :
  Calls Try.prog 17 #[.agg #[.int .i64 a0_0, .slice A0_1 l0_1.length c0_1]] w fun e w' => e = .returned (.int .i64 r) ∧ Below w.heap.size w w' := by
 have hu26 := Try.underlying26
 have HR0_1 := Aside0.mk hr0_1
 have HC0_1 := Aside0.mk hc0_1
 clear hr0_1 hc0_1
 have HB := Aside0.mk (Below.refl w.heap.size w)
 have H : (some a0_0) = some r := h
 clear h
 obtain rfl := Option.some.inj H
 go_enter Try.func17, Try.ntmps17
 go_wp2_with (first | ((with_reducible refine gate_dst (N := 1) rfl ?_); refine box_event ?hg (N := 1) ?hd (cs := #[.int .i64 a0_0, .slice A0_1 l0_1.length c0_1]) (t := 26) ?hr ?_; (case hd => rfl); (case hg => rfl); (case hr => first | (go_simp; done) | (go_simp; rfl)); intro gb362 hg w2 hbox hb; have BK362 := Aside0.mk (hbox); have GW362 := Aside0.mk ((by rw [hg]; exact (below_size (bU HB.out)) : w.heap.size ≤ gb362)); have GE362 := Aside0.mk ((by rw [hg]; exact (below_size (bU HB.out)) : w.heap.size ≤ gb362)); replace HB := Aside0.mk (below_step (bU HB.out) hb); clear hb hbox hg; have hcz3_0 : w2.cell? ⟨gb362, 0, none⟩ = some (.int .i64 a0_0) := (blk_cell BK362.out 0).trans rfl; have hcz3_1 : w2.cell? ⟨gb362, 1, none⟩ = some (.slice A0_1 l0_1.length c0_1) := (blk_cell BK362.out 1).trans rfl; have hfz3_0 := blk_frozen BK362.out 0; have hfz3_1 := blk_frozen BK362.out 1))
 go_ret
 exact ⟨by first | rfl | (simp [errW_none, errW_some] <;> rfl) | (simp [*, errW_none, errW_some] <;> rfl), by repeat (first | (with_reducible first | exact HB.out | apply below_alloc | apply pw_below_drewN | apply below_drew1 | refine below_set ?_ GE362.out) | exact HB.out)⟩

/-! ### alloc_Map_Runs: function 18 -/
def alloc_Map_Runs.f (a0_0 : Int) (l0_1 : List (S53)) : Option ((List (S53))) := (api_Extent_32.f l0_1).bind fun t364 => (some t364)
set_option maxHeartbeats 8000000 in
set_option maxRecDepth 100000 in
theorem alloc_Map_Runs.calls (a0_0 : Int) (A0_1 : Option Addr) (c0_1 : Nat) (l0_1 : List (S53)) (r : List (S53)) (w : World) (hr0_1 : Kd.C k53 w A0_1 l0_1.length l0_1) (hc0_1 : l0_1.length ≤ c0_1) (h : alloc_Map_Runs.f a0_0 l0_1 = some r) :
  Calls Try.prog 18 #[.agg #[.int .i64 a0_0, .slice A0_1 l0_1.length c0_1]] w fun e w' => ∃ v0_ : Value, e = .returned (v0_) ∧ Kd.R k53 53 w' w.heap.size (fun _ => True) v0_ r ∧ Below w.heap.size w w' := by
 have hu26 := Try.underlying26
 have HR0_1 := Aside0.mk hr0_1
 have HC0_1 := Aside0.mk hc0_1
 clear hr0_1 hc0_1
 have HB := Aside0.mk (Below.refl w.heap.size w)
 have H : ((api_Extent_32.f l0_1).bind fun t364 => (some t364)) = some r := h
 clear h
 replace H := Option.bind_eq_some_iff.mp H
 obtain ⟨t364, A20, H⟩ := H
 replace H : (some t364) = some r := H
 have A2 := Aside0.mk A20
 clear A20
 obtain rfl := Option.some.inj H
 go_enter Try.func18, Try.ntmps18
 go_wp2_with (first | ((with_reducible refine gate_dst (N := 1) rfl ?_); refine box_event ?hg (N := 1) ?hd (cs := #[.int .i64 a0_0, .slice A0_1 l0_1.length c0_1]) (t := 26) ?hr ?_; (case hd => rfl); (case hg => rfl); (case hr => first | (go_simp; done) | (go_simp; rfl)); intro gb363 hg w3 hbox hb; have BK363 := Aside0.mk (hbox); have GW363 := Aside0.mk ((by rw [hg]; exact (below_size (bU HB.out)) : w.heap.size ≤ gb363)); have GE363 := Aside0.mk ((by rw [hg]; exact (below_size (bU HB.out)) : w.heap.size ≤ gb363)); replace HB := Aside0.mk (below_step (bU HB.out) hb); clear hb hbox hg; have hcz4_0 : w3.cell? ⟨gb363, 0, none⟩ = some (.int .i64 a0_0) := (blk_cell BK363.out 0).trans rfl; have hcz4_1 : w3.cell? ⟨gb363, 1, none⟩ = some (.slice A0_1 l0_1.length c0_1) := (blk_cell BK363.out 1).trans rfl; have hfz4_0 := blk_frozen BK363.out 0; have hfz4_1 := blk_frozen BK363.out 1) | ((with_reducible refine gate_callee (f := 32) rfl ?_); refine goesL_ (some 5) rfl rfl Try.func32 (by kernel_rfl) rfl #[.slice A0_1 l0_1.length c0_1] rfl (by (try simp only [List.map_toArray, List.map_cons, List.map_nil]); first | done | rfl | (simp only [List.length_drop, List.length_take]; rfl)) ?_; (with_reducible refine (api_Extent_32.calls _ _ l0_1 t364 _ ?side1 ?side2 A2.out).mono ?_); (case side1 => exact cU (Kd.C_below HR0_1.out HB.out)); (case side2 => exact HC0_1.out); rintro e w5 ⟨v365, rfl, ho0, hb⟩; refine ⟨_, rfl, ?_⟩; have HO366 := Aside0.mk (Kd.R_lower ho0 (below_size (by repeat (first | (with_reducible first | exact HB.out | apply below_alloc | apply pw_below_drewN | apply below_drew1 | refine below_set ?_ GE363.out) | exact HB.out)))); replace BK363 := Aside0.mk (blk_below (g := gb363) (o := .cells #[.int .i64 a0_0, .slice A0_1 l0_1.length c0_1] 26 (0, 0)) (kU BK363.out) hb); replace HB := Aside0.mk (below_step (by repeat (first | (with_reducible first | exact HB.out | apply below_alloc | apply pw_below_drewN | apply below_drew1 | refine below_set ?_ GE363.out) | exact HB.out)) hb); (try clear hb); (try clear ho0)))
 go_ret
 exact ⟨_, by first | rfl | (simp [errW_none, errW_some] <;> rfl) | (simp [*, errW_none, errW_some] <;> rfl), rU HO366.out, by repeat (first | (with_reducible first | exact HB.out | apply below_alloc | apply pw_below_drewN | apply below_drew1 | refine below_set ?_ GE363.out) | exact HB.out)⟩

-- NOT PRINTED: function 33 (api_Extent_int)

-- MAKES
set_option maxHeartbeats 2000000 in
/-- slices.BinarySearchFunc on a list without elements. -/
theorem search_nil (A : Option Addr) (c : Nat) (s : Int) (w : World) :
  Calls Try.prog 33 #[.slice A 0 c, .int .i64 s, .func (.func 34) #[] #[]] w fun e w' => e = .returned (.tuple #[.int .i64 0, .bool false]) ∧ Below w.heap.size w w' := by
 go_enter Try.func33, Try.ntmps33
 go_wp2_with (first | (refine wp_loop_rounds 1 ?_; rw [rounds_succ]))
 go_ret2
 exact ⟨rfl, Below.refl _ _⟩
/-- Is, of a map without free runs. -/
def alloc_Map_Is.f (a0_0 : Int) (l0_1 : List S53) (a1 : Int) : Option Bool := match l0_1 with
 | [] => some false
 | _ => none
set_option maxHeartbeats 2000000 in
theorem alloc_Map_Is.calls (a0_0 : Int) (A0_1 : Option Addr) (c0_1 : Nat) (l0_1 : List S53) (a1 : Int) (r : Bool) (w : World) (hr0_1 : Kd.C k53 w A0_1 l0_1.length l0_1) (hc0_1 : l0_1.length ≤ c0_1) (h : alloc_Map_Is.f a0_0 l0_1 a1 = some r) :
  Calls Try.prog 19 #[.agg #[.int .i64 a0_0, .slice A0_1 l0_1.length c0_1], .int .i64 a1] w fun e w' => e = .returned (.bool r) ∧ Below w.heap.size w w' := by
 cases l0_1 with
 | cons x l => cases h
 | nil =>
  obtain rfl := Option.some.inj h
  have hu26 := Try.underlying26
  have HS := Aside0.mk (fun W => search_nil A0_1 c0_1 a1 W)
  clear h hr0_1 hc0_1
  simp only [List.length_nil]
  go_enter Try.func19, Try.ntmps19
  go_wp2_with fail
  refine (HS.out _).mono ?_
  rintro e w' ⟨rfl, hb⟩
  have HB := Aside0.mk hb
  clear hb
  go_wp2_with fail
  go_ret
  exact ⟨rfl, ((Below.refl _ _).alloc (Nat.le_refl _) _).trans (HB.out.mono (by simp))⟩

end Go.Proofs.Ytcjpikjbjehjeaa.PAlloc
