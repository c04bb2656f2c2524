-- Written for this claim by a program of this session (wip/), out of the translation's own print: Lean checks it
import Derived.Test.YtnloofhpdlggnaaPRefcountLargex0
import Derived.Test.YtnloofhpdlggnaaWRepsOne
import Derived.Test.YtnloofhpdlggnaaWGuard
namespace Go.Proofs.Ytnloofhpdlggnaa.PRefcountLarge
open Go.RowKit Go.Proofs.YtnloofhpdlggnaaW.PrintWords Go.Proofs.YtnloofhpdlggnaaW.PrintLast Go.Proofs.YtnloofhpdlggnaaW.PrintMore
attribute [local go_sem] max2_int min2_int max_two min_two max_three min_three max_four min_four   -- for this text's walks alone
set_option linter.unusedVariables false
set_option linter.unusedSimpArgs false

/-! ### tegulalaw34_run: function 23 -/
def tegulalaw34_run.f (a0 : Int) (a1 : Int) : Option ((List (S41))) := some (([(⟨0, a1, a0⟩ : S41)] : List (S41)))
set_option maxHeartbeats 8000000 in
set_option maxRecDepth 100000 in
theorem tegulalaw34_run.calls (a0 : Int) (a1 : Int) (r : List (S41)) (w : World) (h : tegulalaw34_run.f a0 a1 = some r) :
  Calls Try.prog 23 #[.int .i64 a0, .int .i64 a1] w fun e w' => ∃ v0_ : Value, e = .returned (v0_) ∧ Kd.R k41 41 w' w.heap.size (fun _ => True) v0_ r ∧ Below w.heap.size w w' := by
 have hu41 := Try.underlying41
 have HB := Aside0.mk (Below.refl w.heap.size w)
 have H : (some (([(⟨0, a1, a0⟩ : S41)] : List (S41)))) = some r := h
 clear h
 obtain ⟨y161, hy161⟩ : ∃ y_ : List (S41), y_ = (([(⟨0, a1, a0⟩ : S41)] : List (S41))) := ⟨_, rfl⟩
 replace H : (some y161) = some r := by first | (rw [hy161]; exact H) | exact H
 have Ny161 := Aside0.mk hy161
 clear hy161
 obtain rfl := Option.some.inj H
 go_enter Try.func23, Try.ntmps23
 go_wp2_with (first | ((with_reducible refine gate_dst (N := 8) rfl ?_); refine Kd.R_lit k41 _ 41 ?hg (N := 8) ?hd (xs := ([(⟨0, a1, a0⟩ : S41)] : List (S41))) (inner := [.int .i64 0, .int .i64 a1, .int .i64 a0]) (ok := fun _ => True) (okp := fun _ => True) ?hr ?hp (fun _ hk => hk) trivial (Below.refl _ _) (Nat.le_refl _) (by simp) ?_; (case hd => rfl); (case hg => rfl); (case hr => first | (go_simp; done) | (go_simp; rfl)); (case hp => exact (Reps.c3 (show Kd.M k41 _ _ _ (⟨0, a1, a0⟩ : S41) [.int .i64 0, .int .i64 a1, .int .i64 a0] from (k41_mkM _ _ _ (⟨0, a1, a0⟩ : S41) )) (Reps.none _ _))); intro v162 w3 ho4 hb hg_ hnew_; clear hg_ hnew_; (first | rw [← Ny161.out] at ho4 | (simp only [Int.reduceToNat] at ho4; rw [← Ny161.out] at ho4)); have HO163 := Aside0.mk (Kd.R_lower ho4 (below_size (bU HB.out))); replace HB := Aside0.mk (below_step (bU HB.out) hb); clear hb ho4))
 go_ret
 exact ⟨_, by first | rfl | (simp [errW_none, errW_some] <;> rfl) | (simp [*, errW_none, errW_some] <;> rfl), rU HO163.out, bU HB.out⟩

/-! ### refcount_Counts_Of: function 25 -/
def refcount_Counts_Of.f (l0_0 : List Int) (a1 : Int) : Option (Int) := if a1 < 0 then (some 0) else (if a1 ≥ (l0_0.length : Int) then (some 0) else (if 0 ≤ a1 then (if a1 < (l0_0.length : Int) then (some (rd l0_0 a1)) else (none)) else (none)))
set_option maxHeartbeats 8000000 in
set_option maxRecDepth 100000 in
theorem refcount_Counts_Of.calls (A0_0 : Option Addr) (c0_0 : Nat) (l0_0 : List Int) (a1 : Int) (r : Int) (w : World) (hr0_0 : Kd.C (Kd.int .i64) w A0_0 l0_0.length l0_0) (hc0_0 : l0_0.length ≤ c0_0) (h : refcount_Counts_Of.f l0_0 a1 = some r) :
  Calls Try.prog 25 #[.agg #[.slice A0_0 l0_0.length c0_0], .int .i64 a1] w fun e w' => e = .returned (.int .i64 r) ∧ Below w.heap.size w w' := by
 have hu27 := Try.underlying27
 have HR0_0 := Aside0.mk hr0_0
 have HC0_0 := Aside0.mk hc0_0
 clear hr0_0 hc0_0
 have HB := Aside0.mk (Below.refl w.heap.size w)
 have H : (if a1 < 0 then (some 0) else (if a1 ≥ (l0_0.length : Int) then (some 0) else (if 0 ≤ a1 then (if a1 < (l0_0.length : Int) then (some (rd l0_0 a1)) else (none)) else (none)))) = some r := h
 clear h
 by_cases c3 : a1 < 0
 ·
  rw [if_pos c3] at H
  have c3b0 := decide_eq_true c3
  clear c3
  obtain rfl := Option.some.inj H
  go_enter Try.func25, Try.ntmps25
  go_wp2_with (first | ((with_reducible refine gate_dst (N := 2) rfl ?_); (try (refine gate_guard (by rfl) ?_; dsimp only)); refine box_event ?hg (N := 2) ?hd (cs := #[.slice A0_0 l0_0.length c0_0]) (t := 27) ?hr ?_; (case hd => rfl); (case hg => rfl); (case hr => first | (go_simp; done) | (go_simp; rfl)); intro gb164 hg w4 hbox hb; have BK164 := Aside0.mk (hbox); have GW164 := Aside0.mk ((by rw [hg]; exact (below_size (bU HB.out)) : w.heap.size ≤ gb164)); have GE164 := Aside0.mk ((by rw [hg]; exact (below_size (bU HB.out)) : w.heap.size ≤ gb164)); replace HB := Aside0.mk (below_step (bU HB.out) hb); clear hb hbox hg))
  go_ret
  exact ⟨by first | rfl | (simp [errW_none, errW_some] <;> rfl) | (simp [*, errW_none, errW_some] <;> rfl), by repeat (first | (with_reducible first | exact HB.out | apply below_alloc | apply pw_below_drewN | apply below_drew1 | refine below_set ?_ GE164.out) | exact HB.out)⟩
 ·
  rw [if_neg c3] at H
  have c3b0 := decide_eq_false c3
  clear c3
  by_cases c5 : a1 ≥ (l0_0.length : Int)
  ·
   rw [if_pos c5] at H
   have c5b0 := decide_eq_true c5
   clear c5
   obtain rfl := Option.some.inj H
   go_enter Try.func25, Try.ntmps25
   go_wp2_with (first | ((with_reducible refine gate_dst (N := 2) rfl ?_); (try (refine gate_guard (by rfl) ?_; dsimp only)); refine box_event ?hg (N := 2) ?hd (cs := #[.slice A0_0 l0_0.length c0_0]) (t := 27) ?hr ?_; (case hd => rfl); (case hg => rfl); (case hr => first | (go_simp; done) | (go_simp; rfl)); intro gb164 hg w6 hbox hb; have BK164 := Aside0.mk (hbox); have GW164 := Aside0.mk ((by rw [hg]; exact (below_size (bU HB.out)) : w.heap.size ≤ gb164)); have GE164 := Aside0.mk ((by rw [hg]; exact (below_size (bU HB.out)) : w.heap.size ≤ gb164)); replace HB := Aside0.mk (below_step (bU HB.out) hb); clear hb hbox hg; have hcz7_0 : w6.cell? ⟨gb164, 0, none⟩ = some (.slice A0_0 l0_0.length c0_0) := (blk_cell BK164.out 0).trans rfl; have hfz7_0 := blk_frozen BK164.out 0))
   go_ret
   exact ⟨by first | rfl | (simp [errW_none, errW_some] <;> rfl) | (simp [*, errW_none, errW_some] <;> rfl), by repeat (first | (with_reducible first | exact HB.out | apply below_alloc | apply pw_below_drewN | apply below_drew1 | refine below_set ?_ GE164.out) | exact HB.out)⟩
  ·
   rw [if_neg c5] at H
   have c5b0 := decide_eq_false c5
   clear c5
   by_cases c8 : 0 ≤ a1
   ·
    rw [if_pos c8] at H
    have c8b0 := decide_eq_true c8
    clear c8
    by_cases c9 : a1 < (l0_0.length : Int)
    ·
     rw [if_pos c9] at H
     have c9b0 := decide_eq_true c9
     clear c9
     obtain rfl := Option.some.inj H
     go_enter Try.func25, Try.ntmps25
     go_wp2_with (first | ((with_reducible refine gate_dst (N := 2) rfl ?_); (try (refine gate_guard (by rfl) ?_; dsimp only)); refine box_event ?hg (N := 2) ?hd (cs := #[.slice A0_0 l0_0.length c0_0]) (t := 27) ?hr ?_; (case hd => rfl); (case hg => rfl); (case hr => first | (go_simp; done) | (go_simp; rfl)); intro gb164 hg w10 hbox hb; have BK164 := Aside0.mk (hbox); have GW164 := Aside0.mk ((by rw [hg]; exact (below_size (bU HB.out)) : w.heap.size ≤ gb164)); have GE164 := Aside0.mk ((by rw [hg]; exact (below_size (bU HB.out)) : w.heap.size ≤ gb164)); replace HB := Aside0.mk (below_step (bU HB.out) hb); clear hb hbox hg; have hcz11_0 : w10.cell? ⟨gb164, 0, none⟩ = some (.slice A0_0 l0_0.length c0_0) := (blk_cell BK164.out 0).trans rfl; have hfz11_0 := blk_frozen BK164.out 0; have p165 : 0 ≤ (a1 : Int) := of_decide_eq_true (by first | (with_reducible assumption) | assumption); have q165 : a1 < (l0_0.length : Int) := of_decide_eq_true (by first | (with_reducible assumption) | assumption); obtain ⟨ad165, e165, hx165_0⟩ := Kd.at_int HR0_0.out a1 p165 q165; cases e165; replace hx165_0 := (HB.out.cell (World.block_lt_of_cell? w _ hx165_0)).trans hx165_0; replace p165 := eq_true p165; replace q165 := eq_true q165))
     go_ret
     exact ⟨by first | rfl | (simp [errW_none, errW_some] <;> rfl) | (simp [*, errW_none, errW_some] <;> rfl), by repeat (first | (with_reducible first | exact HB.out | apply below_alloc | apply pw_below_drewN | apply below_drew1 | refine below_set ?_ GE164.out) | exact HB.out)⟩
    ·
     rw [if_neg c9] at H
     exact absurd H (by simp)
   ·
    rw [if_neg c8] at H
    exact absurd H (by simp)

end Go.Proofs.Ytnloofhpdlggnaa.PRefcountLarge
