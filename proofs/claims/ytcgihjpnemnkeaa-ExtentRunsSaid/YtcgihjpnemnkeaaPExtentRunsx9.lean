-- Written for this claim by a program of this session (wip/), out of the translation's own print: Lean checks it
import Derived.Test.YtcgihjpnemnkeaaPExtentRunsx0
namespace Go.Proofs.Ytcgihjpnemnkeaa.PExtentRuns
open Go.RowKit Go.Proofs.YtcgihjpnemnkeaaW.PrintWords Go.Proofs.YtcgihjpnemnkeaaW.PrintLast Go.Proofs.YtcgihjpnemnkeaaW.PrintMore
attribute [local go_sem] max2_int min2_int max_two min_two max_three min_three max_four min_four   -- for this text's walks alone
set_option linter.unusedVariables false
set_option linter.unusedSimpArgs false

/-! ### tegularef32_One: function 26 -/
def tegularef32_One.f (a0_0 : Int) (a0_1 : Int) (a0_2 : Int) : Option (Bool) := if a0_0 ≥ 0 then (if a0_2 ≥ 0 then (if a0_1 ≥ 1 then (if a0_0 ≤ 65536 then (if a0_2 ≤ 65536 then (if a0_1 ≤ 65536 then (if (wrap64 (a0_0 + a0_1)) ≤ 65536 then (some (decide ((wrap64 (a0_2 + a0_1)) ≤ 65536))) else (some false)) else (some false)) else (some false)) else (some false)) else (some false)) else (some false)) else (some false)
set_option maxHeartbeats 8000000 in
set_option maxRecDepth 100000 in
theorem tegularef32_One.calls (a0_0 : Int) (a0_1 : Int) (a0_2 : Int) (r : Bool) (w : World) (h : tegularef32_One.f a0_0 a0_1 a0_2 = some r) :
  Calls Try.prog 26 #[.agg #[.int .i64 a0_0, .int .i64 a0_1, .int .i64 a0_2]] w fun e w' => e = .returned (.bool r) ∧ Below w.heap.size w w' := by
 have hu33 := Try.underlying33
 have HB := Aside0.mk (Below.refl w.heap.size w)
 have H : (if a0_0 ≥ 0 then (if a0_2 ≥ 0 then (if a0_1 ≥ 1 then (if a0_0 ≤ 65536 then (if a0_2 ≤ 65536 then (if a0_1 ≤ 65536 then (if (wrap64 (a0_0 + a0_1)) ≤ 65536 then (some (decide ((wrap64 (a0_2 + a0_1)) ≤ 65536))) else (some false)) else (some false)) else (some false)) else (some false)) else (some false)) else (some false)) else (some false)) = some r := h
 clear h
 by_cases c2 : a0_0 ≥ 0
 ·
  rw [if_pos c2] at H
  have c2b0 := decide_eq_true c2
  clear c2
  by_cases c3 : a0_2 ≥ 0
  ·
   rw [if_pos c3] at H
   have c3b0 := decide_eq_true c3
   clear c3
   by_cases c4 : a0_1 ≥ 1
   ·
    rw [if_pos c4] at H
    have c4b0 := decide_eq_true c4
    clear c4
    by_cases c5 : a0_0 ≤ 65536
    ·
     rw [if_pos c5] at H
     have c5b0 := decide_eq_true c5
     clear c5
     by_cases c6 : a0_2 ≤ 65536
     ·
      rw [if_pos c6] at H
      have c6b0 := decide_eq_true c6
      clear c6
      by_cases c7 : a0_1 ≤ 65536
      ·
       rw [if_pos c7] at H
       have c7b0 := decide_eq_true c7
       clear c7
       by_cases c8 : (wrap64 (a0_0 + a0_1)) ≤ 65536
       ·
        rw [if_pos c8] at H
        have c8b0 := decide_eq_true c8
        clear c8
        obtain rfl := Option.some.inj H
        go_enter Try.func26, Try.ntmps26
        go_wp2_with (first | ((with_reducible refine gate_dst (N := 1) rfl ?_); refine box_event ?hg (N := 1) ?hd (cs := #[.int .i64 a0_0, .int .i64 a0_1, .int .i64 a0_2]) (t := 33) ?hr ?_; (case hd => rfl); (case hg => rfl); (case hr => first | (go_simp; done) | (go_simp; rfl)); intro gb214 hg w9 hbox hb; have BK214 := Aside0.mk (hbox); have GW214 := Aside0.mk ((by rw [hg]; exact (below_size (bU HB.out)) : w.heap.size ≤ gb214)); have GE214 := Aside0.mk ((by rw [hg]; exact (below_size (bU HB.out)) : w.heap.size ≤ gb214)); replace HB := Aside0.mk (below_step (bU HB.out) hb); clear hb hbox hg; have hcz10_0 : w9.cell? ⟨gb214, 0, none⟩ = some (.int .i64 a0_0) := (blk_cell BK214.out 0).trans rfl; have hcz10_1 : w9.cell? ⟨gb214, 1, none⟩ = some (.int .i64 a0_1) := (blk_cell BK214.out 1).trans rfl; have hcz10_2 : w9.cell? ⟨gb214, 2, none⟩ = some (.int .i64 a0_2) := (blk_cell BK214.out 2).trans rfl; have hfz10_0 := blk_frozen BK214.out 0; have hfz10_1 := blk_frozen BK214.out 1; have hfz10_2 := blk_frozen BK214.out 2))
        go_ret
        exact ⟨by first | rfl | (simp [errW_none, errW_some] <;> rfl) | (simp [*, errW_none, errW_some] <;> rfl), by repeat (first | (with_reducible first | exact HB.out | apply below_alloc | apply pw_below_drewN | apply below_drew1 | refine below_set ?_ GE214.out) | exact HB.out)⟩
       ·
        rw [if_neg c8] at H
        have c8b0 := decide_eq_false c8
        clear c8
        obtain rfl := Option.some.inj H
        go_enter Try.func26, Try.ntmps26
        go_wp2_with (first | ((with_reducible refine gate_dst (N := 1) rfl ?_); refine box_event ?hg (N := 1) ?hd (cs := #[.int .i64 a0_0, .int .i64 a0_1, .int .i64 a0_2]) (t := 33) ?hr ?_; (case hd => rfl); (case hg => rfl); (case hr => first | (go_simp; done) | (go_simp; rfl)); intro gb214 hg w11 hbox hb; have BK214 := Aside0.mk (hbox); have GW214 := Aside0.mk ((by rw [hg]; exact (below_size (bU HB.out)) : w.heap.size ≤ gb214)); have GE214 := Aside0.mk ((by rw [hg]; exact (below_size (bU HB.out)) : w.heap.size ≤ gb214)); replace HB := Aside0.mk (below_step (bU HB.out) hb); clear hb hbox hg; have hcz12_0 : w11.cell? ⟨gb214, 0, none⟩ = some (.int .i64 a0_0) := (blk_cell BK214.out 0).trans rfl; have hcz12_1 : w11.cell? ⟨gb214, 1, none⟩ = some (.int .i64 a0_1) := (blk_cell BK214.out 1).trans rfl; have hcz12_2 : w11.cell? ⟨gb214, 2, none⟩ = some (.int .i64 a0_2) := (blk_cell BK214.out 2).trans rfl; have hfz12_0 := blk_frozen BK214.out 0; have hfz12_1 := blk_frozen BK214.out 1; have hfz12_2 := blk_frozen BK214.out 2))
        go_ret
        exact ⟨by first | rfl | (simp [errW_none, errW_some] <;> rfl) | (simp [*, errW_none, errW_some] <;> rfl), by repeat (first | (with_reducible first | exact HB.out | apply below_alloc | apply pw_below_drewN | apply below_drew1 | refine below_set ?_ GE214.out) | exact HB.out)⟩
      ·
       rw [if_neg c7] at H
       have c7b0 := decide_eq_false c7
       clear c7
       obtain rfl := Option.some.inj H
       go_enter Try.func26, Try.ntmps26
       go_wp2_with (first | ((with_reducible refine gate_dst (N := 1) rfl ?_); refine box_event ?hg (N := 1) ?hd (cs := #[.int .i64 a0_0, .int .i64 a0_1, .int .i64 a0_2]) (t := 33) ?hr ?_; (case hd => rfl); (case hg => rfl); (case hr => first | (go_simp; done) | (go_simp; rfl)); intro gb214 hg w13 hbox hb; have BK214 := Aside0.mk (hbox); have GW214 := Aside0.mk ((by rw [hg]; exact (below_size (bU HB.out)) : w.heap.size ≤ gb214)); have GE214 := Aside0.mk ((by rw [hg]; exact (below_size (bU HB.out)) : w.heap.size ≤ gb214)); replace HB := Aside0.mk (below_step (bU HB.out) hb); clear hb hbox hg; have hcz14_0 : w13.cell? ⟨gb214, 0, none⟩ = some (.int .i64 a0_0) := (blk_cell BK214.out 0).trans rfl; have hcz14_1 : w13.cell? ⟨gb214, 1, none⟩ = some (.int .i64 a0_1) := (blk_cell BK214.out 1).trans rfl; have hcz14_2 : w13.cell? ⟨gb214, 2, none⟩ = some (.int .i64 a0_2) := (blk_cell BK214.out 2).trans rfl; have hfz14_0 := blk_frozen BK214.out 0; have hfz14_1 := blk_frozen BK214.out 1; have hfz14_2 := blk_frozen BK214.out 2))
       go_ret
       exact ⟨by first | rfl | (simp [errW_none, errW_some] <;> rfl) | (simp [*, errW_none, errW_some] <;> rfl), by repeat (first | (with_reducible first | exact HB.out | apply below_alloc | apply pw_below_drewN | apply below_drew1 | refine below_set ?_ GE214.out) | exact HB.out)⟩
     ·
      rw [if_neg c6] at H
      have c6b0 := decide_eq_false c6
      clear c6
      obtain rfl := Option.some.inj H
      go_enter Try.func26, Try.ntmps26
      go_wp2_with (first | ((with_reducible refine gate_dst (N := 1) rfl ?_); refine box_event ?hg (N := 1) ?hd (cs := #[.int .i64 a0_0, .int .i64 a0_1, .int .i64 a0_2]) (t := 33) ?hr ?_; (case hd => rfl); (case hg => rfl); (case hr => first | (go_simp; done) | (go_simp; rfl)); intro gb214 hg w15 hbox hb; have BK214 := Aside0.mk (hbox); have GW214 := Aside0.mk ((by rw [hg]; exact (below_size (bU HB.out)) : w.heap.size ≤ gb214)); have GE214 := Aside0.mk ((by rw [hg]; exact (below_size (bU HB.out)) : w.heap.size ≤ gb214)); replace HB := Aside0.mk (below_step (bU HB.out) hb); clear hb hbox hg; have hcz16_0 : w15.cell? ⟨gb214, 0, none⟩ = some (.int .i64 a0_0) := (blk_cell BK214.out 0).trans rfl; have hcz16_1 : w15.cell? ⟨gb214, 1, none⟩ = some (.int .i64 a0_1) := (blk_cell BK214.out 1).trans rfl; have hcz16_2 : w15.cell? ⟨gb214, 2, none⟩ = some (.int .i64 a0_2) := (blk_cell BK214.out 2).trans rfl; have hfz16_0 := blk_frozen BK214.out 0; have hfz16_1 := blk_frozen BK214.out 1; have hfz16_2 := blk_frozen BK214.out 2))
      go_ret
      exact ⟨by first | rfl | (simp [errW_none, errW_some] <;> rfl) | (simp [*, errW_none, errW_some] <;> rfl), by repeat (first | (with_reducible first | exact HB.out | apply below_alloc | apply pw_below_drewN | apply below_drew1 | refine below_set ?_ GE214.out) | exact HB.out)⟩
    ·
     rw [if_neg c5] at H
     have c5b0 := decide_eq_false c5
     clear c5
     obtain rfl := Option.some.inj H
     go_enter Try.func26, Try.ntmps26
     go_wp2_with (first | ((with_reducible refine gate_dst (N := 1) rfl ?_); refine box_event ?hg (N := 1) ?hd (cs := #[.int .i64 a0_0, .int .i64 a0_1, .int .i64 a0_2]) (t := 33) ?hr ?_; (case hd => rfl); (case hg => rfl); (case hr => first | (go_simp; done) | (go_simp; rfl)); intro gb214 hg w17 hbox hb; have BK214 := Aside0.mk (hbox); have GW214 := Aside0.mk ((by rw [hg]; exact (below_size (bU HB.out)) : w.heap.size ≤ gb214)); have GE214 := Aside0.mk ((by rw [hg]; exact (below_size (bU HB.out)) : w.heap.size ≤ gb214)); replace HB := Aside0.mk (below_step (bU HB.out) hb); clear hb hbox hg; have hcz18_0 : w17.cell? ⟨gb214, 0, none⟩ = some (.int .i64 a0_0) := (blk_cell BK214.out 0).trans rfl; have hcz18_1 : w17.cell? ⟨gb214, 1, none⟩ = some (.int .i64 a0_1) := (blk_cell BK214.out 1).trans rfl; have hcz18_2 : w17.cell? ⟨gb214, 2, none⟩ = some (.int .i64 a0_2) := (blk_cell BK214.out 2).trans rfl; have hfz18_0 := blk_frozen BK214.out 0; have hfz18_1 := blk_frozen BK214.out 1; have hfz18_2 := blk_frozen BK214.out 2))
     go_ret
     exact ⟨by first | rfl | (simp [errW_none, errW_some] <;> rfl) | (simp [*, errW_none, errW_some] <;> rfl), by repeat (first | (with_reducible first | exact HB.out | apply below_alloc | apply pw_below_drewN | apply below_drew1 | refine below_set ?_ GE214.out) | exact HB.out)⟩
   ·
    rw [if_neg c4] at H
    have c4b0 := decide_eq_false c4
    clear c4
    obtain rfl := Option.some.inj H
    go_enter Try.func26, Try.ntmps26
    go_wp2_with (first | ((with_reducible refine gate_dst (N := 1) rfl ?_); refine box_event ?hg (N := 1) ?hd (cs := #[.int .i64 a0_0, .int .i64 a0_1, .int .i64 a0_2]) (t := 33) ?hr ?_; (case hd => rfl); (case hg => rfl); (case hr => first | (go_simp; done) | (go_simp; rfl)); intro gb214 hg w19 hbox hb; have BK214 := Aside0.mk (hbox); have GW214 := Aside0.mk ((by rw [hg]; exact (below_size (bU HB.out)) : w.heap.size ≤ gb214)); have GE214 := Aside0.mk ((by rw [hg]; exact (below_size (bU HB.out)) : w.heap.size ≤ gb214)); replace HB := Aside0.mk (below_step (bU HB.out) hb); clear hb hbox hg; have hcz20_0 : w19.cell? ⟨gb214, 0, none⟩ = some (.int .i64 a0_0) := (blk_cell BK214.out 0).trans rfl; have hcz20_1 : w19.cell? ⟨gb214, 1, none⟩ = some (.int .i64 a0_1) := (blk_cell BK214.out 1).trans rfl; have hcz20_2 : w19.cell? ⟨gb214, 2, none⟩ = some (.int .i64 a0_2) := (blk_cell BK214.out 2).trans rfl; have hfz20_0 := blk_frozen BK214.out 0; have hfz20_1 := blk_frozen BK214.out 1; have hfz20_2 := blk_frozen BK214.out 2))
    go_ret
    exact ⟨by first | rfl | (simp [errW_none, errW_some] <;> rfl) | (simp [*, errW_none, errW_some] <;> rfl), by repeat (first | (with_reducible first | exact HB.out | apply below_alloc | apply pw_below_drewN | apply below_drew1 | refine below_set ?_ GE214.out) | exact HB.out)⟩
  ·
   rw [if_neg c3] at H
   have c3b0 := decide_eq_false c3
   clear c3
   obtain rfl := Option.some.inj H
   go_enter Try.func26, Try.ntmps26
   go_wp2_with (first | ((with_reducible refine gate_dst (N := 1) rfl ?_); refine box_event ?hg (N := 1) ?hd (cs := #[.int .i64 a0_0, .int .i64 a0_1, .int .i64 a0_2]) (t := 33) ?hr ?_; (case hd => rfl); (case hg => rfl); (case hr => first | (go_simp; done) | (go_simp; rfl)); intro gb214 hg w21 hbox hb; have BK214 := Aside0.mk (hbox); have GW214 := Aside0.mk ((by rw [hg]; exact (below_size (bU HB.out)) : w.heap.size ≤ gb214)); have GE214 := Aside0.mk ((by rw [hg]; exact (below_size (bU HB.out)) : w.heap.size ≤ gb214)); replace HB := Aside0.mk (below_step (bU HB.out) hb); clear hb hbox hg; have hcz22_0 : w21.cell? ⟨gb214, 0, none⟩ = some (.int .i64 a0_0) := (blk_cell BK214.out 0).trans rfl; have hcz22_1 : w21.cell? ⟨gb214, 1, none⟩ = some (.int .i64 a0_1) := (blk_cell BK214.out 1).trans rfl; have hcz22_2 : w21.cell? ⟨gb214, 2, none⟩ = some (.int .i64 a0_2) := (blk_cell BK214.out 2).trans rfl; have hfz22_0 := blk_frozen BK214.out 0; have hfz22_1 := blk_frozen BK214.out 1; have hfz22_2 := blk_frozen BK214.out 2))
   go_ret
   exact ⟨by first | rfl | (simp [errW_none, errW_some] <;> rfl) | (simp [*, errW_none, errW_some] <;> rfl), by repeat (first | (with_reducible first | exact HB.out | apply below_alloc | apply pw_below_drewN | apply below_drew1 | refine below_set ?_ GE214.out) | exact HB.out)⟩
 ·
  rw [if_neg c2] at H
  have c2b0 := decide_eq_false c2
  clear c2
  obtain rfl := Option.some.inj H
  go_enter Try.func26, Try.ntmps26
  go_wp2_with (first | ((with_reducible refine gate_dst (N := 1) rfl ?_); refine box_event ?hg (N := 1) ?hd (cs := #[.int .i64 a0_0, .int .i64 a0_1, .int .i64 a0_2]) (t := 33) ?hr ?_; (case hd => rfl); (case hg => rfl); (case hr => first | (go_simp; done) | (go_simp; rfl)); intro gb214 hg w23 hbox hb; have BK214 := Aside0.mk (hbox); have GW214 := Aside0.mk ((by rw [hg]; exact (below_size (bU HB.out)) : w.heap.size ≤ gb214)); have GE214 := Aside0.mk ((by rw [hg]; exact (below_size (bU HB.out)) : w.heap.size ≤ gb214)); replace HB := Aside0.mk (below_step (bU HB.out) hb); clear hb hbox hg; have hcz24_0 : w23.cell? ⟨gb214, 0, none⟩ = some (.int .i64 a0_0) := (blk_cell BK214.out 0).trans rfl; have hcz24_1 : w23.cell? ⟨gb214, 1, none⟩ = some (.int .i64 a0_1) := (blk_cell BK214.out 1).trans rfl; have hcz24_2 : w23.cell? ⟨gb214, 2, none⟩ = some (.int .i64 a0_2) := (blk_cell BK214.out 2).trans rfl; have hfz24_0 := blk_frozen BK214.out 0; have hfz24_1 := blk_frozen BK214.out 1; have hfz24_2 := blk_frozen BK214.out 2))
  go_ret
  exact ⟨by first | rfl | (simp [errW_none, errW_some] <;> rfl) | (simp [*, errW_none, errW_some] <;> rfl), by repeat (first | (with_reducible first | exact HB.out | apply below_alloc | apply pw_below_drewN | apply below_drew1 | refine below_set ?_ GE214.out) | exact HB.out)⟩

end Go.Proofs.Ytcgihjpnemnkeaa.PExtentRuns
