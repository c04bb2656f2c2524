-- Written for this claim by a program of this session (wip/), out of the translation's own print: Lean checks it
import Derived.Test.YtcjpikjbjehjeaaPAllocx0
import Derived.Test.YtcjpikjbjehjeaaPAllocx2
import Derived.Test.YtcjpikjbjehjeaaPAllocx9
import Derived.Test.YtcjpikjbjehjeaaPAllocx10
import Derived.Test.YtcjpikjbjehjeaaPAllocx11
namespace Go.Proofs.Ytcjpikjbjehjeaa.PAlloc
open Go.RowKit Go.Proofs.YtcjpikjbjehjeaaW.PrintWords Go.Proofs.YtcjpikjbjehjeaaW.PrintLast Go.Proofs.YtcjpikjbjehjeaaW.PrintMore
attribute [local go_sem] max2_int min2_int max_two min_two max_three min_three max_four min_four   -- for this text's walks alone
set_option linter.unusedVariables false
set_option linter.unusedSimpArgs false

/-! ### tegulalaw35_AllocLarge: function 3 -/
def tegulalaw35_AllocLarge.l0 : Nat → List Int → Int → Int → Int → List (S53) → Option (Bool)
 | 0, _, _, _, _, _ => none
 | k + 1, x0, x5, x6, x410000, x410001 => if x6 < (x0.length : Int) then (if 0 ≤ x6 then ((alloc_Map_Take.f k x410000 x410001 (wrap64 (1 + (wrap64 (rd x0 x6)))) x5).bind fun bt413 => (if (wrap64 (x5 + (wrap64 (1 + (wrap64 (rd x0 x6)))))) > 65536 then (some (bt413.2.2.2 == 11)) else (if bt413.2.2.2 = 0 then ((tegulalaw35_run.f x5 (wrap64 (1 + (wrap64 (rd x0 x6))))).bind fun t422 => ((tegularef32_Same.f k bt413.1 t422).bind fun t425 => (if t425 = true then (tegulalaw35_AllocLarge.l0 k x0 (wrap64 (x5 + (wrap64 (1 + (wrap64 (rd x0 x6)))))) (wrap64 (x6 + 1)) bt413.2.1 bt413.2.2.1) else (some false)))) else (some false)))) else (none)) else ((alloc_Map_Free.f k x410000 x410001).bind fun t410 => (if t410 = (wrap64 (65536 - x5)) then ((alloc_Map_Largest.f k x410000 x410001).bind fun t411 => (some (t411 == (wrap64 (65536 - x5))))) else (some false)))
def tegulalaw35_AllocLarge.f (k : Nat) (l0 : List Int) : Option (Bool) := (tegulalaw35_awake.f k).bind fun t403 => (if t403 = true then (if (l0.length : Int) > 12 then (some true) else ((alloc_New.f k 65536).bind fun bt404 => (if bt404.2.2 = 0 then (tegulalaw35_AllocLarge.l0 k l0 0 0 bt404.1 bt404.2.1) else (some false)))) else (some false))
theorem tegulalaw35_AllocLarge.mono_l : ∀ k, (∀ y0 y1 y2 y3 y4, LeO (tegulalaw35_AllocLarge.l0 k y0 y1 y2 y3 y4) (tegulalaw35_AllocLarge.l0 (k + 1) y0 y1 y2 y3 y4))
 | 0 => fun _ _ _ _ _ r h => by simp [tegulalaw35_AllocLarge.l0] at h
 | k + 1 => by
  have ih0 := tegulalaw35_AllocLarge.mono_l k
  ·
   intro y0 y1 y2 y3 y4
   unfold tegulalaw35_AllocLarge.l0
   repeat' first
   | (with_reducible exact ih0 _ _ _ _ _)
   | (with_reducible exact alloc_Map_Free.mono _ _ _)
   | (with_reducible exact alloc_Map_Largest.mono _ _ _)
   | (with_reducible exact alloc_Map_Take.mono _ _ _ _ _)
   | (with_reducible exact alloc_New.mono _ _)
   | (with_reducible exact tegulalaw35_awake.mono _)
   | (with_reducible exact tegularef32_Same.mono _ _ _)
   | (with_reducible exact LeO.refl _)
   | (with_reducible exact LeO.none _)
   | (with_reducible refine LeO.ite ?_ ?_)
   | (with_reducible refine LeO.bind ?_ (fun _ => ?_))
   | exact ih0 _ _ _ _ _
   | exact alloc_Map_Free.mono _ _ _
   | exact alloc_Map_Largest.mono _ _ _
   | exact alloc_Map_Take.mono _ _ _ _ _
   | exact alloc_New.mono _ _
   | exact tegulalaw35_awake.mono _
   | exact tegularef32_Same.mono _ _ _
   | exact LeO.none _
   | refine LeO.ite ?_ ?_
   | refine LeO.bind ?_ (fun _ => ?_)
theorem tegulalaw35_AllocLarge.mono : ∀ a0 k, LeO (tegulalaw35_AllocLarge.f k a0) (tegulalaw35_AllocLarge.f (k + 1) a0) := by
 intro a0 k
 have ih0 := tegulalaw35_AllocLarge.mono_l k
 unfold tegulalaw35_AllocLarge.f
 repeat' first
   | (with_reducible exact ih0 _ _ _ _ _)
   | (with_reducible exact alloc_Map_Free.mono _ _ _)
   | (with_reducible exact alloc_Map_Largest.mono _ _ _)
   | (with_reducible exact alloc_Map_Take.mono _ _ _ _ _)
   | (with_reducible exact alloc_New.mono _ _)
   | (with_reducible exact tegulalaw35_awake.mono _)
   | (with_reducible exact tegularef32_Same.mono _ _ _)
   | (with_reducible exact LeO.refl _)
   | (with_reducible exact LeO.none _)
   | (with_reducible refine LeO.ite ?_ ?_)
   | (with_reducible refine LeO.bind ?_ (fun _ => ?_))
   | exact ih0 _ _ _ _ _
   | exact alloc_Map_Free.mono _ _ _
   | exact alloc_Map_Largest.mono _ _ _
   | exact alloc_Map_Take.mono _ _ _ _ _
   | exact alloc_New.mono _ _
   | exact tegulalaw35_awake.mono _
   | exact tegularef32_Same.mono _ _ _
   | exact LeO.none _
   | refine LeO.ite ?_ ?_
   | refine LeO.bind ?_ (fun _ => ?_)
set_option maxHeartbeats 8000000 in
set_option maxRecDepth 100000 in
theorem tegulalaw35_AllocLarge.calls (k : Nat) (A0 : Option Addr) (c0 : Nat) (l0 : List Int) (r : Bool) (w : World) (hr0 : Kd.C (Kd.int .u16) w A0 l0.length l0) (hc0 : l0.length ≤ c0) (h : tegulalaw35_AllocLarge.f k l0 = some r) :
  Calls Try.prog 3 #[.slice A0 l0.length c0] w fun e w' => e = .returned (.bool r) ∧ Below w.heap.size w w' := by
 have hu26 := Try.underlying26
 have HR0 := Aside0.mk hr0
 have HC0 := Aside0.mk hc0
 clear hr0 hc0
 have HB := Aside0.mk (Below.refl w.heap.size w)
 have H : ((tegulalaw35_awake.f k).bind fun t403 => (if t403 = true then (if (l0.length : Int) > 12 then (some true) else ((alloc_New.f k 65536).bind fun bt404 => (if bt404.2.2 = 0 then (tegulalaw35_AllocLarge.l0 k l0 0 0 bt404.1 bt404.2.1) else (some false)))) else (some false))) = some r := h
 clear h
 replace H := Option.bind_eq_some_iff.mp H
 obtain ⟨t403, A20, H⟩ := H
 replace H : (if t403 = true then (if (l0.length : Int) > 12 then (some true) else ((alloc_New.f k 65536).bind fun bt404 => (if bt404.2.2 = 0 then (tegulalaw35_AllocLarge.l0 k l0 0 0 bt404.1 bt404.2.1) else (some false)))) else (some false)) = some r := H
 have A2 := Aside0.mk A20
 clear A20
 by_cases c3 : t403 = true
 ·
  subst c3
  have H1 : (if (l0.length : Int) > 12 then (some true) else ((alloc_New.f k 65536).bind fun bt404 => (if bt404.2.2 = 0 then (tegulalaw35_AllocLarge.l0 k l0 0 0 bt404.1 bt404.2.1) else (some false)))) = some r := by rw [if_pos rfl] at H; exact H
  clear H
  have H := H1
  clear H1
  by_cases c4 : (l0.length : Int) > 12
  ·
   rw [if_pos c4] at H
   have c4b0 := decide_eq_true c4
   have c4b1 : decide (12 < l0.length) = true := decide_eq_true (by omega)
   clear c4
   obtain rfl := Option.some.inj H
   go_enter Try.func3, Try.ntmps3
   go_wp2_with (first | ((with_reducible refine gate_callee (f := 10) rfl ?_); refine goesL_ (some 11) rfl rfl Try.func10 (by kernel_rfl) rfl #[] rfl (by (try simp only [List.map_toArray, List.map_cons, List.map_nil]); first | done | rfl | (simp only [List.length_drop, List.length_take]; rfl)) ?_; (with_reducible refine (tegulalaw35_awake.calls k  true _ A2.out).mono ?_); rintro e w5 ⟨rfl, hb⟩; refine ⟨_, rfl, ?_⟩; replace HB := Aside0.mk (below_step (bU HB.out) hb); (try clear hb)))
   go_ret
   exact ⟨by first | rfl | (simp [errW_none, errW_some] <;> rfl) | (simp [*, errW_none, errW_some] <;> rfl), bU HB.out⟩
  ·
   rw [if_neg c4] at H
   have c4b0 := decide_eq_false c4
   have c4b1 : decide (12 < l0.length) = false := decide_eq_false (by omega)
   clear c4
   replace H := Option.bind_eq_some_iff.mp H
   obtain ⟨⟨t404, t405, t408⟩, A60, H⟩ := H
   replace H : (if t408 = 0 then (tegulalaw35_AllocLarge.l0 k l0 0 0 t404 t405) else (some false)) = some r := H
   have A6 := Aside0.mk A60
   clear A60
   by_cases c7 : t408 = 0
   ·
    rw [if_pos c7] at H
    have c7b0 : (t408 == 0) = true := beq_iff_eq.mpr c7
    have c7b1 : (t408 != 0) = false := bne_eq_false_iff_eq.mpr c7
    clear c7
    have H' := Aside0.mk H
    clear H
    go_enter Try.func3, Try.ntmps3
    go_wp2_with (first | ((with_reducible refine gate_callee (f := 10) rfl ?_); refine goesL_ (some 11) rfl rfl Try.func10 (by kernel_rfl) rfl #[] rfl (by (try simp only [List.map_toArray, List.map_cons, List.map_nil]); first | done | rfl | (simp only [List.length_drop, List.length_take]; rfl)) ?_; (with_reducible refine (tegulalaw35_awake.calls k  true _ A2.out).mono ?_); rintro e w8 ⟨rfl, hb⟩; refine ⟨_, rfl, ?_⟩; replace HB := Aside0.mk (below_step (bU HB.out) hb); (try clear hb)) | ((with_reducible refine gate_callee (f := 11) rfl ?_); refine goesL_ (some 17) rfl rfl Try.func11 (by kernel_rfl) rfl #[.int .i64 65536] rfl (by (try simp only [List.map_toArray, List.map_cons, List.map_nil]); first | done | rfl | (simp only [List.length_drop, List.length_take]; rfl)) ?_; (with_reducible refine (alloc_New.calls k 65536 t404 t405 t408 _ A6.out).mono ?_); rintro e w9 ⟨v406, rfl, ho0, hb⟩; refine ⟨_, rfl, ?_⟩; have HO407 := Aside0.mk (Kd.R_lower ho0 (below_size (bU HB.out))); replace HB := Aside0.mk (below_step (bU HB.out) hb); (try clear hb); (try clear ho0)) | ((with_reducible refine gate_dst (N := 3) rfl ?_); refine box_event ?hg (N := 3) ?hd (cs := #[.int .i64 0, .slice none 0 0]) (t := 26) ?hr ?_; (case hd => rfl); (case hg => rfl); (case hr => first | (go_simp; done) | (go_simp; rfl)); intro gb409 hg w10 hbox hb; replace HO407 := Aside0.mk (Kd.R_below (rU HO407.out) hb); have BK409 := Aside0.mk (hbox); have GW409 := Aside0.mk ((by rw [hg]; exact (below_size (bU HB.out)) : w.heap.size ≤ gb409)); have GE409 := Aside0.mk ((by rw [hg]; exact (below_size (bU HB.out)) : w.heap.size ≤ gb409)); replace HB := Aside0.mk (below_step (bU HB.out) hb); clear hb hbox hg; have hcz11_0 : w10.cell? ⟨gb409, 0, none⟩ = some (.int .i64 0) := (blk_cell BK409.out 0).trans rfl; have hcz11_1 : w10.cell? ⟨gb409, 1, none⟩ = some (.slice none 0 0) := (blk_cell BK409.out 1).trans rfl; have hfz11_0 := blk_frozen BK409.out 0; have hfz11_1 := blk_frozen BK409.out 1; obtain ⟨Ao12, co12, eo12⟩ := Kd.R_slice HO407.out; subst eo12))
    go_loopg [5, 6] k (fun kq v5 v6 w' => ∃ (x5_1 : Int) (x6_1 : Int) (x410000_1 : Int) (x410001_1 : List (S53)) (u410001 : Value), v5 = .int .i64 x5_1 ∧ v6 = .int .i64 x6_1 ∧ Aside0 (tegulalaw35_AllocLarge.l0 kq l0 x5_1 x6_1 x410000_1 x410001_1 = some r) ∧ Aside0 (kq ≤ k) ∧ Aside0 (Kd.V k53 53 w' w.heap.size (fun k_ => k_ ≠ gb409) u410001 x410001_1) ∧ Aside0 (w'.heap[gb409]? = some (.cells #[.int .i64 x410000_1, u410001] 26 (0, 0))) ∧ Aside0 (Below w.heap.size w w'))
    case atStart => exact ⟨(0), (0), (t404), (t405), (.slice Ao12 t405.length co12), (by first | rfl | (simp; done) | (simp [*]; done)), (by first | rfl | (simp; done) | (simp [*]; done)), H', ⟨Nat.le_refl _⟩, ⟨Kd.R_V (rU (Kd.R_mono (Kd.R_far (p := ⟨gb409, 1, none⟩) (Kd.R_far (p := ⟨gb409, 0, none⟩) (Kd.R_types (Kd.R_types HO407.out BK409.out (by decide)) BK409.out (by decide)) (fun _ hk => hk.2) (.int .i64 t404)) (fun _ hk => hk.2) (.slice Ao12 t405.length co12)) (fun _ hk => hk.1.2)))⟩, ⟨by (with_reducible repeat (first | refine blk_drewN ?_ _ | refine blk_drew ?_ | refine blk_alloc ?_ _)); refine blk_put (cs := #[.int .i64 t404, .slice none 0 0]) ?_ 1 _ rfl; (with_reducible repeat (first | refine blk_drewN ?_ _ | refine blk_drew ?_ | refine blk_alloc ?_ _)); refine blk_put (cs := #[.int .i64 0, .slice none 0 0]) ?_ 0 _ rfl; (with_reducible repeat (first | refine blk_drewN ?_ _ | refine blk_drew ?_ | refine blk_alloc ?_ _)); exact BK409.out⟩, ⟨by repeat (first | (with_reducible first | exact HB.out | apply below_alloc | apply pw_below_drewN | apply below_drew1 | refine below_set ?_ GE409.out) | exact HB.out)⟩⟩
    case round =>
     clear H'
     try clear c1
     try clear p2
     try clear c3
     try clear c4
     try clear c4b0
     try clear c4b1
     try clear c7
     try clear c7b0
     try clear c7b1
     try clear c10
     try clear c11
     try clear hcz11_0
     try clear hcz11_1
     try clear hfz11_0
     try clear hfz11_1
     obtain ⟨x5_1, x6_1, x410000_1, x410001_1, u410001, rfl, rfl, HA, HK1, HO_410001, BK409, HB⟩ := hrel
     cases gk with
     | zero => exact absurd HA.out (by simp [tegulalaw35_AllocLarge.l0])
     | succ k1 =>
      have H := HA.out
      clear HA
      simp only [tegulalaw35_AllocLarge.l0] at H
      by_cases c13 : x6_1 < (l0.length : Int)
      ·
       rw [if_pos c13] at H
       have c13b0 := decide_eq_true c13
       clear c13
       by_cases c14 : 0 ≤ x6_1
       ·
        rw [if_pos c14] at H
        have c14b0 := decide_eq_true c14
        clear c14
        replace H := Option.bind_eq_some_iff.mp H
        obtain ⟨⟨t413, t416, t417, t420⟩, A150, H⟩ := H
        replace H : (if (wrap64 (x5_1 + (wrap64 (1 + (wrap64 (rd l0 x6_1)))))) > 65536 then (some (t420 == 11)) else (if t420 = 0 then ((tegulalaw35_run.f x5_1 (wrap64 (1 + (wrap64 (rd l0 x6_1))))).bind fun t422 => ((tegularef32_Same.f k1 t413 t422).bind fun t425 => (if t425 = true then (tegulalaw35_AllocLarge.l0 k1 l0 (wrap64 (x5_1 + (wrap64 (1 + (wrap64 (rd l0 x6_1)))))) (wrap64 (x6_1 + 1)) t416 t417) else (some false)))) else (some false))) = some r := H
        have A15 := Aside0.mk A150
        clear A150
        by_cases c16 : (wrap64 (x5_1 + (wrap64 (1 + (wrap64 (rd l0 x6_1)))))) > 65536
        ·
         rw [if_pos c16] at H
         have c16b0 := decide_eq_true c16
         clear c16
         obtain rfl := Option.some.inj H
         have p412 : 0 ≤ (x6_1 : Int) := of_decide_eq_true (by first | (with_reducible assumption) | assumption)
         have q412 : x6_1 < (l0.length : Int) := of_decide_eq_true (by first | (with_reducible assumption) | assumption)
         obtain ⟨ad412, e412, hx412_0⟩ := Kd.at_int HR0.out x6_1 p412 q412
         cases e412
         replace hx412_0 := (HB.out.cell (World.block_lt_of_cell? w _ hx412_0)).trans hx412_0
         replace p412 := eq_true p412
         replace q412 := eq_true q412
         have hcz17_0 : wr.cell? ⟨gb409, 0, none⟩ = some (.int .i64 x410000_1) := (blk_cell BK409.out 0).trans rfl
         have hcz17_1 : wr.cell? ⟨gb409, 1, none⟩ = some (u410001) := (blk_cell BK409.out 1).trans rfl
         have hfz17_0 := blk_frozen BK409.out 0
         have hfz17_1 := blk_frozen BK409.out 1
         obtain ⟨Ao18, co18, eo18⟩ := Kd.V_slice HO_410001.out
         subst eo18
         go_wp2_with (first | ((with_reducible refine gate_callee (f := 12) rfl ?_); refine goesL_ (some 38) rfl rfl Try.func12 (by kernel_rfl) rfl #[.agg #[.int .i64 x410000_1, .slice Ao18 x410001_1.length co18], .int .i64 (wrap64 (1 + (wrap64 (rd l0 x6_1)))), .int .i64 x5_1] rfl (by (try simp only [List.map_toArray, List.map_cons, List.map_nil]); first | done | rfl | (simp only [List.length_drop, List.length_take]; rfl)) ?_; (with_reducible refine (alloc_Map_Take.calls k1 x410000_1 (fun k_ => k_ ≠ gb409) _ _ x410001_1 (wrap64 (1 + (wrap64 (rd l0 x6_1)))) x5_1 t413 t416 t417 t420 _ ?side1 A15.out).mono ?_); (case side1 => exact HO_410001.out); rintro e w19 ⟨v414, v418, rfl, ho0, ho1, hb⟩; refine ⟨_, rfl, ?_⟩; replace HO_410001 := Aside0.mk (Kd.V_elder' (by (with_reducible repeat (first | apply Kd.V_alloc | apply Kd.V_drewN | apply Kd.V_drew)); exact HO_410001.out) (Kd.R_base ho0) hb); have HO415 := Aside0.mk (Kd.R_lower (Kd.R_mono (ok' := fun k_ => True) ho0 (fun _ hk_ => trivial)) (below_size (by repeat (first | (with_reducible first | exact HB.out | apply below_alloc | apply pw_below_drewN | apply below_drew1 | refine below_set ?_ GE409.out) | exact HB.out)))); have HO419 := Aside0.mk (Kd.V_lower (Kd.V_mono (ok' := fun k_ => some k_ ≠ (v414 : Value).ownBlock ∧ k_ ≠ gb409) ho1 (fun k_ hk_ => ⟨hk_.2, Or.elim hk_.1 (fun hs_ => hs_) (fun hn_ => (Kd.freshB (g := gb409) (o := .cells #[.int .i64 x410000_1, .slice Ao18 x410001_1.length co18] 26 (0, 0)) (kU BK409.out) k_ hn_))⟩)) (below_size (by repeat (first | (with_reducible first | exact HB.out | apply below_alloc | apply pw_below_drewN | apply below_drew1 | refine below_set ?_ GE409.out) | exact HB.out)))); replace BK409 := Aside0.mk (blk_below (g := gb409) (o := .cells #[.int .i64 x410000_1, .slice Ao18 x410001_1.length co18] 26 (0, 0)) (kU BK409.out) hb); replace HB := Aside0.mk (below_step (by repeat (first | (with_reducible first | exact HB.out | apply below_alloc | apply pw_below_drewN | apply below_drew1 | refine below_set ?_ GE409.out) | exact HB.out)) hb); (try clear hb); (try clear ho0); (try clear ho1)) | ((with_reducible refine gate_dst (N := 9) rfl ?_); refine box_event ?hg (N := 9) ?hd (cs := #[.int .i64 0, .slice none 0 0]) (t := 26) ?hr ?_; (case hd => rfl); (case hg => rfl); (case hr => first | (go_simp; done) | (go_simp; rfl)); intro gb421 hg w20 hbox hb; replace HO_410001 := Aside0.mk (Kd.V_below (Kd.V_elderB (by (with_reducible repeat (first | apply Kd.V_alloc | apply Kd.V_drewN | apply Kd.V_drew)); exact HO_410001.out) gb421 (Nat.le_of_eq hg.symm)) hb); replace HO415 := Aside0.mk (Kd.R_below (rU HO415.out) hb); replace HO419 := Aside0.mk (Kd.V_below (Kd.V_elderB (by (with_reducible repeat (first | apply Kd.V_alloc | apply Kd.V_drewN | apply Kd.V_drew)); exact HO419.out) gb421 (Nat.le_of_eq hg.symm)) hb); have BK421 := Aside0.mk (hbox); have GW421 := Aside0.mk ((by rw [hg]; exact (below_size (by repeat (first | (with_reducible first | exact HB.out | apply below_alloc | apply pw_below_drewN | apply below_drew1 | refine below_set ?_ GE409.out) | exact HB.out))) : w.heap.size ≤ gb421)); have GE421 := Aside0.mk ((by rw [hg]; exact (below_size (by repeat (first | (with_reducible first | exact HB.out | apply below_alloc | apply pw_below_drewN | apply below_drew1 | refine below_set ?_ GE409.out) | exact HB.out))) : w.heap.size ≤ gb421)); replace HB := Aside0.mk (below_step (by repeat (first | (with_reducible first | exact HB.out | apply below_alloc | apply pw_below_drewN | apply below_drew1 | refine below_set ?_ GE409.out) | exact HB.out)) hb); have NB409_421 := Aside0.mk ((by rw [hg]; exact Nat.ne_of_lt (blk_lt (g := gb409) (o := .cells #[.int .i64 x410000_1, .slice Ao18 x410001_1.length co18] 26 (0, 0)) (kU BK409.out)) : gb409 ≠ gb421)); have NB421_409 := Aside0.mk ((by rw [hg]; exact Nat.ne_of_gt (blk_lt (g := gb409) (o := .cells #[.int .i64 x410000_1, .slice Ao18 x410001_1.length co18] 26 (0, 0)) (kU BK409.out)) : gb421 ≠ gb409)); replace BK409 := Aside0.mk (blk_below (g := gb409) (o := .cells #[.int .i64 x410000_1, .slice Ao18 x410001_1.length co18] 26 (0, 0)) (kU BK409.out) hb); clear hb hbox hg; have hnb21 := NB421_409.out; have hnc21 := NB409_421.out; have hcz22_0 : w20.cell? ⟨gb421, 0, none⟩ = some (.int .i64 0) := (blk_cell BK421.out 0).trans rfl; have hcz22_1 : w20.cell? ⟨gb421, 1, none⟩ = some (.slice none 0 0) := (blk_cell BK421.out 1).trans rfl; have hfz22_0 := blk_frozen BK421.out 0; have hfz22_1 := blk_frozen BK421.out 1; obtain ⟨Ao23, co23, eo23⟩ := Kd.V_slice HO419.out; subst eo23))
         go_ret
         exact ⟨by first | rfl | (simp [errW_none, errW_some] <;> rfl) | (simp [*, errW_none, errW_some] <;> rfl), by repeat (first | (with_reducible first | exact HB.out | apply below_alloc | apply pw_below_drewN | apply below_drew1 | refine below_set ?_ GE409.out | refine below_set ?_ GE421.out) | exact HB.out)⟩
        ·
         rw [if_neg c16] at H
         have c16b0 := decide_eq_false c16
         clear c16
         by_cases c24 : t420 = 0
         ·
          rw [if_pos c24] at H
          have c24b0 : (t420 == 0) = true := beq_iff_eq.mpr c24
          have c24b1 : (t420 != 0) = false := bne_eq_false_iff_eq.mpr c24
          clear c24
          replace H := Option.bind_eq_some_iff.mp H
          obtain ⟨t422, A250, H⟩ := H
          replace H : ((tegularef32_Same.f k1 t413 t422).bind fun t425 => (if t425 = true then (tegulalaw35_AllocLarge.l0 k1 l0 (wrap64 (x5_1 + (wrap64 (1 + (wrap64 (rd l0 x6_1)))))) (wrap64 (x6_1 + 1)) t416 t417) else (some false))) = some r := H
          have A25 := Aside0.mk A250
          clear A250
          replace H := Option.bind_eq_some_iff.mp H
          obtain ⟨t425, A260, H⟩ := H
          replace H : (if t425 = true then (tegulalaw35_AllocLarge.l0 k1 l0 (wrap64 (x5_1 + (wrap64 (1 + (wrap64 (rd l0 x6_1)))))) (wrap64 (x6_1 + 1)) t416 t417) else (some false)) = some r := H
          have A26 := Aside0.mk A260
          clear A260
          by_cases c27 : t425 = true
          ·
           subst c27
           have H1 : (tegulalaw35_AllocLarge.l0 k1 l0 (wrap64 (x5_1 + (wrap64 (1 + (wrap64 (rd l0 x6_1)))))) (wrap64 (x6_1 + 1)) t416 t417) = some r := by rw [if_pos rfl] at H; exact H
           clear H
           have H := H1
           clear H1
           have H' := Aside0.mk H
           clear H
           have p412 : 0 ≤ (x6_1 : Int) := of_decide_eq_true (by first | (with_reducible assumption) | assumption)
           have q412 : x6_1 < (l0.length : Int) := of_decide_eq_true (by first | (with_reducible assumption) | assumption)
           obtain ⟨ad412, e412, hx412_0⟩ := Kd.at_int HR0.out x6_1 p412 q412
           cases e412
           replace hx412_0 := (HB.out.cell (World.block_lt_of_cell? w _ hx412_0)).trans hx412_0
           replace p412 := eq_true p412
           replace q412 := eq_true q412
           have hcz28_0 : wr.cell? ⟨gb409, 0, none⟩ = some (.int .i64 x410000_1) := (blk_cell BK409.out 0).trans rfl
           have hcz28_1 : wr.cell? ⟨gb409, 1, none⟩ = some (u410001) := (blk_cell BK409.out 1).trans rfl
           have hfz28_0 := blk_frozen BK409.out 0
           have hfz28_1 := blk_frozen BK409.out 1
           obtain ⟨Ao29, co29, eo29⟩ := Kd.V_slice HO_410001.out
           subst eo29
           go_wp2_with (first | ((with_reducible refine gate_callee (f := 12) rfl ?_); refine goesL_ (some 38) rfl rfl Try.func12 (by kernel_rfl) rfl #[.agg #[.int .i64 x410000_1, .slice Ao29 x410001_1.length co29], .int .i64 (wrap64 (1 + (wrap64 (rd l0 x6_1)))), .int .i64 x5_1] rfl (by (try simp only [List.map_toArray, List.map_cons, List.map_nil]); first | done | rfl | (simp only [List.length_drop, List.length_take]; rfl)) ?_; (with_reducible refine (alloc_Map_Take.calls k1 x410000_1 (fun k_ => k_ ≠ gb409) _ _ x410001_1 (wrap64 (1 + (wrap64 (rd l0 x6_1)))) x5_1 t413 t416 t417 t420 _ ?side1 A15.out).mono ?_); (case side1 => exact HO_410001.out); rintro e w30 ⟨v414, v418, rfl, ho0, ho1, hb⟩; refine ⟨_, rfl, ?_⟩; replace HO_410001 := Aside0.mk (Kd.V_elder' (by (with_reducible repeat (first | apply Kd.V_alloc | apply Kd.V_drewN | apply Kd.V_drew)); exact HO_410001.out) (Kd.R_base ho0) hb); have HO415 := Aside0.mk (Kd.R_lower (Kd.R_mono (ok' := fun k_ => True) ho0 (fun _ hk_ => trivial)) (below_size (by repeat (first | (with_reducible first | exact HB.out | apply below_alloc | apply pw_below_drewN | apply below_drew1 | refine below_set ?_ GE409.out) | exact HB.out)))); have HO419 := Aside0.mk (Kd.V_lower (Kd.V_mono (ok' := fun k_ => some k_ ≠ (v414 : Value).ownBlock ∧ k_ ≠ gb409) ho1 (fun k_ hk_ => ⟨hk_.2, Or.elim hk_.1 (fun hs_ => hs_) (fun hn_ => (Kd.freshB (g := gb409) (o := .cells #[.int .i64 x410000_1, .slice Ao29 x410001_1.length co29] 26 (0, 0)) (kU BK409.out) k_ hn_))⟩)) (below_size (by repeat (first | (with_reducible first | exact HB.out | apply below_alloc | apply pw_below_drewN | apply below_drew1 | refine below_set ?_ GE409.out) | exact HB.out)))); replace BK409 := Aside0.mk (blk_below (g := gb409) (o := .cells #[.int .i64 x410000_1, .slice Ao29 x410001_1.length co29] 26 (0, 0)) (kU BK409.out) hb); replace HB := Aside0.mk (below_step (by repeat (first | (with_reducible first | exact HB.out | apply below_alloc | apply pw_below_drewN | apply below_drew1 | refine below_set ?_ GE409.out) | exact HB.out)) hb); (try clear hb); (try clear hk); (try clear ho0); (try clear ho1)) | ((with_reducible refine gate_dst (N := 9) rfl ?_); refine box_event ?hg (N := 9) ?hd (cs := #[.int .i64 0, .slice none 0 0]) (t := 26) ?hr ?_; (case hd => rfl); (case hg => rfl); (case hr => first | (go_simp; done) | (go_simp; rfl)); intro gb421 hg w31 hbox hb; replace HO_410001 := Aside0.mk (Kd.V_below (Kd.V_elderB (by (with_reducible repeat (first | apply Kd.V_alloc | apply Kd.V_drewN | apply Kd.V_drew)); exact HO_410001.out) gb421 (Nat.le_of_eq hg.symm)) hb); replace HO415 := Aside0.mk (Kd.R_below (rU HO415.out) hb); replace HO419 := Aside0.mk (Kd.V_below (Kd.V_elderB (by (with_reducible repeat (first | apply Kd.V_alloc | apply Kd.V_drewN | apply Kd.V_drew)); exact HO419.out) gb421 (Nat.le_of_eq hg.symm)) hb); have BK421 := Aside0.mk (hbox); have GW421 := Aside0.mk ((by rw [hg]; exact (below_size (by repeat (first | (with_reducible first | exact HB.out | apply below_alloc | apply pw_below_drewN | apply below_drew1 | refine below_set ?_ GE409.out) | exact HB.out))) : w.heap.size ≤ gb421)); have GE421 := Aside0.mk ((by rw [hg]; exact (below_size (by repeat (first | (with_reducible first | exact HB.out | apply below_alloc | apply pw_below_drewN | apply below_drew1 | refine below_set ?_ GE409.out) | exact HB.out))) : w.heap.size ≤ gb421)); replace HB := Aside0.mk (below_step (by repeat (first | (with_reducible first | exact HB.out | apply below_alloc | apply pw_below_drewN | apply below_drew1 | refine below_set ?_ GE409.out) | exact HB.out)) hb); have NB409_421 := Aside0.mk ((by rw [hg]; exact Nat.ne_of_lt (blk_lt (g := gb409) (o := .cells #[.int .i64 x410000_1, .slice Ao29 x410001_1.length co29] 26 (0, 0)) (kU BK409.out)) : gb409 ≠ gb421)); have NB421_409 := Aside0.mk ((by rw [hg]; exact Nat.ne_of_gt (blk_lt (g := gb409) (o := .cells #[.int .i64 x410000_1, .slice Ao29 x410001_1.length co29] 26 (0, 0)) (kU BK409.out)) : gb421 ≠ gb409)); replace BK409 := Aside0.mk (blk_below (g := gb409) (o := .cells #[.int .i64 x410000_1, .slice Ao29 x410001_1.length co29] 26 (0, 0)) (kU BK409.out) hb); clear hb hbox hg; have hnb32 := NB421_409.out; have hnc32 := NB409_421.out; have hcz33_0 : w31.cell? ⟨gb421, 0, none⟩ = some (.int .i64 0) := (blk_cell BK421.out 0).trans rfl; have hcz33_1 : w31.cell? ⟨gb421, 1, none⟩ = some (.slice none 0 0) := (blk_cell BK421.out 1).trans rfl; have hfz33_0 := blk_frozen BK421.out 0; have hfz33_1 := blk_frozen BK421.out 1; obtain ⟨Ao34, co34, eo34⟩ := Kd.V_slice HO419.out; subst eo34) | (go_at_call 14; (with_reducible refine (tegulalaw35_run.calls x5_1 (wrap64 (1 + (wrap64 (rd l0 x6_1)))) t422 _ A25.out).mono ?_); rintro e w35 ⟨v423, rfl, ho0, hb⟩; replace HO_410001 := Aside0.mk (Kd.V_elder' (by (with_reducible repeat (first | apply Kd.V_alloc | apply Kd.V_drewN | apply Kd.V_drew)); exact (Kd.V_mono (Kd.V_far (p := ⟨gb421, 1, none⟩) (Kd.V_far (p := ⟨gb421, 0, none⟩) (Kd.V_mono HO_410001.out (fun k_ hk => (⟨hk, (by first | exact hk.1.1.1.2 | exact hk.1.1.2 | exact hk.1.2 | exact hk.2 | exact hk.2.2.1 | exact hk.2.1 | exact hk.1.2.2.1 | exact hk.2.2.2)⟩ : _ ∧ k_ ≠ gb421))) (fun _ hk => hk.2) (.int .i64 t416)) (fun _ hk => hk.2) (.slice Ao34 t417.length co34)) (fun _ h_ => h_.1))) (Kd.R_base ho0) hb); replace HO419 := Aside0.mk (Kd.V_elder' (by (with_reducible repeat (first | apply Kd.V_alloc | apply Kd.V_drewN | apply Kd.V_drew)); exact (Kd.V_mono (Kd.V_far (p := ⟨gb421, 1, none⟩) (Kd.V_far (p := ⟨gb421, 0, none⟩) (Kd.V_mono HO419.out (fun k_ hk => (⟨hk, (by first | exact hk.1.1.1.2 | exact hk.1.1.2 | exact hk.1.2 | exact hk.2 | exact hk.2.2.1 | exact hk.2.1 | exact hk.1.2.2.1 | exact hk.2.2.2)⟩ : _ ∧ k_ ≠ gb421))) (fun _ hk => hk.2) (.int .i64 t416)) (fun _ hk => hk.2) (.slice Ao34 t417.length co34)) (fun _ h_ => h_.1))) (Kd.R_base ho0) hb); have HO424 := Aside0.mk (Kd.R_lower (Kd.R_new' ho0 (Kd.R_lt (rU (Kd.R_mono (Kd.R_far (p := ⟨gb421, 1, none⟩) (Kd.R_far (p := ⟨gb421, 0, none⟩) (Kd.R_types HO415.out BK421.out (by decide)) (fun _ hk => hk.2) (.int .i64 t416)) (fun _ hk => hk.2) (.slice Ao34 t417.length co34)) (fun _ h_ => h_.1))))) (below_size (by repeat (first | (with_reducible first | exact HB.out | apply below_alloc | apply pw_below_drewN | apply below_drew1 | refine below_set ?_ GE409.out | refine below_set ?_ GE421.out) | exact HB.out)))); replace HO415 := Aside0.mk (Kd.R_elder' (rU (Kd.R_mono (Kd.R_far (p := ⟨gb421, 1, none⟩) (Kd.R_far (p := ⟨gb421, 0, none⟩) (Kd.R_types HO415.out BK421.out (by decide)) (fun _ hk => hk.2) (.int .i64 t416)) (fun _ hk => hk.2) (.slice Ao34 t417.length co34)) (fun _ h_ => h_.1))) (Kd.R_base ho0) hb); replace BK409 := Aside0.mk (blk_below (g := gb409) (o := .cells #[.int .i64 x410000_1, .slice Ao29 x410001_1.length co29] 26 (0, 0)) (by (with_reducible repeat (first | refine blk_drewN ?_ _ | refine blk_drew ?_ | refine blk_alloc ?_ _)); refine blk_far ?_ NB409_421.out _; (with_reducible repeat (first | refine blk_drewN ?_ _ | refine blk_drew ?_ | refine blk_alloc ?_ _)); refine blk_far ?_ NB409_421.out _; (with_reducible repeat (first | refine blk_drewN ?_ _ | refine blk_drew ?_ | refine blk_alloc ?_ _)); exact BK409.out) hb); replace BK421 := Aside0.mk (blk_below (g := gb421) (o := .cells #[.int .i64 t416, .slice Ao34 t417.length co34] 26 (0, 0)) (by (with_reducible repeat (first | refine blk_drewN ?_ _ | refine blk_drew ?_ | refine blk_alloc ?_ _)); refine blk_put (cs := #[.int .i64 t416, .slice none 0 0]) ?_ 1 _ rfl; (with_reducible repeat (first | refine blk_drewN ?_ _ | refine blk_drew ?_ | refine blk_alloc ?_ _)); refine blk_put (cs := #[.int .i64 0, .slice none 0 0]) ?_ 0 _ rfl; (with_reducible repeat (first | refine blk_drewN ?_ _ | refine blk_drew ?_ | refine blk_alloc ?_ _)); exact BK421.out) hb); replace HB := Aside0.mk (below_step (by repeat (first | (with_reducible first | exact HB.out | apply below_alloc | apply pw_below_drewN | apply below_drew1 | refine below_set ?_ GE409.out | refine below_set ?_ GE421.out) | exact HB.out)) hb); (try clear hb); (try clear hk); (try clear ho0); obtain ⟨Ao36, co36, eo36⟩ := Kd.R_slice HO415.out; subst eo36; obtain ⟨Ao37, co37, eo37⟩ := Kd.R_slice HO424.out; subst eo37) | (go_at_call 13; (with_reducible refine (tegularef32_Same.calls k1 _ _ t413 _ _ t422 true _ ?side1 ?side2 ?side3 ?side4 A26.out).mono ?_); (case side1 => repeat (first | exact (Kd.R_reads' HO415.out).2.2 | (with_reducible refine Kd.C_alloc ?_ _) | (with_reducible refine Kd.C_drewN ?_ _) | (with_reducible refine Kd.C_drew ?_))); (case side2 => exact (Kd.R_reads' HO415.out).2.1); (case side3 => repeat (first | exact (Kd.R_reads' HO424.out).2.2 | (with_reducible refine Kd.C_alloc ?_ _) | (with_reducible refine Kd.C_drewN ?_ _) | (with_reducible refine Kd.C_drew ?_))); (case side4 => exact (Kd.R_reads' HO424.out).2.1); rintro e w' ⟨rfl, ⟨nd, rfl⟩⟩; (try (rw [drewN_self w35]; generalize hq_ : World.drewN w35 _ = w35; have n0_ : Aside0 (Kd.R k53 53 w35 w.heap.size (fun k_ => some k_ ≠ (.slice Ao37 t422.length co37 : Value).ownBlock) (.slice Ao36 t413.length co36) t413) := ⟨by rw [← hq_]; exact (rU (Kd.R_mono HO415.out (fun _ hk => hk.2)))⟩; have n1_ : Aside0 (Kd.V k53 53 w35 w.heap.size (fun k_ => some k_ ≠ (.slice Ao36 t413.length co36 : Value).ownBlock ∧ some k_ ≠ (.slice Ao37 t422.length co37 : Value).ownBlock ∧ k_ ≠ gb409 ∧ k_ ≠ gb421) (.slice Ao34 t417.length co34) t417) := ⟨by rw [← hq_]; exact (by (with_reducible repeat (first | apply Kd.V_alloc | apply Kd.V_drewN | apply Kd.V_drew)); exact Kd.V_mono HO419.out (fun _ hk => ⟨hk.1.1.1, ⟨hk.2, ⟨hk.1.1.2, hk.1.2⟩⟩⟩))⟩; have n2_ : Aside0 (Kd.R k53 53 w35 w.heap.size (fun k_ => some k_ ≠ (.slice Ao36 t413.length co36 : Value).ownBlock) (.slice Ao37 t422.length co37) t422) := ⟨by rw [← hq_]; exact (rU (Kd.R_mono HO424.out (fun _ hk => hk.2)))⟩; have n3_ : Aside0 (Kd.V k53 53 w35 w.heap.size (fun k_ => some k_ ≠ (.slice Ao36 t413.length co36 : Value).ownBlock ∧ some k_ ≠ (.slice Ao37 t422.length co37 : Value).ownBlock ∧ k_ ≠ gb409 ∧ k_ ≠ gb421) (.slice Ao29 x410001_1.length co29) x410001_1) := ⟨by rw [← hq_]; exact (by (with_reducible repeat (first | apply Kd.V_alloc | apply Kd.V_drewN | apply Kd.V_drew)); exact Kd.V_mono HO_410001.out (fun _ hk => ⟨hk.1.1.2, ⟨hk.2, ⟨hk.1.1.1, hk.1.2⟩⟩⟩))⟩; have n4_ : Aside0 (w35.heap[gb409]? = some (.cells #[.int .i64 x410000_1, .slice Ao29 x410001_1.length co29] 26 (0, 0))) := ⟨by rw [← hq_]; exact (kU BK409.out)⟩; have n5_ : Aside0 (w35.heap[gb421]? = some (.cells #[.int .i64 t416, .slice Ao34 t417.length co34] 26 (0, 0))) := ⟨by rw [← hq_]; exact (kU BK421.out)⟩; have n6_ : Aside0 (Below w.heap.size w w35) := ⟨by rw [← hq_]; exact (by repeat (first | (with_reducible first | exact HB.out | apply below_alloc | apply pw_below_drewN | apply below_drew1 | refine below_set ?_ GE409.out | refine below_set ?_ GE421.out) | exact HB.out))⟩; clear HO415 HO419 HO424 HO_410001 BK409 BK421 HB hq_; have HO415 := n0_; have HO419 := n1_; have HO424 := n2_; have HO_410001 := n3_; have BK409 := n4_; have BK421 := n5_; have HB := n6_; clear n0_ n1_ n2_ n3_ n4_ n5_ n6_)); have hcz38_0 : w35.cell? ⟨gb421, 0, none⟩ = some (.int .i64 t416) := (blk_cell BK421.out 0).trans rfl; have hcz38_1 : w35.cell? ⟨gb421, 1, none⟩ = some (.slice Ao34 t417.length co34) := (blk_cell BK421.out 1).trans rfl; have hfz38_0 := blk_frozen BK421.out 0; have hfz38_1 := blk_frozen BK421.out 1; have hcz39_0 : w35.cell? ⟨gb409, 0, none⟩ = some (.int .i64 x410000_1) := (blk_cell BK409.out 0).trans rfl; have hcz39_1 : w35.cell? ⟨gb409, 1, none⟩ = some (.slice Ao29 x410001_1.length co29) := (blk_cell BK409.out 1).trans rfl; have hfz39_0 := blk_frozen BK409.out 0; have hfz39_1 := blk_frozen BK409.out 1))
           go_roundg k1
           case measure => have := HK1.out; omega
           case rel => exact ⟨(wrap64 (x5_1 + (wrap64 (1 + (wrap64 (rd l0 x6_1)))))), (wrap64 (x6_1 + 1)), (t416), (t417), (.slice Ao34 t417.length co34), (by first | rfl | (simp; done) | (simp [*]; done)), (by first | rfl | (simp; done) | (simp [*]; done)), H', ⟨by have := HK1.out; omega⟩, ⟨by (with_reducible repeat (first | apply Kd.V_alloc | apply Kd.V_drewN | apply Kd.V_drew)); exact Kd.V_mono (Kd.V_far (p := ⟨gb409, 1, none⟩) (Kd.V_far (p := ⟨gb409, 0, none⟩) (Kd.V_mono HO419.out (fun k_ hk => (⟨hk, (by first | exact hk.1.1.1.2 | exact hk.1.1.2 | exact hk.1.2 | exact hk.2 | exact hk.2.2.1 | exact hk.2.1 | exact hk.1.2.2.1 | exact hk.2.2.2)⟩ : _ ∧ k_ ≠ gb409))) (fun _ hk => hk.2) (.int .i64 t416)) (fun _ hk => hk.2) (.slice Ao34 t417.length co34)) (fun _ hk => (by first | exact hk.1.1.1.2 | exact hk.1.1.2 | exact hk.1.2 | exact hk.2 | exact hk.2.2.1 | exact hk.2.1 | exact hk.1.2.2.1 | exact hk.2.2.2))⟩, ⟨by (with_reducible repeat (first | refine blk_drewN ?_ _ | refine blk_drew ?_ | refine blk_alloc ?_ _)); refine blk_put (cs := #[.int .i64 t416, .slice Ao29 x410001_1.length co29]) ?_ 1 _ rfl; (with_reducible repeat (first | refine blk_drewN ?_ _ | refine blk_drew ?_ | refine blk_alloc ?_ _)); refine blk_put (cs := #[.int .i64 x410000_1, .slice Ao29 x410001_1.length co29]) ?_ 0 _ rfl; (with_reducible repeat (first | refine blk_drewN ?_ _ | refine blk_drew ?_ | refine blk_alloc ?_ _)); exact BK409.out⟩, ⟨by repeat (first | (with_reducible first | exact HB.out | apply below_alloc | apply pw_below_drewN | apply below_drew1 | refine below_set ?_ GE409.out | refine below_set ?_ GE421.out) | exact HB.out)⟩⟩
          ·
           replace c27 := Bool.eq_false_iff.mpr c27
           subst c27
           have H1 : (some false) = some r := by rw [if_neg (show ¬ (false = true) by decide)] at H; exact H
           clear H
           have H := H1
           clear H1
           obtain rfl := Option.some.inj H
           have p412 : 0 ≤ (x6_1 : Int) := of_decide_eq_true (by first | (with_reducible assumption) | assumption)
           have q412 : x6_1 < (l0.length : Int) := of_decide_eq_true (by first | (with_reducible assumption) | assumption)
           obtain ⟨ad412, e412, hx412_0⟩ := Kd.at_int HR0.out x6_1 p412 q412
           cases e412
           replace hx412_0 := (HB.out.cell (World.block_lt_of_cell? w _ hx412_0)).trans hx412_0
           replace p412 := eq_true p412
           replace q412 := eq_true q412
           have hcz40_0 : wr.cell? ⟨gb409, 0, none⟩ = some (.int .i64 x410000_1) := (blk_cell BK409.out 0).trans rfl
           have hcz40_1 : wr.cell? ⟨gb409, 1, none⟩ = some (u410001) := (blk_cell BK409.out 1).trans rfl
           have hfz40_0 := blk_frozen BK409.out 0
           have hfz40_1 := blk_frozen BK409.out 1
           obtain ⟨Ao41, co41, eo41⟩ := Kd.V_slice HO_410001.out
           subst eo41
           go_wp2_with (first | ((with_reducible refine gate_callee (f := 12) rfl ?_); refine goesL_ (some 38) rfl rfl Try.func12 (by kernel_rfl) rfl #[.agg #[.int .i64 x410000_1, .slice Ao41 x410001_1.length co41], .int .i64 (wrap64 (1 + (wrap64 (rd l0 x6_1)))), .int .i64 x5_1] rfl (by (try simp only [List.map_toArray, List.map_cons, List.map_nil]); first | done | rfl | (simp only [List.length_drop, List.length_take]; rfl)) ?_; (with_reducible refine (alloc_Map_Take.calls k1 x410000_1 (fun k_ => k_ ≠ gb409) _ _ x410001_1 (wrap64 (1 + (wrap64 (rd l0 x6_1)))) x5_1 t413 t416 t417 t420 _ ?side1 A15.out).mono ?_); (case side1 => exact HO_410001.out); rintro e w42 ⟨v414, v418, rfl, ho0, ho1, hb⟩; refine ⟨_, rfl, ?_⟩; replace HO_410001 := Aside0.mk (Kd.V_elder' (by (with_reducible repeat (first | apply Kd.V_alloc | apply Kd.V_drewN | apply Kd.V_drew)); exact HO_410001.out) (Kd.R_base ho0) hb); have HO415 := Aside0.mk (Kd.R_lower (Kd.R_mono (ok' := fun k_ => True) ho0 (fun _ hk_ => trivial)) (below_size (by repeat (first | (with_reducible first | exact HB.out | apply below_alloc | apply pw_below_drewN | apply below_drew1 | refine below_set ?_ GE409.out) | exact HB.out)))); have HO419 := Aside0.mk (Kd.V_lower (Kd.V_mono (ok' := fun k_ => some k_ ≠ (v414 : Value).ownBlock ∧ k_ ≠ gb409) ho1 (fun k_ hk_ => ⟨hk_.2, Or.elim hk_.1 (fun hs_ => hs_) (fun hn_ => (Kd.freshB (g := gb409) (o := .cells #[.int .i64 x410000_1, .slice Ao41 x410001_1.length co41] 26 (0, 0)) (kU BK409.out) k_ hn_))⟩)) (below_size (by repeat (first | (with_reducible first | exact HB.out | apply below_alloc | apply pw_below_drewN | apply below_drew1 | refine below_set ?_ GE409.out) | exact HB.out)))); replace BK409 := Aside0.mk (blk_below (g := gb409) (o := .cells #[.int .i64 x410000_1, .slice Ao41 x410001_1.length co41] 26 (0, 0)) (kU BK409.out) hb); replace HB := Aside0.mk (below_step (by repeat (first | (with_reducible first | exact HB.out | apply below_alloc | apply pw_below_drewN | apply below_drew1 | refine below_set ?_ GE409.out) | exact HB.out)) hb); (try clear hb); (try clear hk); (try clear ho0); (try clear ho1)) | ((with_reducible refine gate_dst (N := 9) rfl ?_); refine box_event ?hg (N := 9) ?hd (cs := #[.int .i64 0, .slice none 0 0]) (t := 26) ?hr ?_; (case hd => rfl); (case hg => rfl); (case hr => first | (go_simp; done) | (go_simp; rfl)); intro gb421 hg w43 hbox hb; replace HO_410001 := Aside0.mk (Kd.V_below (Kd.V_elderB (by (with_reducible repeat (first | apply Kd.V_alloc | apply Kd.V_drewN | apply Kd.V_drew)); exact HO_410001.out) gb421 (Nat.le_of_eq hg.symm)) hb); replace HO415 := Aside0.mk (Kd.R_below (rU HO415.out) hb); replace HO419 := Aside0.mk (Kd.V_below (Kd.V_elderB (by (with_reducible repeat (first | apply Kd.V_alloc | apply Kd.V_drewN | apply Kd.V_drew)); exact HO419.out) gb421 (Nat.le_of_eq hg.symm)) hb); have BK421 := Aside0.mk (hbox); have GW421 := Aside0.mk ((by rw [hg]; exact (below_size (by repeat (first | (with_reducible first | exact HB.out | apply below_alloc | apply pw_below_drewN | apply below_drew1 | refine below_set ?_ GE409.out) | exact HB.out))) : w.heap.size ≤ gb421)); have GE421 := Aside0.mk ((by rw [hg]; exact (below_size (by repeat (first | (with_reducible first | exact HB.out | apply below_alloc | apply pw_below_drewN | apply below_drew1 | refine below_set ?_ GE409.out) | exact HB.out))) : w.heap.size ≤ gb421)); replace HB := Aside0.mk (below_step (by repeat (first | (with_reducible first | exact HB.out | apply below_alloc | apply pw_below_drewN | apply below_drew1 | refine below_set ?_ GE409.out) | exact HB.out)) hb); have NB409_421 := Aside0.mk ((by rw [hg]; exact Nat.ne_of_lt (blk_lt (g := gb409) (o := .cells #[.int .i64 x410000_1, .slice Ao41 x410001_1.length co41] 26 (0, 0)) (kU BK409.out)) : gb409 ≠ gb421)); have NB421_409 := Aside0.mk ((by rw [hg]; exact Nat.ne_of_gt (blk_lt (g := gb409) (o := .cells #[.int .i64 x410000_1, .slice Ao41 x410001_1.length co41] 26 (0, 0)) (kU BK409.out)) : gb421 ≠ gb409)); replace BK409 := Aside0.mk (blk_below (g := gb409) (o := .cells #[.int .i64 x410000_1, .slice Ao41 x410001_1.length co41] 26 (0, 0)) (kU BK409.out) hb); clear hb hbox hg; have hnb44 := NB421_409.out; have hnc44 := NB409_421.out; have hcz45_0 : w43.cell? ⟨gb421, 0, none⟩ = some (.int .i64 0) := (blk_cell BK421.out 0).trans rfl; have hcz45_1 : w43.cell? ⟨gb421, 1, none⟩ = some (.slice none 0 0) := (blk_cell BK421.out 1).trans rfl; have hfz45_0 := blk_frozen BK421.out 0; have hfz45_1 := blk_frozen BK421.out 1; obtain ⟨Ao46, co46, eo46⟩ := Kd.V_slice HO419.out; subst eo46) | (go_at_call 14; (with_reducible refine (tegulalaw35_run.calls x5_1 (wrap64 (1 + (wrap64 (rd l0 x6_1)))) t422 _ A25.out).mono ?_); rintro e w47 ⟨v423, rfl, ho0, hb⟩; replace HO_410001 := Aside0.mk (Kd.V_elder' (by (with_reducible repeat (first | apply Kd.V_alloc | apply Kd.V_drewN | apply Kd.V_drew)); exact (Kd.V_mono (Kd.V_far (p := ⟨gb421, 1, none⟩) (Kd.V_far (p := ⟨gb421, 0, none⟩) (Kd.V_mono HO_410001.out (fun k_ hk => (⟨hk, (by first | exact hk.1.1.1.2 | exact hk.1.1.2 | exact hk.1.2 | exact hk.2 | exact hk.2.2.1 | exact hk.2.1 | exact hk.1.2.2.1 | exact hk.2.2.2)⟩ : _ ∧ k_ ≠ gb421))) (fun _ hk => hk.2) (.int .i64 t416)) (fun _ hk => hk.2) (.slice Ao46 t417.length co46)) (fun _ h_ => h_.1))) (Kd.R_base ho0) hb); replace HO419 := Aside0.mk (Kd.V_elder' (by (with_reducible repeat (first | apply Kd.V_alloc | apply Kd.V_drewN | apply Kd.V_drew)); exact (Kd.V_mono (Kd.V_far (p := ⟨gb421, 1, none⟩) (Kd.V_far (p := ⟨gb421, 0, none⟩) (Kd.V_mono HO419.out (fun k_ hk => (⟨hk, (by first | exact hk.1.1.1.2 | exact hk.1.1.2 | exact hk.1.2 | exact hk.2 | exact hk.2.2.1 | exact hk.2.1 | exact hk.1.2.2.1 | exact hk.2.2.2)⟩ : _ ∧ k_ ≠ gb421))) (fun _ hk => hk.2) (.int .i64 t416)) (fun _ hk => hk.2) (.slice Ao46 t417.length co46)) (fun _ h_ => h_.1))) (Kd.R_base ho0) hb); have HO424 := Aside0.mk (Kd.R_lower (Kd.R_new' ho0 (Kd.R_lt (rU (Kd.R_mono (Kd.R_far (p := ⟨gb421, 1, none⟩) (Kd.R_far (p := ⟨gb421, 0, none⟩) (Kd.R_types HO415.out BK421.out (by decide)) (fun _ hk => hk.2) (.int .i64 t416)) (fun _ hk => hk.2) (.slice Ao46 t417.length co46)) (fun _ h_ => h_.1))))) (below_size (by repeat (first | (with_reducible first | exact HB.out | apply below_alloc | apply pw_below_drewN | apply below_drew1 | refine below_set ?_ GE409.out | refine below_set ?_ GE421.out) | exact HB.out)))); replace HO415 := Aside0.mk (Kd.R_elder' (rU (Kd.R_mono (Kd.R_far (p := ⟨gb421, 1, none⟩) (Kd.R_far (p := ⟨gb421, 0, none⟩) (Kd.R_types HO415.out BK421.out (by decide)) (fun _ hk => hk.2) (.int .i64 t416)) (fun _ hk => hk.2) (.slice Ao46 t417.length co46)) (fun _ h_ => h_.1))) (Kd.R_base ho0) hb); replace BK409 := Aside0.mk (blk_below (g := gb409) (o := .cells #[.int .i64 x410000_1, .slice Ao41 x410001_1.length co41] 26 (0, 0)) (by (with_reducible repeat (first | refine blk_drewN ?_ _ | refine blk_drew ?_ | refine blk_alloc ?_ _)); refine blk_far ?_ NB409_421.out _; (with_reducible repeat (first | refine blk_drewN ?_ _ | refine blk_drew ?_ | refine blk_alloc ?_ _)); refine blk_far ?_ NB409_421.out _; (with_reducible repeat (first | refine blk_drewN ?_ _ | refine blk_drew ?_ | refine blk_alloc ?_ _)); exact BK409.out) hb); replace BK421 := Aside0.mk (blk_below (g := gb421) (o := .cells #[.int .i64 t416, .slice Ao46 t417.length co46] 26 (0, 0)) (by (with_reducible repeat (first | refine blk_drewN ?_ _ | refine blk_drew ?_ | refine blk_alloc ?_ _)); refine blk_put (cs := #[.int .i64 t416, .slice none 0 0]) ?_ 1 _ rfl; (with_reducible repeat (first | refine blk_drewN ?_ _ | refine blk_drew ?_ | refine blk_alloc ?_ _)); refine blk_put (cs := #[.int .i64 0, .slice none 0 0]) ?_ 0 _ rfl; (with_reducible repeat (first | refine blk_drewN ?_ _ | refine blk_drew ?_ | refine blk_alloc ?_ _)); exact BK421.out) hb); replace HB := Aside0.mk (below_step (by repeat (first | (with_reducible first | exact HB.out | apply below_alloc | apply pw_below_drewN | apply below_drew1 | refine below_set ?_ GE409.out | refine below_set ?_ GE421.out) | exact HB.out)) hb); (try clear hb); (try clear hk); (try clear ho0); obtain ⟨Ao48, co48, eo48⟩ := Kd.R_slice HO415.out; subst eo48; obtain ⟨Ao49, co49, eo49⟩ := Kd.R_slice HO424.out; subst eo49) | (go_at_call 13; (with_reducible refine (tegularef32_Same.calls k1 _ _ t413 _ _ t422 false _ ?side1 ?side2 ?side3 ?side4 A26.out).mono ?_); (case side1 => repeat (first | exact (Kd.R_reads' HO415.out).2.2 | (with_reducible refine Kd.C_alloc ?_ _) | (with_reducible refine Kd.C_drewN ?_ _) | (with_reducible refine Kd.C_drew ?_))); (case side2 => exact (Kd.R_reads' HO415.out).2.1); (case side3 => repeat (first | exact (Kd.R_reads' HO424.out).2.2 | (with_reducible refine Kd.C_alloc ?_ _) | (with_reducible refine Kd.C_drewN ?_ _) | (with_reducible refine Kd.C_drew ?_))); (case side4 => exact (Kd.R_reads' HO424.out).2.1); rintro e w' ⟨rfl, ⟨nd, rfl⟩⟩))
           go_ret
           exact ⟨by first | rfl | (simp [errW_none, errW_some] <;> rfl) | (simp [*, errW_none, errW_some] <;> rfl), by repeat (first | (with_reducible first | exact HB.out | apply below_alloc | apply pw_below_drewN | apply below_drew1 | refine below_set ?_ GE409.out | refine below_set ?_ GE421.out) | exact HB.out)⟩
         ·
          rw [if_neg c24] at H
          have c24b0 : (t420 == 0) = false := beq_eq_false_iff_ne.mpr c24
          have c24b1 : (t420 != 0) = true := bne_iff_ne.mpr c24
          obtain rfl := Option.some.inj H
          have p412 : 0 ≤ (x6_1 : Int) := of_decide_eq_true (by first | (with_reducible assumption) | assumption)
          have q412 : x6_1 < (l0.length : Int) := of_decide_eq_true (by first | (with_reducible assumption) | assumption)
          obtain ⟨ad412, e412, hx412_0⟩ := Kd.at_int HR0.out x6_1 p412 q412
          cases e412
          replace hx412_0 := (HB.out.cell (World.block_lt_of_cell? w _ hx412_0)).trans hx412_0
          replace p412 := eq_true p412
          replace q412 := eq_true q412
          have hcz50_0 : wr.cell? ⟨gb409, 0, none⟩ = some (.int .i64 x410000_1) := (blk_cell BK409.out 0).trans rfl
          have hcz50_1 : wr.cell? ⟨gb409, 1, none⟩ = some (u410001) := (blk_cell BK409.out 1).trans rfl
          have hfz50_0 := blk_frozen BK409.out 0
          have hfz50_1 := blk_frozen BK409.out 1
          obtain ⟨Ao51, co51, eo51⟩ := Kd.V_slice HO_410001.out
          subst eo51
          go_wp2_with (first | ((with_reducible refine gate_callee (f := 12) rfl ?_); refine goesL_ (some 38) rfl rfl Try.func12 (by kernel_rfl) rfl #[.agg #[.int .i64 x410000_1, .slice Ao51 x410001_1.length co51], .int .i64 (wrap64 (1 + (wrap64 (rd l0 x6_1)))), .int .i64 x5_1] rfl (by (try simp only [List.map_toArray, List.map_cons, List.map_nil]); first | done | rfl | (simp only [List.length_drop, List.length_take]; rfl)) ?_; (with_reducible refine (alloc_Map_Take.calls k1 x410000_1 (fun k_ => k_ ≠ gb409) _ _ x410001_1 (wrap64 (1 + (wrap64 (rd l0 x6_1)))) x5_1 t413 t416 t417 t420 _ ?side1 A15.out).mono ?_); (case side1 => exact HO_410001.out); rintro e w52 ⟨v414, v418, rfl, ho0, ho1, hb⟩; refine ⟨_, rfl, ?_⟩; replace HO_410001 := Aside0.mk (Kd.V_elder' (by (with_reducible repeat (first | apply Kd.V_alloc | apply Kd.V_drewN | apply Kd.V_drew)); exact HO_410001.out) (Kd.R_base ho0) hb); have HO415 := Aside0.mk (Kd.R_lower (Kd.R_mono (ok' := fun k_ => True) ho0 (fun _ hk_ => trivial)) (below_size (by repeat (first | (with_reducible first | exact HB.out | apply below_alloc | apply pw_below_drewN | apply below_drew1 | refine below_set ?_ GE409.out) | exact HB.out)))); have HO419 := Aside0.mk (Kd.V_lower (Kd.V_mono (ok' := fun k_ => some k_ ≠ (v414 : Value).ownBlock ∧ k_ ≠ gb409) ho1 (fun k_ hk_ => ⟨hk_.2, Or.elim hk_.1 (fun hs_ => hs_) (fun hn_ => (Kd.freshB (g := gb409) (o := .cells #[.int .i64 x410000_1, .slice Ao51 x410001_1.length co51] 26 (0, 0)) (kU BK409.out) k_ hn_))⟩)) (below_size (by repeat (first | (with_reducible first | exact HB.out | apply below_alloc | apply pw_below_drewN | apply below_drew1 | refine below_set ?_ GE409.out) | exact HB.out)))); replace BK409 := Aside0.mk (blk_below (g := gb409) (o := .cells #[.int .i64 x410000_1, .slice Ao51 x410001_1.length co51] 26 (0, 0)) (kU BK409.out) hb); replace HB := Aside0.mk (below_step (by repeat (first | (with_reducible first | exact HB.out | apply below_alloc | apply pw_below_drewN | apply below_drew1 | refine below_set ?_ GE409.out) | exact HB.out)) hb); (try clear hb); (try clear ho0); (try clear ho1)) | ((with_reducible refine gate_dst (N := 9) rfl ?_); refine box_event ?hg (N := 9) ?hd (cs := #[.int .i64 0, .slice none 0 0]) (t := 26) ?hr ?_; (case hd => rfl); (case hg => rfl); (case hr => first | (go_simp; done) | (go_simp; rfl)); intro gb421 hg w53 hbox hb; replace HO_410001 := Aside0.mk (Kd.V_below (Kd.V_elderB (by (with_reducible repeat (first | apply Kd.V_alloc | apply Kd.V_drewN | apply Kd.V_drew)); exact HO_410001.out) gb421 (Nat.le_of_eq hg.symm)) hb); replace HO415 := Aside0.mk (Kd.R_below (rU HO415.out) hb); replace HO419 := Aside0.mk (Kd.V_below (Kd.V_elderB (by (with_reducible repeat (first | apply Kd.V_alloc | apply Kd.V_drewN | apply Kd.V_drew)); exact HO419.out) gb421 (Nat.le_of_eq hg.symm)) hb); have BK421 := Aside0.mk (hbox); have GW421 := Aside0.mk ((by rw [hg]; exact (below_size (by repeat (first | (with_reducible first | exact HB.out | apply below_alloc | apply pw_below_drewN | apply below_drew1 | refine below_set ?_ GE409.out) | exact HB.out))) : w.heap.size ≤ gb421)); have GE421 := Aside0.mk ((by rw [hg]; exact (below_size (by repeat (first | (with_reducible first | exact HB.out | apply below_alloc | apply pw_below_drewN | apply below_drew1 | refine below_set ?_ GE409.out) | exact HB.out))) : w.heap.size ≤ gb421)); replace HB := Aside0.mk (below_step (by repeat (first | (with_reducible first | exact HB.out | apply below_alloc | apply pw_below_drewN | apply below_drew1 | refine below_set ?_ GE409.out) | exact HB.out)) hb); have NB409_421 := Aside0.mk ((by rw [hg]; exact Nat.ne_of_lt (blk_lt (g := gb409) (o := .cells #[.int .i64 x410000_1, .slice Ao51 x410001_1.length co51] 26 (0, 0)) (kU BK409.out)) : gb409 ≠ gb421)); have NB421_409 := Aside0.mk ((by rw [hg]; exact Nat.ne_of_gt (blk_lt (g := gb409) (o := .cells #[.int .i64 x410000_1, .slice Ao51 x410001_1.length co51] 26 (0, 0)) (kU BK409.out)) : gb421 ≠ gb409)); replace BK409 := Aside0.mk (blk_below (g := gb409) (o := .cells #[.int .i64 x410000_1, .slice Ao51 x410001_1.length co51] 26 (0, 0)) (kU BK409.out) hb); clear hb hbox hg; have hnb54 := NB421_409.out; have hnc54 := NB409_421.out; have hcz55_0 : w53.cell? ⟨gb421, 0, none⟩ = some (.int .i64 0) := (blk_cell BK421.out 0).trans rfl; have hcz55_1 : w53.cell? ⟨gb421, 1, none⟩ = some (.slice none 0 0) := (blk_cell BK421.out 1).trans rfl; have hfz55_0 := blk_frozen BK421.out 0; have hfz55_1 := blk_frozen BK421.out 1; obtain ⟨Ao56, co56, eo56⟩ := Kd.V_slice HO419.out; subst eo56))
          go_ret
          exact ⟨by first | rfl | (simp [errW_none, errW_some] <;> rfl) | (simp [*, errW_none, errW_some] <;> rfl), by repeat (first | (with_reducible first | exact HB.out | apply below_alloc | apply pw_below_drewN | apply below_drew1 | refine below_set ?_ GE409.out | refine below_set ?_ GE421.out) | exact HB.out)⟩
       ·
        rw [if_neg c14] at H
        exact absurd H (by simp)
      ·
       rw [if_neg c13] at H
       have c13b0 := decide_eq_false c13
       clear c13
       replace H := Option.bind_eq_some_iff.mp H
       obtain ⟨t410, A570, H⟩ := H
       replace H : (if t410 = (wrap64 (65536 - x5_1)) then ((alloc_Map_Largest.f k1 x410000_1 x410001_1).bind fun t411 => (some (t411 == (wrap64 (65536 - x5_1))))) else (some false)) = some r := H
       have A57 := Aside0.mk A570
       clear A570
       by_cases c58 : t410 = (wrap64 (65536 - x5_1))
       ·
        rw [if_pos c58] at H
        have c58b0 : (t410 == (wrap64 (65536 - x5_1))) = true := beq_iff_eq.mpr c58
        have c58b1 : (t410 != (wrap64 (65536 - x5_1))) = false := bne_eq_false_iff_eq.mpr c58
        clear c58
        replace H := Option.bind_eq_some_iff.mp H
        obtain ⟨t411, A590, H⟩ := H
        replace H : (some (t411 == (wrap64 (65536 - x5_1)))) = some r := H
        have A59 := Aside0.mk A590
        clear A590
        obtain rfl := Option.some.inj H
        have hcz60_0 : wr.cell? ⟨gb409, 0, none⟩ = some (.int .i64 x410000_1) := (blk_cell BK409.out 0).trans rfl
        have hcz60_1 : wr.cell? ⟨gb409, 1, none⟩ = some (u410001) := (blk_cell BK409.out 1).trans rfl
        have hfz60_0 := blk_frozen BK409.out 0
        have hfz60_1 := blk_frozen BK409.out 1
        obtain ⟨Ao61, co61, eo61⟩ := Kd.V_slice HO_410001.out
        subst eo61
        go_wp2_with (first | ((with_reducible refine gate_callee (f := 15) rfl ?_); refine goesL_ (some 63) rfl rfl Try.func15 (by kernel_rfl) rfl #[.agg #[.int .i64 x410000_1, .slice Ao61 x410001_1.length co61]] rfl (by (try simp only [List.map_toArray, List.map_cons, List.map_nil]); first | done | rfl | (simp only [List.length_drop, List.length_take]; rfl)) ?_; (with_reducible refine (alloc_Map_Free.calls k1 x410000_1 _ _ x410001_1 t410 _ ?side1 ?side2 A57.out).mono ?_); (case side1 => repeat (first | exact (Kd.V_reads' HO_410001.out).2.2 | (with_reducible refine Kd.C_alloc ?_ _) | (with_reducible refine Kd.C_drewN ?_ _) | (with_reducible refine Kd.C_drew ?_))); (case side2 => exact (Kd.V_reads' HO_410001.out).2.1); rintro e w62 ⟨rfl, hb⟩; refine ⟨_, rfl, ?_⟩; replace HO_410001 := Aside0.mk (Kd.V_below (by (with_reducible repeat (first | apply Kd.V_alloc | apply Kd.V_drewN | apply Kd.V_drew)); exact HO_410001.out) hb); replace BK409 := Aside0.mk (blk_below (g := gb409) (o := .cells #[.int .i64 x410000_1, .slice Ao61 x410001_1.length co61] 26 (0, 0)) (kU BK409.out) hb); replace HB := Aside0.mk (below_step (by repeat (first | (with_reducible first | exact HB.out | apply below_alloc | apply pw_below_drewN | apply below_drew1 | refine below_set ?_ GE409.out) | exact HB.out)) hb); (try clear hb); have hcz63_0 : w62.cell? ⟨gb409, 0, none⟩ = some (.int .i64 x410000_1) := (blk_cell BK409.out 0).trans rfl; have hcz63_1 : w62.cell? ⟨gb409, 1, none⟩ = some (.slice Ao61 x410001_1.length co61) := (blk_cell BK409.out 1).trans rfl; have hfz63_0 := blk_frozen BK409.out 0; have hfz63_1 := blk_frozen BK409.out 1) | (go_at_call 16; (with_reducible refine (alloc_Map_Largest.calls k1 x410000_1 _ _ x410001_1 t411 _ ?side1 ?side2 A59.out).mono ?_); (case side1 => repeat (first | exact (Kd.V_reads' HO_410001.out).2.2 | (with_reducible refine Kd.C_alloc ?_ _) | (with_reducible refine Kd.C_drewN ?_ _) | (with_reducible refine Kd.C_drew ?_))); (case side2 => exact (Kd.V_reads' HO_410001.out).2.1); rintro e w64 ⟨rfl, hb⟩; replace HO_410001 := Aside0.mk (Kd.V_below (by (with_reducible repeat (first | apply Kd.V_alloc | apply Kd.V_drewN | apply Kd.V_drew)); exact HO_410001.out) hb); replace BK409 := Aside0.mk (blk_below (g := gb409) (o := .cells #[.int .i64 x410000_1, .slice Ao61 x410001_1.length co61] 26 (0, 0)) (kU BK409.out) hb); replace HB := Aside0.mk (below_step (by repeat (first | (with_reducible first | exact HB.out | apply below_alloc | apply pw_below_drewN | apply below_drew1 | refine below_set ?_ GE409.out) | exact HB.out)) hb); (try clear hb)))
        go_ret
        exact ⟨by first | rfl | (simp [errW_none, errW_some] <;> rfl) | (simp [*, errW_none, errW_some] <;> rfl), by repeat (first | (with_reducible first | exact HB.out | apply below_alloc | apply pw_below_drewN | apply below_drew1 | refine below_set ?_ GE409.out) | exact HB.out)⟩
       ·
        rw [if_neg c58] at H
        have c58b0 : (t410 == (wrap64 (65536 - x5_1))) = false := beq_eq_false_iff_ne.mpr c58
        have c58b1 : (t410 != (wrap64 (65536 - x5_1))) = true := bne_iff_ne.mpr c58
        obtain rfl := Option.some.inj H
        have hcz65_0 : wr.cell? ⟨gb409, 0, none⟩ = some (.int .i64 x410000_1) := (blk_cell BK409.out 0).trans rfl
        have hcz65_1 : wr.cell? ⟨gb409, 1, none⟩ = some (u410001) := (blk_cell BK409.out 1).trans rfl
        have hfz65_0 := blk_frozen BK409.out 0
        have hfz65_1 := blk_frozen BK409.out 1
        obtain ⟨Ao66, co66, eo66⟩ := Kd.V_slice HO_410001.out
        subst eo66
        go_wp2_with (first | ((with_reducible refine gate_callee (f := 15) rfl ?_); refine goesL_ (some 63) rfl rfl Try.func15 (by kernel_rfl) rfl #[.agg #[.int .i64 x410000_1, .slice Ao66 x410001_1.length co66]] rfl (by (try simp only [List.map_toArray, List.map_cons, List.map_nil]); first | done | rfl | (simp only [List.length_drop, List.length_take]; rfl)) ?_; (with_reducible refine (alloc_Map_Free.calls k1 x410000_1 _ _ x410001_1 t410 _ ?side1 ?side2 A57.out).mono ?_); (case side1 => repeat (first | exact (Kd.V_reads' HO_410001.out).2.2 | (with_reducible refine Kd.C_alloc ?_ _) | (with_reducible refine Kd.C_drewN ?_ _) | (with_reducible refine Kd.C_drew ?_))); (case side2 => exact (Kd.V_reads' HO_410001.out).2.1); rintro e w67 ⟨rfl, hb⟩; refine ⟨_, rfl, ?_⟩; replace HO_410001 := Aside0.mk (Kd.V_below (by (with_reducible repeat (first | apply Kd.V_alloc | apply Kd.V_drewN | apply Kd.V_drew)); exact HO_410001.out) hb); replace BK409 := Aside0.mk (blk_below (g := gb409) (o := .cells #[.int .i64 x410000_1, .slice Ao66 x410001_1.length co66] 26 (0, 0)) (kU BK409.out) hb); replace HB := Aside0.mk (below_step (by repeat (first | (with_reducible first | exact HB.out | apply below_alloc | apply pw_below_drewN | apply below_drew1 | refine below_set ?_ GE409.out) | exact HB.out)) hb); (try clear hb)))
        go_ret
        exact ⟨by first | rfl | (simp [errW_none, errW_some] <;> rfl) | (simp [*, errW_none, errW_some] <;> rfl), by repeat (first | (with_reducible first | exact HB.out | apply below_alloc | apply pw_below_drewN | apply below_drew1 | refine below_set ?_ GE409.out) | exact HB.out)⟩
   ·
    rw [if_neg c7] at H
    have c7b0 : (t408 == 0) = false := beq_eq_false_iff_ne.mpr c7
    have c7b1 : (t408 != 0) = true := bne_iff_ne.mpr c7
    obtain rfl := Option.some.inj H
    go_enter Try.func3, Try.ntmps3
    go_wp2_with (first | ((with_reducible refine gate_callee (f := 10) rfl ?_); refine goesL_ (some 11) rfl rfl Try.func10 (by kernel_rfl) rfl #[] rfl (by (try simp only [List.map_toArray, List.map_cons, List.map_nil]); first | done | rfl | (simp only [List.length_drop, List.length_take]; rfl)) ?_; (with_reducible refine (tegulalaw35_awake.calls k  true _ A2.out).mono ?_); rintro e w68 ⟨rfl, hb⟩; refine ⟨_, rfl, ?_⟩; replace HB := Aside0.mk (below_step (bU HB.out) hb); (try clear hb)) | ((with_reducible refine gate_callee (f := 11) rfl ?_); refine goesL_ (some 17) rfl rfl Try.func11 (by kernel_rfl) rfl #[.int .i64 65536] rfl (by (try simp only [List.map_toArray, List.map_cons, List.map_nil]); first | done | rfl | (simp only [List.length_drop, List.length_take]; rfl)) ?_; (with_reducible refine (alloc_New.calls k 65536 t404 t405 t408 _ A6.out).mono ?_); rintro e w69 ⟨v406, rfl, ho0, hb⟩; refine ⟨_, rfl, ?_⟩; have HO407 := Aside0.mk (Kd.R_lower ho0 (below_size (bU HB.out))); replace HB := Aside0.mk (below_step (bU HB.out) hb); (try clear hb); (try clear ho0)) | ((with_reducible refine gate_dst (N := 3) rfl ?_); refine box_event ?hg (N := 3) ?hd (cs := #[.int .i64 0, .slice none 0 0]) (t := 26) ?hr ?_; (case hd => rfl); (case hg => rfl); (case hr => first | (go_simp; done) | (go_simp; rfl)); intro gb409 hg w70 hbox hb; replace HO407 := Aside0.mk (Kd.R_below (rU HO407.out) hb); have BK409 := Aside0.mk (hbox); have GW409 := Aside0.mk ((by rw [hg]; exact (below_size (bU HB.out)) : w.heap.size ≤ gb409)); have GE409 := Aside0.mk ((by rw [hg]; exact (below_size (bU HB.out)) : w.heap.size ≤ gb409)); replace HB := Aside0.mk (below_step (bU HB.out) hb); clear hb hbox hg; have hcz71_0 : w70.cell? ⟨gb409, 0, none⟩ = some (.int .i64 0) := (blk_cell BK409.out 0).trans rfl; have hcz71_1 : w70.cell? ⟨gb409, 1, none⟩ = some (.slice none 0 0) := (blk_cell BK409.out 1).trans rfl; have hfz71_0 := blk_frozen BK409.out 0; have hfz71_1 := blk_frozen BK409.out 1; obtain ⟨Ao72, co72, eo72⟩ := Kd.R_slice HO407.out; subst eo72))
    go_ret
    exact ⟨by first | rfl | (simp [errW_none, errW_some] <;> rfl) | (simp [*, errW_none, errW_some] <;> rfl), by repeat (first | (with_reducible first | exact HB.out | apply below_alloc | apply pw_below_drewN | apply below_drew1 | refine below_set ?_ GE409.out) | exact HB.out)⟩
 ·
  replace c3 := Bool.eq_false_iff.mpr c3
  subst c3
  have H1 : (some false) = some r := by rw [if_neg (show ¬ (false = true) by decide)] at H; exact H
  clear H
  have H := H1
  clear H1
  obtain rfl := Option.some.inj H
  go_enter Try.func3, Try.ntmps3
  go_wp2_with (first | ((with_reducible refine gate_callee (f := 10) rfl ?_); refine goesL_ (some 11) rfl rfl Try.func10 (by kernel_rfl) rfl #[] rfl (by (try simp only [List.map_toArray, List.map_cons, List.map_nil]); first | done | rfl | (simp only [List.length_drop, List.length_take]; rfl)) ?_; (with_reducible refine (tegulalaw35_awake.calls k  false _ A2.out).mono ?_); rintro e w73 ⟨rfl, hb⟩; refine ⟨_, rfl, ?_⟩; replace HB := Aside0.mk (below_step (bU HB.out) hb); (try clear hb)))
  go_ret
  exact ⟨by first | rfl | (simp [errW_none, errW_some] <;> rfl) | (simp [*, errW_none, errW_some] <;> rfl), bU HB.out⟩

/-- THE ONE PURE STATEMENT of tegulalaw35_AllocLarge: yours. -/
def tegulalaw35_AllocLarge.Pure : Prop := ∀ (l0 : List Int), l0.length ≤ maxLen → l0.length * 2 ≤ 140737488351232 → (∀ x ∈ l0, (Lit.int .u16 x).wf = true) → ∃ k, tegulalaw35_AllocLarge.f k l0 = some true
theorem tegulalaw35_AllocLarge.walk (P : tegulalaw35_AllocLarge.Pure) (a0 : Option Addr) (len0 cap0 : Nat) (z0 : List Int) (w : World) (w0 : (a0 = none ∧ len0 = 0 ∧ cap0 = 0 ∧ z0 = []) ∨ ∃ x, a0 = some x ∧ len0 ≤ cap0 ∧ cap0 ≤ maxLen ∧ z0.length = cap0 ∧ (∀ i, i < z0.length → w.cell? (x.add i) = some (.int .u16 (z0.getD i 0))) ∧ ∀ n ∈ z0, (Lit.int .u16 n).wf = true) (y0 : len0 * 2 ≤ 140737488351232) :
  Calls Try.prog 3 #[.slice a0 len0 cap0] w fun e w' => e = .returned (.bool true) ∧ Below w.heap.size w w' := by
 obtain ⟨l0, rfl, hr0, hm0, hw0, hc0⟩ := ReadsInt.ofRowC w0
 obtain ⟨k, h⟩ := P l0 hm0 y0 hw0
 refine (tegulalaw35_AllocLarge.calls k _ _ l0 true w (Kd.C_of_reads (d := (0 : Int)) (h1 := fun _ => rfl) hr0) hc0 h).mono ?_
 rintro e w' ⟨rfl, hd⟩
 exact ⟨rfl, hd⟩

end Go.Proofs.Ytcjpikjbjehjeaa.PAlloc
