-- Written for this claim by a program of this session (wip/), out of the translation's own print: Lean checks it
import Derived.Test.YtcjpikjbjehjeaaPAllocx0
import Derived.Test.YtcjpikjbjehjeaaWGuard
import Derived.Test.YtcjpikjbjehjeaaPAllocx2
import Derived.Test.YtcjpikjbjehjeaaPAllocx9
import Derived.Test.YtcjpikjbjehjeaaPAllocx10
import Derived.Test.YtcjpikjbjehjeaaPAllocx11
namespace Go.Proofs.Ytcjpikjbjehjeaa.PAlloc
open Go.RowKit Go.Proofs.YtcjpikjbjehjeaaW.PrintWords Go.Proofs.YtcjpikjbjehjeaaW.PrintLast Go.Proofs.YtcjpikjbjehjeaaW.PrintMore
attribute [local go_sem] max2_int min2_int max_two min_two max_three min_three max_four min_four   -- for this text's walks alone
set_option linter.unusedVariables false
set_option linter.unusedSimpArgs false

/-! ### tegulalaw35_AllocNew: function 4 -/
mutual
def tegulalaw35_AllocNew.j0 : Nat → Int → Int → Bool → Int → List (S53) → Option (Bool)
 | 0, _, _, _, _, _ => none
 | k + 1, x0, x4, x61, x374000, x374001 => if x61 = true then (some false) else (if x0 < 0 then (tegulalaw35_AllocNew.j1 k x0 x4 true x374000 x374001) else (tegulalaw35_AllocNew.j1 k x0 x4 (decide (x0 > 65536)) x374000 x374001))
def tegulalaw35_AllocNew.j1 : Nat → Int → Int → Bool → Int → List (S53) → Option (Bool)
 | 0, _, _, _, _, _ => none
 | k + 1, x0, x4, x67, x374000, x374001 => if x67 = true then (some (x4 == 1)) else (if x4 = 0 then ((alloc_Map_Slots.f x374000 x374001).bind fun t400 => (if t400 = x0 then ((alloc_Map_Free.f k x374000 x374001).bind fun t401 => (if t401 = x0 then ((alloc_Map_Largest.f k x374000 x374001).bind fun t402 => (some (t402 == x0))) else (some false))) else (some false))) else (some false))
end
def tegulalaw35_AllocNew.f (k : Nat) (a0 : Int) : Option (Bool) := (tegulalaw35_awake.f k).bind fun t367 => (if t367 = true then ((alloc_New.f k a0).bind fun bt368 => ((alloc_Map_Take.f k 0 ([] : List (S53)) 1 0).bind fun bt375 => ((alloc_Map_Take.f k 0 ([] : List (S53)) 0 0).bind fun bt384 => ((alloc_Map_Slots.f 0 ([] : List (S53))).bind fun t393 => (if t393 = 0 then ((alloc_Map_Free.f k 0 ([] : List (S53))).bind fun t394 => (if t394 = 0 then ((alloc_Map_Largest.f k 0 ([] : List (S53))).bind fun t395 => (if t395 = 0 then ((alloc_Map_Runs.f 0 ([] : List (S53))).bind fun t396 => (if (t396.length : Int) = 0 then ((alloc_Map_Is.f 0 ([] : List (S53)) 0).bind fun t399 => (if t399 = true then (tegulalaw35_AllocNew.j0 k a0 bt368.2.2 true bt368.1 bt368.2.1) else (if bt375.2.2.2 = 11 then (tegulalaw35_AllocNew.j0 k a0 bt368.2.2 (bt384.2.2.2 != 0) bt368.1 bt368.2.1) else (tegulalaw35_AllocNew.j0 k a0 bt368.2.2 true bt368.1 bt368.2.1)))) else (tegulalaw35_AllocNew.j0 k a0 bt368.2.2 true bt368.1 bt368.2.1))) else (tegulalaw35_AllocNew.j0 k a0 bt368.2.2 true bt368.1 bt368.2.1))) else (tegulalaw35_AllocNew.j0 k a0 bt368.2.2 true bt368.1 bt368.2.1))) else (tegulalaw35_AllocNew.j0 k a0 bt368.2.2 true bt368.1 bt368.2.1)))))) else (some false))
theorem tegulalaw35_AllocNew.mono_l : ∀ k, (∀ y0 y1 y2 y3 y4, LeO (tegulalaw35_AllocNew.j0 k y0 y1 y2 y3 y4) (tegulalaw35_AllocNew.j0 (k + 1) y0 y1 y2 y3 y4)) ∧ (∀ y0 y1 y2 y3 y4, LeO (tegulalaw35_AllocNew.j1 k y0 y1 y2 y3 y4) (tegulalaw35_AllocNew.j1 (k + 1) y0 y1 y2 y3 y4))
 | 0 => ⟨fun _ _ _ _ _ r h => by simp [tegulalaw35_AllocNew.j0] at h, fun _ _ _ _ _ r h => by simp [tegulalaw35_AllocNew.j1] at h⟩
 | k + 1 => by
  obtain ⟨ih0, ih1⟩ := tegulalaw35_AllocNew.mono_l k
  refine ⟨?_, ?_⟩
  ·
   intro y0 y1 y2 y3 y4
   unfold tegulalaw35_AllocNew.j0
   repeat' first
   | (with_reducible exact ih0 _ _ _ _ _)
   | (with_reducible exact ih1 _ _ _ _ _)
   | (with_reducible exact alloc_Map_Free.mono _ _ _)
   | (with_reducible exact alloc_Map_Largest.mono _ _ _)
   | (with_reducible exact alloc_Map_Take.mono _ _ _ _ _)
   | (with_reducible exact alloc_New.mono _ _)
   | (with_reducible exact tegulalaw35_awake.mono _)
   | (with_reducible exact LeO.refl _)
   | (with_reducible exact LeO.none _)
   | (with_reducible refine LeO.ite ?_ ?_)
   | (with_reducible refine LeO.bind ?_ (fun _ => ?_))
   | exact ih0 _ _ _ _ _
   | exact ih1 _ _ _ _ _
   | exact alloc_Map_Free.mono _ _ _
   | exact alloc_Map_Largest.mono _ _ _
   | exact alloc_Map_Take.mono _ _ _ _ _
   | exact alloc_New.mono _ _
   | exact tegulalaw35_awake.mono _
   | exact LeO.none _
   | refine LeO.ite ?_ ?_
   | refine LeO.bind ?_ (fun _ => ?_)
  ·
   intro y0 y1 y2 y3 y4
   unfold tegulalaw35_AllocNew.j1
   repeat' first
   | (with_reducible exact ih0 _ _ _ _ _)
   | (with_reducible exact ih1 _ _ _ _ _)
   | (with_reducible exact alloc_Map_Free.mono _ _ _)
   | (with_reducible exact alloc_Map_Largest.mono _ _ _)
   | (with_reducible exact alloc_Map_Take.mono _ _ _ _ _)
   | (with_reducible exact alloc_New.mono _ _)
   | (with_reducible exact tegulalaw35_awake.mono _)
   | (with_reducible exact LeO.refl _)
   | (with_reducible exact LeO.none _)
   | (with_reducible refine LeO.ite ?_ ?_)
   | (with_reducible refine LeO.bind ?_ (fun _ => ?_))
   | exact ih0 _ _ _ _ _
   | exact ih1 _ _ _ _ _
   | exact alloc_Map_Free.mono _ _ _
   | exact alloc_Map_Largest.mono _ _ _
   | exact alloc_Map_Take.mono _ _ _ _ _
   | exact alloc_New.mono _ _
   | exact tegulalaw35_awake.mono _
   | exact LeO.none _
   | refine LeO.ite ?_ ?_
   | refine LeO.bind ?_ (fun _ => ?_)
theorem tegulalaw35_AllocNew.mono : ∀ a0 k, LeO (tegulalaw35_AllocNew.f k a0) (tegulalaw35_AllocNew.f (k + 1) a0) := by
 intro a0 k
 obtain ⟨ih0, ih1⟩ := tegulalaw35_AllocNew.mono_l k
 unfold tegulalaw35_AllocNew.f
 repeat' first
   | (with_reducible exact ih0 _ _ _ _ _)
   | (with_reducible exact ih1 _ _ _ _ _)
   | (with_reducible exact alloc_Map_Free.mono _ _ _)
   | (with_reducible exact alloc_Map_Largest.mono _ _ _)
   | (with_reducible exact alloc_Map_Take.mono _ _ _ _ _)
   | (with_reducible exact alloc_New.mono _ _)
   | (with_reducible exact tegulalaw35_awake.mono _)
   | (with_reducible exact LeO.refl _)
   | (with_reducible exact LeO.none _)
   | (with_reducible refine LeO.ite ?_ ?_)
   | (with_reducible refine LeO.bind ?_ (fun _ => ?_))
   | exact ih0 _ _ _ _ _
   | exact ih1 _ _ _ _ _
   | exact alloc_Map_Free.mono _ _ _
   | exact alloc_Map_Largest.mono _ _ _
   | exact alloc_Map_Take.mono _ _ _ _ _
   | exact alloc_New.mono _ _
   | exact tegulalaw35_awake.mono _
   | exact LeO.none _
   | refine LeO.ite ?_ ?_
   | refine LeO.bind ?_ (fun _ => ?_)
set_option maxHeartbeats 8000000 in
set_option maxRecDepth 100000 in
theorem tegulalaw35_AllocNew.calls (k : Nat) (a0 : Int) (r : Bool) (w : World) (h : tegulalaw35_AllocNew.f k a0 = some r) :
  Calls Try.prog 4 #[.int .i64 a0] w fun e w' => e = .returned (.bool r) ∧ Below w.heap.size w w' := by
 have hu26 := Try.underlying26
 have HB := Aside0.mk (Below.refl w.heap.size w)
 have H : ((tegulalaw35_awake.f k).bind fun t367 => (if t367 = true then ((alloc_New.f k a0).bind fun bt368 => ((alloc_Map_Take.f k 0 ([] : List (S53)) 1 0).bind fun bt375 => ((alloc_Map_Take.f k 0 ([] : List (S53)) 0 0).bind fun bt384 => ((alloc_Map_Slots.f 0 ([] : List (S53))).bind fun t393 => (if t393 = 0 then ((alloc_Map_Free.f k 0 ([] : List (S53))).bind fun t394 => (if t394 = 0 then ((alloc_Map_Largest.f k 0 ([] : List (S53))).bind fun t395 => (if t395 = 0 then ((alloc_Map_Runs.f 0 ([] : List (S53))).bind fun t396 => (if (t396.length : Int) = 0 then ((alloc_Map_Is.f 0 ([] : List (S53)) 0).bind fun t399 => (if t399 = true then (tegulalaw35_AllocNew.j0 k a0 bt368.2.2 true bt368.1 bt368.2.1) else (if bt375.2.2.2 = 11 then (tegulalaw35_AllocNew.j0 k a0 bt368.2.2 (bt384.2.2.2 != 0) bt368.1 bt368.2.1) else (tegulalaw35_AllocNew.j0 k a0 bt368.2.2 true bt368.1 bt368.2.1)))) else (tegulalaw35_AllocNew.j0 k a0 bt368.2.2 true bt368.1 bt368.2.1))) else (tegulalaw35_AllocNew.j0 k a0 bt368.2.2 true bt368.1 bt368.2.1))) else (tegulalaw35_AllocNew.j0 k a0 bt368.2.2 true bt368.1 bt368.2.1))) else (tegulalaw35_AllocNew.j0 k a0 bt368.2.2 true bt368.1 bt368.2.1)))))) else (some false))) = some r := h
 clear h
 replace H := Option.bind_eq_some_iff.mp H
 obtain ⟨t367, A20, H⟩ := H
 replace H : (if t367 = true then ((alloc_New.f k a0).bind fun bt368 => ((alloc_Map_Take.f k 0 ([] : List (S53)) 1 0).bind fun bt375 => ((alloc_Map_Take.f k 0 ([] : List (S53)) 0 0).bind fun bt384 => ((alloc_Map_Slots.f 0 ([] : List (S53))).bind fun t393 => (if t393 = 0 then ((alloc_Map_Free.f k 0 ([] : List (S53))).bind fun t394 => (if t394 = 0 then ((alloc_Map_Largest.f k 0 ([] : List (S53))).bind fun t395 => (if t395 = 0 then ((alloc_Map_Runs.f 0 ([] : List (S53))).bind fun t396 => (if (t396.length : Int) = 0 then ((alloc_Map_Is.f 0 ([] : List (S53)) 0).bind fun t399 => (if t399 = true then (tegulalaw35_AllocNew.j0 k a0 bt368.2.2 true bt368.1 bt368.2.1) else (if bt375.2.2.2 = 11 then (tegulalaw35_AllocNew.j0 k a0 bt368.2.2 (bt384.2.2.2 != 0) bt368.1 bt368.2.1) else (tegulalaw35_AllocNew.j0 k a0 bt368.2.2 true bt368.1 bt368.2.1)))) else (tegulalaw35_AllocNew.j0 k a0 bt368.2.2 true bt368.1 bt368.2.1))) else (tegulalaw35_AllocNew.j0 k a0 bt368.2.2 true bt368.1 bt368.2.1))) else (tegulalaw35_AllocNew.j0 k a0 bt368.2.2 true bt368.1 bt368.2.1))) else (tegulalaw35_AllocNew.j0 k a0 bt368.2.2 true bt368.1 bt368.2.1)))))) else (some false)) = some r := H
 have A2 := Aside0.mk A20
 clear A20
 by_cases c3 : t367 = true
 ·
  subst c3
  have H1 : ((alloc_New.f k a0).bind fun bt368 => ((alloc_Map_Take.f k 0 ([] : List (S53)) 1 0).bind fun bt375 => ((alloc_Map_Take.f k 0 ([] : List (S53)) 0 0).bind fun bt384 => ((alloc_Map_Slots.f 0 ([] : List (S53))).bind fun t393 => (if t393 = 0 then ((alloc_Map_Free.f k 0 ([] : List (S53))).bind fun t394 => (if t394 = 0 then ((alloc_Map_Largest.f k 0 ([] : List (S53))).bind fun t395 => (if t395 = 0 then ((alloc_Map_Runs.f 0 ([] : List (S53))).bind fun t396 => (if (t396.length : Int) = 0 then ((alloc_Map_Is.f 0 ([] : List (S53)) 0).bind fun t399 => (if t399 = true then (tegulalaw35_AllocNew.j0 k a0 bt368.2.2 true bt368.1 bt368.2.1) else (if bt375.2.2.2 = 11 then (tegulalaw35_AllocNew.j0 k a0 bt368.2.2 (bt384.2.2.2 != 0) bt368.1 bt368.2.1) else (tegulalaw35_AllocNew.j0 k a0 bt368.2.2 true bt368.1 bt368.2.1)))) else (tegulalaw35_AllocNew.j0 k a0 bt368.2.2 true bt368.1 bt368.2.1))) else (tegulalaw35_AllocNew.j0 k a0 bt368.2.2 true bt368.1 bt368.2.1))) else (tegulalaw35_AllocNew.j0 k a0 bt368.2.2 true bt368.1 bt368.2.1))) else (tegulalaw35_AllocNew.j0 k a0 bt368.2.2 true bt368.1 bt368.2.1)))))) = some r := by rw [if_pos rfl] at H; exact H
  clear H
  have H := H1
  clear H1
  replace H := Option.bind_eq_some_iff.mp H
  obtain ⟨⟨t368, t369, t372⟩, A40, H⟩ := H
  replace H : ((alloc_Map_Take.f k 0 ([] : List (S53)) 1 0).bind fun bt375 => ((alloc_Map_Take.f k 0 ([] : List (S53)) 0 0).bind fun bt384 => ((alloc_Map_Slots.f 0 ([] : List (S53))).bind fun t393 => (if t393 = 0 then ((alloc_Map_Free.f k 0 ([] : List (S53))).bind fun t394 => (if t394 = 0 then ((alloc_Map_Largest.f k 0 ([] : List (S53))).bind fun t395 => (if t395 = 0 then ((alloc_Map_Runs.f 0 ([] : List (S53))).bind fun t396 => (if (t396.length : Int) = 0 then ((alloc_Map_Is.f 0 ([] : List (S53)) 0).bind fun t399 => (if t399 = true then (tegulalaw35_AllocNew.j0 k a0 t372 true t368 t369) else (if bt375.2.2.2 = 11 then (tegulalaw35_AllocNew.j0 k a0 t372 (bt384.2.2.2 != 0) t368 t369) else (tegulalaw35_AllocNew.j0 k a0 t372 true t368 t369)))) else (tegulalaw35_AllocNew.j0 k a0 t372 true t368 t369))) else (tegulalaw35_AllocNew.j0 k a0 t372 true t368 t369))) else (tegulalaw35_AllocNew.j0 k a0 t372 true t368 t369))) else (tegulalaw35_AllocNew.j0 k a0 t372 true t368 t369))))) = some r := H
  have A4 := Aside0.mk A40
  clear A40
  replace H := Option.bind_eq_some_iff.mp H
  obtain ⟨⟨t375, t378, t379, t382⟩, A50, H⟩ := H
  replace H : ((alloc_Map_Take.f k 0 ([] : List (S53)) 0 0).bind fun bt384 => ((alloc_Map_Slots.f 0 ([] : List (S53))).bind fun t393 => (if t393 = 0 then ((alloc_Map_Free.f k 0 ([] : List (S53))).bind fun t394 => (if t394 = 0 then ((alloc_Map_Largest.f k 0 ([] : List (S53))).bind fun t395 => (if t395 = 0 then ((alloc_Map_Runs.f 0 ([] : List (S53))).bind fun t396 => (if (t396.length : Int) = 0 then ((alloc_Map_Is.f 0 ([] : List (S53)) 0).bind fun t399 => (if t399 = true then (tegulalaw35_AllocNew.j0 k a0 t372 true t368 t369) else (if t382 = 11 then (tegulalaw35_AllocNew.j0 k a0 t372 (bt384.2.2.2 != 0) t368 t369) else (tegulalaw35_AllocNew.j0 k a0 t372 true t368 t369)))) else (tegulalaw35_AllocNew.j0 k a0 t372 true t368 t369))) else (tegulalaw35_AllocNew.j0 k a0 t372 true t368 t369))) else (tegulalaw35_AllocNew.j0 k a0 t372 true t368 t369))) else (tegulalaw35_AllocNew.j0 k a0 t372 true t368 t369)))) = some r := H
  have A5 := Aside0.mk A50
  clear A50
  replace H := Option.bind_eq_some_iff.mp H
  obtain ⟨⟨t384, t387, t388, t391⟩, A60, H⟩ := H
  replace H : ((alloc_Map_Slots.f 0 ([] : List (S53))).bind fun t393 => (if t393 = 0 then ((alloc_Map_Free.f k 0 ([] : List (S53))).bind fun t394 => (if t394 = 0 then ((alloc_Map_Largest.f k 0 ([] : List (S53))).bind fun t395 => (if t395 = 0 then ((alloc_Map_Runs.f 0 ([] : List (S53))).bind fun t396 => (if (t396.length : Int) = 0 then ((alloc_Map_Is.f 0 ([] : List (S53)) 0).bind fun t399 => (if t399 = true then (tegulalaw35_AllocNew.j0 k a0 t372 true t368 t369) else (if t382 = 11 then (tegulalaw35_AllocNew.j0 k a0 t372 (t391 != 0) t368 t369) else (tegulalaw35_AllocNew.j0 k a0 t372 true t368 t369)))) else (tegulalaw35_AllocNew.j0 k a0 t372 true t368 t369))) else (tegulalaw35_AllocNew.j0 k a0 t372 true t368 t369))) else (tegulalaw35_AllocNew.j0 k a0 t372 true t368 t369))) else (tegulalaw35_AllocNew.j0 k a0 t372 true t368 t369))) = some r := H
  have A6 := Aside0.mk A60
  clear A60
  have HC7 := Aside0.mk H
  clear H
  go_enter Try.func4, Try.ntmps4
  go_upto_region 7 with (first | ((with_reducible refine gate_callee (f := 10) rfl ?_); refine goesL_ (some 12) rfl rfl Try.func10 (by kernel_rfl) rfl #[] rfl (by (try simp only [List.map_toArray, List.map_cons, List.map_nil]); first | done | rfl | (simp only [List.length_drop, List.length_take]; rfl)) ?_; (with_reducible refine (tegulalaw35_awake.calls k  true _ A2.out).mono ?_); rintro e w8 ⟨rfl, hb⟩; refine ⟨_, rfl, ?_⟩; replace HB := Aside0.mk (below_step (bU HB.out) hb); (try clear hb); (try clear hk)) | ((with_reducible refine gate_callee (f := 11) rfl ?_); refine goesL_ (some 16) rfl rfl Try.func11 (by kernel_rfl) rfl #[.int .i64 a0] rfl (by (try simp only [List.map_toArray, List.map_cons, List.map_nil]); first | done | rfl | (simp only [List.length_drop, List.length_take]; rfl)) ?_; (with_reducible refine (alloc_New.calls k a0 t368 t369 t372 _ A4.out).mono ?_); rintro e w9 ⟨v370, rfl, ho0, hb⟩; refine ⟨_, rfl, ?_⟩; have HO371 := Aside0.mk (Kd.R_lower ho0 (below_size (bU HB.out))); replace HB := Aside0.mk (below_step (bU HB.out) hb); (try clear hb); (try clear hk); (try clear ho0)) | ((with_reducible refine gate_dst (N := 3) rfl ?_); (try (refine gate_guard (by rfl) ?_; dsimp only)); refine box_event ?hg (N := 3) ?hd (cs := #[.int .i64 0, .slice none 0 0]) (t := 26) ?hr ?_; (case hd => rfl); (case hg => rfl); (case hr => first | (go_simp; done) | (go_simp; rfl)); intro gb373 hg w10 hbox hb; replace HO371 := Aside0.mk (Kd.R_below (rU HO371.out) hb); have BK373 := Aside0.mk (hbox); have GW373 := Aside0.mk ((by rw [hg]; exact (below_size (bU HB.out)) : w.heap.size ≤ gb373)); have GE373 := Aside0.mk ((by rw [hg]; exact (below_size (bU HB.out)) : w.heap.size ≤ gb373)); replace HB := Aside0.mk (below_step (bU HB.out) hb); clear hb hbox hg; have hcz11_0 : w10.cell? ⟨gb373, 0, none⟩ = some (.int .i64 0) := (blk_cell BK373.out 0).trans rfl; have hcz11_1 : w10.cell? ⟨gb373, 1, none⟩ = some (.slice none 0 0) := (blk_cell BK373.out 1).trans rfl; have hfz11_0 := blk_frozen BK373.out 0; have hfz11_1 := blk_frozen BK373.out 1; obtain ⟨Ao12, co12, eo12⟩ := Kd.R_slice HO371.out; subst eo12) | ((with_reducible refine gate_dst (N := 5) rfl ?_); (try (refine gate_guard (by rfl) ?_; dsimp only)); refine box_event ?hg (N := 5) ?hd (cs := #[.int .i64 0, .slice none 0 0]) (t := 26) ?hr ?_; (case hd => rfl); (case hg => rfl); (case hr => first | (go_simp; done) | (go_simp; rfl)); intro gb374 hg w13 hbox hb; replace HO371 := Aside0.mk (Kd.R_below (rU (Kd.R_mono (Kd.R_far (p := ⟨gb373, 1, none⟩) (Kd.R_far (p := ⟨gb373, 0, none⟩) (Kd.R_types HO371.out BK373.out (by decide)) (fun _ hk => hk.2) (.int .i64 t368)) (fun _ hk => hk.2) (.slice Ao12 t369.length co12)) (fun _ h_ => h_.1))) hb); have BK374 := Aside0.mk (hbox); have GW374 := Aside0.mk ((by rw [hg]; exact (below_size (by repeat (first | (with_reducible first | exact HB.out | apply below_alloc | apply pw_below_drewN | apply below_drew1 | refine below_set ?_ GE373.out) | exact HB.out))) : w.heap.size ≤ gb374)); have GE374 := Aside0.mk ((by rw [hg]; exact (below_size (by repeat (first | (with_reducible first | exact HB.out | apply below_alloc | apply pw_below_drewN | apply below_drew1 | refine below_set ?_ GE373.out) | exact HB.out))) : w.heap.size ≤ gb374)); replace HB := Aside0.mk (below_step (by repeat (first | (with_reducible first | exact HB.out | apply below_alloc | apply pw_below_drewN | apply below_drew1 | refine below_set ?_ GE373.out) | exact HB.out)) hb); have NB373_374 := Aside0.mk ((by rw [hg]; exact Nat.ne_of_lt (blk_lt (g := gb373) (o := .cells #[.int .i64 t368, .slice Ao12 t369.length co12] 26 (0, 0)) (by (with_reducible repeat (first | refine blk_drewN ?_ _ | refine blk_drew ?_ | refine blk_alloc ?_ _)); refine blk_put (cs := #[.int .i64 t368, .slice none 0 0]) ?_ 1 _ rfl; (with_reducible repeat (first | refine blk_drewN ?_ _ | refine blk_drew ?_ | refine blk_alloc ?_ _)); refine blk_put (cs := #[.int .i64 0, .slice none 0 0]) ?_ 0 _ rfl; (with_reducible repeat (first | refine blk_drewN ?_ _ | refine blk_drew ?_ | refine blk_alloc ?_ _)); exact BK373.out)) : gb373 ≠ gb374)); have NB374_373 := Aside0.mk ((by rw [hg]; exact Nat.ne_of_gt (blk_lt (g := gb373) (o := .cells #[.int .i64 t368, .slice Ao12 t369.length co12] 26 (0, 0)) (by (with_reducible repeat (first | refine blk_drewN ?_ _ | refine blk_drew ?_ | refine blk_alloc ?_ _)); refine blk_put (cs := #[.int .i64 t368, .slice none 0 0]) ?_ 1 _ rfl; (with_reducible repeat (first | refine blk_drewN ?_ _ | refine blk_drew ?_ | refine blk_alloc ?_ _)); refine blk_put (cs := #[.int .i64 0, .slice none 0 0]) ?_ 0 _ rfl; (with_reducible repeat (first | refine blk_drewN ?_ _ | refine blk_drew ?_ | refine blk_alloc ?_ _)); exact BK373.out)) : gb374 ≠ gb373)); replace BK373 := Aside0.mk (blk_below (g := gb373) (o := .cells #[.int .i64 t368, .slice Ao12 t369.length co12] 26 (0, 0)) (by (with_reducible repeat (first | refine blk_drewN ?_ _ | refine blk_drew ?_ | refine blk_alloc ?_ _)); refine blk_put (cs := #[.int .i64 t368, .slice none 0 0]) ?_ 1 _ rfl; (with_reducible repeat (first | refine blk_drewN ?_ _ | refine blk_drew ?_ | refine blk_alloc ?_ _)); refine blk_put (cs := #[.int .i64 0, .slice none 0 0]) ?_ 0 _ rfl; (with_reducible repeat (first | refine blk_drewN ?_ _ | refine blk_drew ?_ | refine blk_alloc ?_ _)); exact BK373.out) hb); clear hb hbox hg; have hnb14 := NB374_373.out; have hnc14 := NB373_374.out; have hcz15_0 : w13.cell? ⟨gb374, 0, none⟩ = some (.int .i64 0) := (blk_cell BK374.out 0).trans rfl; have hcz15_1 : w13.cell? ⟨gb374, 1, none⟩ = some (.slice none 0 0) := (blk_cell BK374.out 1).trans rfl; have hfz15_0 := blk_frozen BK374.out 0; have hfz15_1 := blk_frozen BK374.out 1) | ((with_reducible refine gate_callee (f := 12) rfl ?_); refine goesL_ (some 21) rfl rfl Try.func12 (by kernel_rfl) rfl #[.agg #[.int .i64 0, .slice none 0 0], .int .i64 1, .int .i64 0] rfl (by (try simp only [List.map_toArray, List.map_cons, List.map_nil]); first | done | rfl | (simp only [List.length_drop, List.length_take]; rfl)) ?_; (refine (alloc_Map_Take.calls k 0 (fun k_ => False) _ _ ([] : List (S53)) 1 0 t375 t378 t379 t382 _ ?side1 A5.out).mono ?_); (case side1 => exact Kd.V_nil _ _ _ _ _); rintro e w16 ⟨v376, v380, rfl, ho0, ho1, hb⟩; refine ⟨_, rfl, ?_⟩; have HO377 := Aside0.mk (Kd.R_lower (Kd.R_new' (Kd.R_mono (ok' := fun k_ => True) ho0 (fun _ hk_ => trivial)) (Kd.R_lt (rU HO371.out))) (below_size (by repeat (first | (with_reducible first | exact HB.out | apply below_alloc | apply pw_below_drewN | apply below_drew1 | refine below_set ?_ GE373.out | refine below_set ?_ GE374.out) | exact HB.out)))); have HO381 := Aside0.mk (Kd.V_lower (Kd.V_mono (ok' := fun k_ => some k_ ≠ (v376 : Value).ownBlock ∧ some k_ ≠ (.slice Ao12 t369.length co12 : Value).ownBlock ∧ k_ ≠ gb373 ∧ k_ ≠ gb374) ho1 (fun k_ hk_ => ⟨hk_.2, Or.elim hk_.1 (fun hs_ => (hs_).elim) (fun hn_ => (Kd.fresh' (Kd.R_lt (rU HO371.out)) k_ hn_)), Or.elim hk_.1 (fun hs_ => (hs_).elim) (fun hn_ => (Kd.freshB (g := gb373) (o := .cells #[.int .i64 t368, .slice Ao12 t369.length co12] 26 (0, 0)) (kU BK373.out) k_ hn_)), Or.elim hk_.1 (fun hs_ => (hs_).elim) (fun hn_ => (Kd.freshB (g := gb374) (o := .cells #[.int .i64 0, .slice none 0 0] 26 (0, 0)) (kU BK374.out) k_ hn_))⟩)) (below_size (by repeat (first | (with_reducible first | exact HB.out | apply below_alloc | apply pw_below_drewN | apply below_drew1 | refine below_set ?_ GE373.out | refine below_set ?_ GE374.out) | exact HB.out)))); replace HO371 := Aside0.mk (Kd.R_elder' (rU HO371.out) (Kd.R_base ho0) hb); replace BK373 := Aside0.mk (blk_below (g := gb373) (o := .cells #[.int .i64 t368, .slice Ao12 t369.length co12] 26 (0, 0)) (kU BK373.out) hb); replace BK374 := Aside0.mk (blk_below (g := gb374) (o := .cells #[.int .i64 0, .slice none 0 0] 26 (0, 0)) (kU BK374.out) hb); replace HB := Aside0.mk (below_step (by repeat (first | (with_reducible first | exact HB.out | apply below_alloc | apply pw_below_drewN | apply below_drew1 | refine below_set ?_ GE373.out | refine below_set ?_ GE374.out) | exact HB.out)) hb); (try clear hb); (try clear hk); (try clear ho0); (try clear ho1)) | ((with_reducible refine gate_dst (N := 7) rfl ?_); (try (refine gate_guard (by rfl) ?_; dsimp only)); refine box_event ?hg (N := 7) ?hd (cs := #[.int .i64 0, .slice none 0 0]) (t := 26) ?hr ?_; (case hd => rfl); (case hg => rfl); (case hr => first | (go_simp; done) | (go_simp; rfl)); intro gb383 hg w17 hbox hb; replace HO371 := Aside0.mk (Kd.R_below (rU HO371.out) hb); replace HO377 := Aside0.mk (Kd.R_below (rU HO377.out) hb); replace HO381 := Aside0.mk (Kd.V_below (Kd.V_elderB (by (with_reducible repeat (first | apply Kd.V_alloc | apply Kd.V_drewN | apply Kd.V_drew)); exact HO381.out) gb383 (Nat.le_of_eq hg.symm)) hb); have BK383 := Aside0.mk (hbox); have GW383 := Aside0.mk ((by rw [hg]; exact (below_size (by repeat (first | (with_reducible first | exact HB.out | apply below_alloc | apply pw_below_drewN | apply below_drew1 | refine below_set ?_ GE373.out | refine below_set ?_ GE374.out) | exact HB.out))) : w.heap.size ≤ gb383)); have GE383 := Aside0.mk ((by rw [hg]; exact (below_size (by repeat (first | (with_reducible first | exact HB.out | apply below_alloc | apply pw_below_drewN | apply below_drew1 | refine below_set ?_ GE373.out | refine below_set ?_ GE374.out) | exact HB.out))) : w.heap.size ≤ gb383)); replace HB := Aside0.mk (below_step (by repeat (first | (with_reducible first | exact HB.out | apply below_alloc | apply pw_below_drewN | apply below_drew1 | refine below_set ?_ GE373.out | refine below_set ?_ GE374.out) | exact HB.out)) hb); have NB373_383 := Aside0.mk ((by rw [hg]; exact Nat.ne_of_lt (blk_lt (g := gb373) (o := .cells #[.int .i64 t368, .slice Ao12 t369.length co12] 26 (0, 0)) (kU BK373.out)) : gb373 ≠ gb383)); have NB383_373 := Aside0.mk ((by rw [hg]; exact Nat.ne_of_gt (blk_lt (g := gb373) (o := .cells #[.int .i64 t368, .slice Ao12 t369.length co12] 26 (0, 0)) (kU BK373.out)) : gb383 ≠ gb373)); replace BK373 := Aside0.mk (blk_below (g := gb373) (o := .cells #[.int .i64 t368, .slice Ao12 t369.length co12] 26 (0, 0)) (kU BK373.out) hb); have NB374_383 := Aside0.mk ((by rw [hg]; exact Nat.ne_of_lt (blk_lt (g := gb374) (o := .cells #[.int .i64 0, .slice none 0 0] 26 (0, 0)) (kU BK374.out)) : gb374 ≠ gb383)); have NB383_374 := Aside0.mk ((by rw [hg]; exact Nat.ne_of_gt (blk_lt (g := gb374) (o := .cells #[.int .i64 0, .slice none 0 0] 26 (0, 0)) (kU BK374.out)) : gb383 ≠ gb374)); replace BK374 := Aside0.mk (blk_below (g := gb374) (o := .cells #[.int .i64 0, .slice none 0 0] 26 (0, 0)) (kU BK374.out) hb); clear hb hbox hg; have hnb18 := NB383_373.out; have hnc18 := NB373_383.out; have hnb19 := NB383_374.out; have hnc19 := NB374_383.out; have hcz20_0 : w17.cell? ⟨gb383, 0, none⟩ = some (.int .i64 0) := (blk_cell BK383.out 0).trans rfl; have hcz20_1 : w17.cell? ⟨gb383, 1, none⟩ = some (.slice none 0 0) := (blk_cell BK383.out 1).trans rfl; have hfz20_0 := blk_frozen BK383.out 0; have hfz20_1 := blk_frozen BK383.out 1; obtain ⟨Ao21, co21, eo21⟩ := Kd.V_slice HO381.out; subst eo21) | ((with_reducible refine gate_store (t := 26) (p := 7) rfl ?_); refine store_event (t := 26) (p := 7) (v := ?vo_w22) (w1 := ((w17.setCell ⟨gb383, 0, none⟩ (.int .i64 t378)).setCell ⟨gb383, 1, none⟩ (.slice Ao21 t379.length co21))) ?hg ?ho ?hn ?hr ?_; (case ho => rfl); (case hg => rfl); (case hn => rfl); (case hr => first | (go_simp; done) | (go_simp; rfl)); intro w22 hw; have n0_ : Aside0 (Kd.R k53 53 w22 w.heap.size (fun k_ => some k_ ≠ (v376 : Value).ownBlock) (.slice Ao12 t369.length co12) t369) := ⟨(by rw [hw]; exact (rU (Kd.R_mono (Kd.R_far (p := ⟨gb383, 1, none⟩) (Kd.R_far (p := ⟨gb383, 0, none⟩) (Kd.R_types HO371.out BK383.out (by decide)) (fun _ hk => hk.2) (.int .i64 t378)) (fun _ hk => hk.2) (.slice Ao21 t379.length co21)) (fun _ hk => hk.1.2))))⟩; have n1_ : Aside0 (Kd.R k53 53 w22 w.heap.size (fun k_ => some k_ ≠ (.slice Ao12 t369.length co12 : Value).ownBlock) v376 t375) := ⟨(by rw [hw]; exact (rU (Kd.R_mono (Kd.R_far (p := ⟨gb383, 1, none⟩) (Kd.R_far (p := ⟨gb383, 0, none⟩) (Kd.R_types HO377.out BK383.out (by decide)) (fun _ hk => hk.2) (.int .i64 t378)) (fun _ hk => hk.2) (.slice Ao21 t379.length co21)) (fun _ hk => hk.1.2))))⟩; have n2_ : Aside0 (Kd.V k53 53 w22 w.heap.size (fun k_ => some k_ ≠ (.slice Ao12 t369.length co12 : Value).ownBlock ∧ some k_ ≠ (v376 : Value).ownBlock ∧ k_ ≠ gb373 ∧ k_ ≠ gb374 ∧ k_ ≠ gb383) (.slice Ao21 t379.length co21) t379) := ⟨(by rw [hw]; exact (by (with_reducible repeat (first | apply Kd.V_alloc | apply Kd.V_drewN | apply Kd.V_drew)); exact Kd.V_mono (Kd.V_far (p := ⟨gb383, 1, none⟩) (Kd.V_far (p := ⟨gb383, 0, none⟩) (Kd.V_mono HO381.out (fun k_ hk => (⟨hk, hk.2⟩ : _ ∧ k_ ≠ gb383))) (fun _ hk => hk.2) (.int .i64 t378)) (fun _ hk => hk.2) (.slice Ao21 t379.length co21)) (fun _ hk => ⟨hk.1.1.2.1, ⟨hk.1.1.1, ⟨hk.1.1.2.2.1, ⟨hk.1.1.2.2.2, hk.1.2⟩⟩⟩⟩)))⟩; have n3_ : Aside0 (w22.heap[gb373]? = some (.cells #[.int .i64 t368, .slice Ao12 t369.length co12] 26 (0, 0))) := ⟨(by rw [hw]; exact (by (with_reducible repeat (first | refine blk_drewN ?_ _ | refine blk_drew ?_ | refine blk_alloc ?_ _)); refine blk_far ?_ NB373_383.out _; (with_reducible repeat (first | refine blk_drewN ?_ _ | refine blk_drew ?_ | refine blk_alloc ?_ _)); refine blk_far ?_ NB373_383.out _; (with_reducible repeat (first | refine blk_drewN ?_ _ | refine blk_drew ?_ | refine blk_alloc ?_ _)); exact BK373.out))⟩; have n4_ : Aside0 (w22.heap[gb374]? = some (.cells #[.int .i64 0, .slice none 0 0] 26 (0, 0))) := ⟨(by rw [hw]; exact (by (with_reducible repeat (first | refine blk_drewN ?_ _ | refine blk_drew ?_ | refine blk_alloc ?_ _)); refine blk_far ?_ NB374_383.out _; (with_reducible repeat (first | refine blk_drewN ?_ _ | refine blk_drew ?_ | refine blk_alloc ?_ _)); refine blk_far ?_ NB374_383.out _; (with_reducible repeat (first | refine blk_drewN ?_ _ | refine blk_drew ?_ | refine blk_alloc ?_ _)); exact BK374.out))⟩; have n5_ : Aside0 (w22.heap[gb383]? = some (.cells #[.int .i64 t378, .slice Ao21 t379.length co21] 26 (0, 0))) := ⟨(by rw [hw]; exact (by (with_reducible repeat (first | refine blk_drewN ?_ _ | refine blk_drew ?_ | refine blk_alloc ?_ _)); refine blk_put (cs := #[.int .i64 t378, .slice none 0 0]) ?_ 1 _ rfl; (with_reducible repeat (first | refine blk_drewN ?_ _ | refine blk_drew ?_ | refine blk_alloc ?_ _)); refine blk_put (cs := #[.int .i64 0, .slice none 0 0]) ?_ 0 _ rfl; (with_reducible repeat (first | refine blk_drewN ?_ _ | refine blk_drew ?_ | refine blk_alloc ?_ _)); exact BK383.out))⟩; have n6_ : Aside0 (Below w.heap.size w w22) := ⟨(by rw [hw]; exact (by repeat (first | (with_reducible first | exact HB.out | apply below_alloc | apply pw_below_drewN | apply below_drew1 | refine below_set ?_ GE373.out | refine below_set ?_ GE374.out | refine below_set ?_ GE383.out) | exact HB.out)))⟩; clear hw; clear HO371; clear HO377; clear HO381; clear BK373; clear BK374; clear BK383; clear HB; have HO371 := n0_; have HO377 := n1_; have HO381 := n2_; have BK373 := n3_; have BK374 := n4_; have BK383 := n5_; have HB := n6_; clear n0_ n1_ n2_ n3_ n4_ n5_ n6_; have hcz23_0 : w22.cell? ⟨gb374, 0, none⟩ = some (.int .i64 0) := (blk_cell BK374.out 0).trans rfl; have hcz23_1 : w22.cell? ⟨gb374, 1, none⟩ = some (.slice none 0 0) := (blk_cell BK374.out 1).trans rfl; have hfz23_0 := blk_frozen BK374.out 0; have hfz23_1 := blk_frozen BK374.out 1) | ((with_reducible refine gate_callee (f := 12) rfl ?_); refine goesL_ (some 27) rfl rfl Try.func12 (by kernel_rfl) rfl #[.agg #[.int .i64 0, .slice none 0 0], .int .i64 0, .int .i64 0] rfl (by (try simp only [List.map_toArray, List.map_cons, List.map_nil]); first | done | rfl | (simp only [List.length_drop, List.length_take]; rfl)) ?_; (refine (alloc_Map_Take.calls k 0 (fun k_ => False) _ _ ([] : List (S53)) 0 0 t384 t387 t388 t391 _ ?side1 A6.out).mono ?_); (case side1 => exact Kd.V_nil _ _ _ _ _); rintro e w24 ⟨v385, v389, rfl, ho0, ho1, hb⟩; refine ⟨_, rfl, ?_⟩; replace HO381 := Aside0.mk (Kd.V_elder' (by (with_reducible repeat (first | apply Kd.V_alloc | apply Kd.V_drewN | apply Kd.V_drew)); exact HO381.out) (Kd.R_base ho0) hb); have HO386 := Aside0.mk (Kd.R_lower (Kd.R_new' (Kd.R_new' (Kd.R_mono (ok' := fun k_ => True) ho0 (fun _ hk_ => trivial)) (Kd.R_lt (rU HO371.out))) (Kd.R_lt (rU HO377.out))) (below_size (by repeat (first | (with_reducible first | exact HB.out | apply below_alloc | apply pw_below_drewN | apply below_drew1 | refine below_set ?_ GE373.out | refine below_set ?_ GE374.out | refine below_set ?_ GE383.out) | exact HB.out)))); have HO390 := Aside0.mk (Kd.V_lower (Kd.V_mono (ok' := fun k_ => some k_ ≠ (v385 : Value).ownBlock ∧ some k_ ≠ (.slice Ao12 t369.length co12 : Value).ownBlock ∧ some k_ ≠ (v376 : Value).ownBlock ∧ k_ ≠ gb373 ∧ k_ ≠ gb374 ∧ k_ ≠ gb383) ho1 (fun k_ hk_ => ⟨hk_.2, Or.elim hk_.1 (fun hs_ => (hs_).elim) (fun hn_ => (Kd.fresh' (Kd.R_lt (rU HO371.out)) k_ hn_)), Or.elim hk_.1 (fun hs_ => (hs_).elim) (fun hn_ => (Kd.fresh' (Kd.R_lt (rU HO377.out)) k_ hn_)), Or.elim hk_.1 (fun hs_ => (hs_).elim) (fun hn_ => (Kd.freshB (g := gb373) (o := .cells #[.int .i64 t368, .slice Ao12 t369.length co12] 26 (0, 0)) (kU BK373.out) k_ hn_)), Or.elim hk_.1 (fun hs_ => (hs_).elim) (fun hn_ => (Kd.freshB (g := gb374) (o := .cells #[.int .i64 0, .slice none 0 0] 26 (0, 0)) (kU BK374.out) k_ hn_)), Or.elim hk_.1 (fun hs_ => (hs_).elim) (fun hn_ => (Kd.freshB (g := gb383) (o := .cells #[.int .i64 t378, .slice Ao21 t379.length co21] 26 (0, 0)) (kU BK383.out) k_ hn_))⟩)) (below_size (by repeat (first | (with_reducible first | exact HB.out | apply below_alloc | apply pw_below_drewN | apply below_drew1 | refine below_set ?_ GE373.out | refine below_set ?_ GE374.out | refine below_set ?_ GE383.out) | exact HB.out)))); replace HO371 := Aside0.mk (Kd.R_elder' (rU HO371.out) (Kd.R_base ho0) hb); replace HO377 := Aside0.mk (Kd.R_elder' (rU HO377.out) (Kd.R_base ho0) hb); replace BK373 := Aside0.mk (blk_below (g := gb373) (o := .cells #[.int .i64 t368, .slice Ao12 t369.length co12] 26 (0, 0)) (kU BK373.out) hb); replace BK374 := Aside0.mk (blk_below (g := gb374) (o := .cells #[.int .i64 0, .slice none 0 0] 26 (0, 0)) (kU BK374.out) hb); replace BK383 := Aside0.mk (blk_below (g := gb383) (o := .cells #[.int .i64 t378, .slice Ao21 t379.length co21] 26 (0, 0)) (kU BK383.out) hb); replace HB := Aside0.mk (below_step (by repeat (first | (with_reducible first | exact HB.out | apply below_alloc | apply pw_below_drewN | apply below_drew1 | refine below_set ?_ GE373.out | refine below_set ?_ GE374.out | refine below_set ?_ GE383.out) | exact HB.out)) hb); (try clear hb); (try clear hk); (try clear ho0); (try clear ho1)) | ((with_reducible refine gate_dst (N := 10) rfl ?_); (try (refine gate_guard (by rfl) ?_; dsimp only)); refine box_event ?hg (N := 10) ?hd (cs := #[.int .i64 0, .slice none 0 0]) (t := 26) ?hr ?_; (case hd => rfl); (case hg => rfl); (case hr => first | (go_simp; done) | (go_simp; rfl)); intro gb392 hg w25 hbox hb; replace HO371 := Aside0.mk (Kd.R_below (rU HO371.out) hb); replace HO377 := Aside0.mk (Kd.R_below (rU HO377.out) hb); replace HO381 := Aside0.mk (Kd.V_below (Kd.V_elderB (by (with_reducible repeat (first | apply Kd.V_alloc | apply Kd.V_drewN | apply Kd.V_drew)); exact HO381.out) gb392 (Nat.le_of_eq hg.symm)) hb); replace HO386 := Aside0.mk (Kd.R_below (rU HO386.out) hb); replace HO390 := Aside0.mk (Kd.V_below (Kd.V_elderB (by (with_reducible repeat (first | apply Kd.V_alloc | apply Kd.V_drewN | apply Kd.V_drew)); exact HO390.out) gb392 (Nat.le_of_eq hg.symm)) hb); have BK392 := Aside0.mk (hbox); have GW392 := Aside0.mk ((by rw [hg]; exact (below_size (by repeat (first | (with_reducible first | exact HB.out | apply below_alloc | apply pw_below_drewN | apply below_drew1 | refine below_set ?_ GE373.out | refine below_set ?_ GE374.out | refine below_set ?_ GE383.out) | exact HB.out))) : w.heap.size ≤ gb392)); have GE392 := Aside0.mk ((by rw [hg]; exact (below_size (by repeat (first | (with_reducible first | exact HB.out | apply below_alloc | apply pw_below_drewN | apply below_drew1 | refine below_set ?_ GE373.out | refine below_set ?_ GE374.out | refine below_set ?_ GE383.out) | exact HB.out))) : w.heap.size ≤ gb392)); replace HB := Aside0.mk (below_step (by repeat (first | (with_reducible first | exact HB.out | apply below_alloc | apply pw_below_drewN | apply below_drew1 | refine below_set ?_ GE373.out | refine below_set ?_ GE374.out | refine below_set ?_ GE383.out) | exact HB.out)) hb); have NB373_392 := Aside0.mk ((by rw [hg]; exact Nat.ne_of_lt (blk_lt (g := gb373) (o := .cells #[.int .i64 t368, .slice Ao12 t369.length co12] 26 (0, 0)) (kU BK373.out)) : gb373 ≠ gb392)); have NB392_373 := Aside0.mk ((by rw [hg]; exact Nat.ne_of_gt (blk_lt (g := gb373) (o := .cells #[.int .i64 t368, .slice Ao12 t369.length co12] 26 (0, 0)) (kU BK373.out)) : gb392 ≠ gb373)); replace BK373 := Aside0.mk (blk_below (g := gb373) (o := .cells #[.int .i64 t368, .slice Ao12 t369.length co12] 26 (0, 0)) (kU BK373.out) hb); have NB374_392 := Aside0.mk ((by rw [hg]; exact Nat.ne_of_lt (blk_lt (g := gb374) (o := .cells #[.int .i64 0, .slice none 0 0] 26 (0, 0)) (kU BK374.out)) : gb374 ≠ gb392)); have NB392_374 := Aside0.mk ((by rw [hg]; exact Nat.ne_of_gt (blk_lt (g := gb374) (o := .cells #[.int .i64 0, .slice none 0 0] 26 (0, 0)) (kU BK374.out)) : gb392 ≠ gb374)); replace BK374 := Aside0.mk (blk_below (g := gb374) (o := .cells #[.int .i64 0, .slice none 0 0] 26 (0, 0)) (kU BK374.out) hb); have NB383_392 := Aside0.mk ((by rw [hg]; exact Nat.ne_of_lt (blk_lt (g := gb383) (o := .cells #[.int .i64 t378, .slice Ao21 t379.length co21] 26 (0, 0)) (kU BK383.out)) : gb383 ≠ gb392)); have NB392_383 := Aside0.mk ((by rw [hg]; exact Nat.ne_of_gt (blk_lt (g := gb383) (o := .cells #[.int .i64 t378, .slice Ao21 t379.length co21] 26 (0, 0)) (kU BK383.out)) : gb392 ≠ gb383)); replace BK383 := Aside0.mk (blk_below (g := gb383) (o := .cells #[.int .i64 t378, .slice Ao21 t379.length co21] 26 (0, 0)) (kU BK383.out) hb); clear hb hbox hg; have hnb26 := NB392_373.out; have hnc26 := NB373_392.out; have hnb27 := NB392_374.out; have hnc27 := NB374_392.out; have hnb28 := NB392_383.out; have hnc28 := NB383_392.out; have hcz29_0 : w25.cell? ⟨gb392, 0, none⟩ = some (.int .i64 0) := (blk_cell BK392.out 0).trans rfl; have hcz29_1 : w25.cell? ⟨gb392, 1, none⟩ = some (.slice none 0 0) := (blk_cell BK392.out 1).trans rfl; have hfz29_0 := blk_frozen BK392.out 0; have hfz29_1 := blk_frozen BK392.out 1; obtain ⟨Ao30, co30, eo30⟩ := Kd.V_slice HO390.out; subst eo30))
  (try simp only [Act.put, List.setIfInBounds_toArray, List.set_cons_zero, List.set_cons_succ])
  go_cut [61] (fun v61 wc => ∃ (kq : Nat) (x61_6 : Bool), v61 = .bool x61_6 ∧ Aside0 (tegulalaw35_AllocNew.j0 kq a0 t372 x61_6 t368 t369 = some r) ∧ Aside0 (kq ≤ k) ∧ Aside0 (Kd.R k53 53 wc w.heap.size (fun _ => True) (.slice Ao12 t369.length co12) t369) ∧ Aside0 (Kd.V k53 53 wc w.heap.size (fun k_ => some k_ ≠ ((.slice Ao12 t369.length co12) : Value).ownBlock ∧ k_ ≠ gb373 ∧ k_ ≠ gb374 ∧ k_ ≠ gb383 ∧ k_ ≠ gb392) (.slice Ao21 t379.length co21) t379) ∧ Aside0 (Kd.V k53 53 wc w.heap.size (fun k_ => some k_ ≠ ((.slice Ao12 t369.length co12) : Value).ownBlock ∧ k_ ≠ gb373 ∧ k_ ≠ gb374 ∧ k_ ≠ gb383 ∧ k_ ≠ gb392) (.slice Ao30 t388.length co30) t388) ∧ Aside0 (wc.heap[gb373]? = some (.cells #[.int .i64 t368, (.slice Ao12 t369.length co12)] 26 (0, 0))) ∧ Aside0 (wc.heap[gb374]? = some (.cells #[.int .i64 0, (.slice none 0 0)] 26 (0, 0))) ∧ Aside0 (wc.heap[gb383]? = some (.cells #[.int .i64 t378, (.slice Ao21 t379.length co21)] 26 (0, 0))) ∧ Aside0 (wc.heap[gb392]? = some (.cells #[.int .i64 t387, (.slice Ao30 t388.length co30)] 26 (0, 0))) ∧ Aside0 (Below w.heap.size w wc))
  case first =>
   have H := HC7.out
   clear HC7
   replace H := Option.bind_eq_some_iff.mp H
   obtain ⟨t393, A310, H⟩ := H
   replace H : (if t393 = 0 then ((alloc_Map_Free.f k 0 ([] : List (S53))).bind fun t394 => (if t394 = 0 then ((alloc_Map_Largest.f k 0 ([] : List (S53))).bind fun t395 => (if t395 = 0 then ((alloc_Map_Runs.f 0 ([] : List (S53))).bind fun t396 => (if (t396.length : Int) = 0 then ((alloc_Map_Is.f 0 ([] : List (S53)) 0).bind fun t399 => (if t399 = true then (tegulalaw35_AllocNew.j0 k a0 t372 true t368 t369) else (if t382 = 11 then (tegulalaw35_AllocNew.j0 k a0 t372 (t391 != 0) t368 t369) else (tegulalaw35_AllocNew.j0 k a0 t372 true t368 t369)))) else (tegulalaw35_AllocNew.j0 k a0 t372 true t368 t369))) else (tegulalaw35_AllocNew.j0 k a0 t372 true t368 t369))) else (tegulalaw35_AllocNew.j0 k a0 t372 true t368 t369))) else (tegulalaw35_AllocNew.j0 k a0 t372 true t368 t369)) = some r := H
   have A31 := Aside0.mk A310
   clear A310
   by_cases c32 : t393 = 0
   ·
    rw [if_pos c32] at H
    have c32b0 : (t393 == 0) = true := beq_iff_eq.mpr c32
    have c32b1 : (t393 != 0) = false := bne_eq_false_iff_eq.mpr c32
    clear c32
    (first | rw [c32b0] | (simp only [i64_w, i32_w]; rw [c32b0]) | skip)
    replace H := Option.bind_eq_some_iff.mp H
    obtain ⟨t394, A330, H⟩ := H
    replace H : (if t394 = 0 then ((alloc_Map_Largest.f k 0 ([] : List (S53))).bind fun t395 => (if t395 = 0 then ((alloc_Map_Runs.f 0 ([] : List (S53))).bind fun t396 => (if (t396.length : Int) = 0 then ((alloc_Map_Is.f 0 ([] : List (S53)) 0).bind fun t399 => (if t399 = true then (tegulalaw35_AllocNew.j0 k a0 t372 true t368 t369) else (if t382 = 11 then (tegulalaw35_AllocNew.j0 k a0 t372 (t391 != 0) t368 t369) else (tegulalaw35_AllocNew.j0 k a0 t372 true t368 t369)))) else (tegulalaw35_AllocNew.j0 k a0 t372 true t368 t369))) else (tegulalaw35_AllocNew.j0 k a0 t372 true t368 t369))) else (tegulalaw35_AllocNew.j0 k a0 t372 true t368 t369)) = some r := H
    have A33 := Aside0.mk A330
    clear A330
    by_cases c34 : t394 = 0
    ·
     rw [if_pos c34] at H
     have c34b0 : (t394 == 0) = true := beq_iff_eq.mpr c34
     have c34b1 : (t394 != 0) = false := bne_eq_false_iff_eq.mpr c34
     clear c34
     replace H := Option.bind_eq_some_iff.mp H
     obtain ⟨t395, A350, H⟩ := H
     replace H : (if t395 = 0 then ((alloc_Map_Runs.f 0 ([] : List (S53))).bind fun t396 => (if (t396.length : Int) = 0 then ((alloc_Map_Is.f 0 ([] : List (S53)) 0).bind fun t399 => (if t399 = true then (tegulalaw35_AllocNew.j0 k a0 t372 true t368 t369) else (if t382 = 11 then (tegulalaw35_AllocNew.j0 k a0 t372 (t391 != 0) t368 t369) else (tegulalaw35_AllocNew.j0 k a0 t372 true t368 t369)))) else (tegulalaw35_AllocNew.j0 k a0 t372 true t368 t369))) else (tegulalaw35_AllocNew.j0 k a0 t372 true t368 t369)) = some r := H
     have A35 := Aside0.mk A350
     clear A350
     by_cases c36 : t395 = 0
     ·
      rw [if_pos c36] at H
      have c36b0 : (t395 == 0) = true := beq_iff_eq.mpr c36
      have c36b1 : (t395 != 0) = false := bne_eq_false_iff_eq.mpr c36
      clear c36
      replace H := Option.bind_eq_some_iff.mp H
      obtain ⟨t396, A370, H⟩ := H
      replace H : (if (t396.length : Int) = 0 then ((alloc_Map_Is.f 0 ([] : List (S53)) 0).bind fun t399 => (if t399 = true then (tegulalaw35_AllocNew.j0 k a0 t372 true t368 t369) else (if t382 = 11 then (tegulalaw35_AllocNew.j0 k a0 t372 (t391 != 0) t368 t369) else (tegulalaw35_AllocNew.j0 k a0 t372 true t368 t369)))) else (tegulalaw35_AllocNew.j0 k a0 t372 true t368 t369)) = some r := H
      have A37 := Aside0.mk A370
      clear A370
      by_cases c38 : (t396.length : Int) = 0
      ·
       rw [if_pos c38] at H
       have c38b0 : ((t396.length : Int) == 0) = true := beq_iff_eq.mpr c38
       have c38b1 : ((t396.length : Int) != 0) = false := bne_eq_false_iff_eq.mpr c38
       clear c38
       replace H := Option.bind_eq_some_iff.mp H
       obtain ⟨t399, A390, H⟩ := H
       replace H : (if t399 = true then (tegulalaw35_AllocNew.j0 k a0 t372 true t368 t369) else (if t382 = 11 then (tegulalaw35_AllocNew.j0 k a0 t372 (t391 != 0) t368 t369) else (tegulalaw35_AllocNew.j0 k a0 t372 true t368 t369))) = some r := H
       have A39 := Aside0.mk A390
       clear A390
       by_cases c40 : t399 = true
       ·
        subst c40
        have H1 : (tegulalaw35_AllocNew.j0 k a0 t372 true t368 t369) = some r := by rw [if_pos rfl] at H; exact H
        clear H
        have H := H1
        clear H1
        have H' := Aside0.mk H
        clear H
        have hnb41 := NB374_373.out
        have hnc41 := NB373_374.out
        have hnb42 := NB374_383.out
        have hnc42 := NB383_374.out
        have hnb43 := NB374_392.out
        have hnc43 := NB392_374.out
        have hcz44_0 : w25.cell? ⟨gb374, 0, none⟩ = some (.int .i64 0) := (blk_cell BK374.out 0).trans rfl
        have hcz44_1 : w25.cell? ⟨gb374, 1, none⟩ = some (.slice none 0 0) := (blk_cell BK374.out 1).trans rfl
        have hfz44_0 := blk_frozen BK374.out 0
        have hfz44_1 := blk_frozen BK374.out 1
        go_wp2_with (first | ((with_reducible refine gate_callee (f := 17) rfl ?_); refine goesL_ (some 32) rfl rfl Try.func17 (by kernel_rfl) rfl #[.agg #[.int .i64 0, .slice none 0 0]] rfl (by (try simp only [List.map_toArray, List.map_cons, List.map_nil]); first | done | rfl | (simp only [List.length_drop, List.length_take]; rfl)) ?_; (refine (alloc_Map_Slots.calls 0 _ _ ([] : List (S53)) t393 _ ?side1 ?side2 A31.out).mono ?_); (case side1 => exact Kd.C_nil _ _); (case side2 => exact Nat.le_refl _); rintro e w45 ⟨rfl, hb⟩; refine ⟨_, rfl, ?_⟩; replace HO371 := Aside0.mk (Kd.R_below (rU (Kd.R_mono (Kd.R_far (p := ⟨gb392, 1, none⟩) (Kd.R_far (p := ⟨gb392, 0, none⟩) (Kd.R_types HO371.out BK392.out (by decide)) (fun _ hk => hk.2) (.int .i64 t387)) (fun _ hk => hk.2) (.slice Ao30 t388.length co30)) (fun _ h_ => h_.1))) hb); replace HO377 := Aside0.mk (Kd.R_below (rU (Kd.R_mono (Kd.R_far (p := ⟨gb392, 1, none⟩) (Kd.R_far (p := ⟨gb392, 0, none⟩) (Kd.R_types HO377.out BK392.out (by decide)) (fun _ hk => hk.2) (.int .i64 t387)) (fun _ hk => hk.2) (.slice Ao30 t388.length co30)) (fun _ h_ => h_.1))) hb); replace HO381 := Aside0.mk (Kd.V_below (by (with_reducible repeat (first | apply Kd.V_alloc | apply Kd.V_drewN | apply Kd.V_drew)); exact (Kd.V_mono (Kd.V_far (p := ⟨gb392, 1, none⟩) (Kd.V_far (p := ⟨gb392, 0, none⟩) (Kd.V_mono HO381.out (fun k_ hk => (⟨hk, hk.2⟩ : _ ∧ k_ ≠ gb392))) (fun _ hk => hk.2) (.int .i64 t387)) (fun _ hk => hk.2) (.slice Ao30 t388.length co30)) (fun _ h_ => h_.1))) hb); replace HO386 := Aside0.mk (Kd.R_below (rU (Kd.R_mono (Kd.R_far (p := ⟨gb392, 1, none⟩) (Kd.R_far (p := ⟨gb392, 0, none⟩) (Kd.R_types HO386.out BK392.out (by decide)) (fun _ hk => hk.2) (.int .i64 t387)) (fun _ hk => hk.2) (.slice Ao30 t388.length co30)) (fun _ h_ => h_.1))) hb); replace HO390 := Aside0.mk (Kd.V_below (by (with_reducible repeat (first | apply Kd.V_alloc | apply Kd.V_drewN | apply Kd.V_drew)); exact (Kd.V_mono (Kd.V_far (p := ⟨gb392, 1, none⟩) (Kd.V_far (p := ⟨gb392, 0, none⟩) (Kd.V_mono HO390.out (fun k_ hk => (⟨hk, hk.2⟩ : _ ∧ k_ ≠ gb392))) (fun _ hk => hk.2) (.int .i64 t387)) (fun _ hk => hk.2) (.slice Ao30 t388.length co30)) (fun _ h_ => h_.1))) hb); replace BK373 := Aside0.mk (blk_below (g := gb373) (o := .cells #[.int .i64 t368, .slice Ao12 t369.length co12] 26 (0, 0)) (by (with_reducible repeat (first | refine blk_drewN ?_ _ | refine blk_drew ?_ | refine blk_alloc ?_ _)); refine blk_far ?_ NB373_392.out _; (with_reducible repeat (first | refine blk_drewN ?_ _ | refine blk_drew ?_ | refine blk_alloc ?_ _)); refine blk_far ?_ NB373_392.out _; (with_reducible repeat (first | refine blk_drewN ?_ _ | refine blk_drew ?_ | refine blk_alloc ?_ _)); exact BK373.out) hb); replace BK374 := Aside0.mk (blk_below (g := gb374) (o := .cells #[.int .i64 0, .slice none 0 0] 26 (0, 0)) (by (with_reducible repeat (first | refine blk_drewN ?_ _ | refine blk_drew ?_ | refine blk_alloc ?_ _)); refine blk_far ?_ NB374_392.out _; (with_reducible repeat (first | refine blk_drewN ?_ _ | refine blk_drew ?_ | refine blk_alloc ?_ _)); refine blk_far ?_ NB374_392.out _; (with_reducible repeat (first | refine blk_drewN ?_ _ | refine blk_drew ?_ | refine blk_alloc ?_ _)); exact BK374.out) hb); replace BK383 := Aside0.mk (blk_below (g := gb383) (o := .cells #[.int .i64 t378, .slice Ao21 t379.length co21] 26 (0, 0)) (by (with_reducible repeat (first | refine blk_drewN ?_ _ | refine blk_drew ?_ | refine blk_alloc ?_ _)); refine blk_far ?_ NB383_392.out _; (with_reducible repeat (first | refine blk_drewN ?_ _ | refine blk_drew ?_ | refine blk_alloc ?_ _)); refine blk_far ?_ NB383_392.out _; (with_reducible repeat (first | refine blk_drewN ?_ _ | refine blk_drew ?_ | refine blk_alloc ?_ _)); exact BK383.out) hb); replace BK392 := Aside0.mk (blk_below (g := gb392) (o := .cells #[.int .i64 t387, .slice Ao30 t388.length co30] 26 (0, 0)) (by (with_reducible repeat (first | refine blk_drewN ?_ _ | refine blk_drew ?_ | refine blk_alloc ?_ _)); refine blk_put (cs := #[.int .i64 t387, .slice none 0 0]) ?_ 1 _ rfl; (with_reducible repeat (first | refine blk_drewN ?_ _ | refine blk_drew ?_ | refine blk_alloc ?_ _)); refine blk_put (cs := #[.int .i64 0, .slice none 0 0]) ?_ 0 _ rfl; (with_reducible repeat (first | refine blk_drewN ?_ _ | refine blk_drew ?_ | refine blk_alloc ?_ _)); exact BK392.out) hb); replace HB := Aside0.mk (below_step (by repeat (first | (with_reducible first | exact HB.out | apply below_alloc | apply pw_below_drewN | apply below_drew1 | refine below_set ?_ GE373.out | refine below_set ?_ GE374.out | refine below_set ?_ GE383.out | refine below_set ?_ GE392.out) | exact HB.out)) hb); (try clear hb); (try clear hk); have hcz46_0 : w45.cell? ⟨gb374, 0, none⟩ = some (.int .i64 0) := (blk_cell BK374.out 0).trans rfl; have hcz46_1 : w45.cell? ⟨gb374, 1, none⟩ = some (.slice none 0 0) := (blk_cell BK374.out 1).trans rfl; have hfz46_0 := blk_frozen BK374.out 0; have hfz46_1 := blk_frozen BK374.out 1) | (go_at_call 15; (refine (alloc_Map_Free.calls k 0 _ _ ([] : List (S53)) t394 _ ?side1 ?side2 A33.out).mono ?_); (case side1 => exact Kd.C_nil _ _); (case side2 => exact Nat.le_refl _); rintro e w47 ⟨rfl, hb⟩; replace HO371 := Aside0.mk (Kd.R_below (rU HO371.out) hb); replace HO377 := Aside0.mk (Kd.R_below (rU HO377.out) hb); replace HO381 := Aside0.mk (Kd.V_below (by (with_reducible repeat (first | apply Kd.V_alloc | apply Kd.V_drewN | apply Kd.V_drew)); exact HO381.out) hb); replace HO386 := Aside0.mk (Kd.R_below (rU HO386.out) hb); replace HO390 := Aside0.mk (Kd.V_below (by (with_reducible repeat (first | apply Kd.V_alloc | apply Kd.V_drewN | apply Kd.V_drew)); exact HO390.out) hb); replace BK373 := Aside0.mk (blk_below (g := gb373) (o := .cells #[.int .i64 t368, .slice Ao12 t369.length co12] 26 (0, 0)) (kU BK373.out) hb); replace BK374 := Aside0.mk (blk_below (g := gb374) (o := .cells #[.int .i64 0, .slice none 0 0] 26 (0, 0)) (kU BK374.out) hb); replace BK383 := Aside0.mk (blk_below (g := gb383) (o := .cells #[.int .i64 t378, .slice Ao21 t379.length co21] 26 (0, 0)) (kU BK383.out) hb); replace BK392 := Aside0.mk (blk_below (g := gb392) (o := .cells #[.int .i64 t387, .slice Ao30 t388.length co30] 26 (0, 0)) (kU BK392.out) hb); replace HB := Aside0.mk (below_step (by repeat (first | (with_reducible first | exact HB.out | apply below_alloc | apply pw_below_drewN | apply below_drew1 | refine below_set ?_ GE373.out | refine below_set ?_ GE374.out | refine below_set ?_ GE383.out | refine below_set ?_ GE392.out) | exact HB.out)) hb); (try clear hb); (try clear hk); have hcz48_0 : w47.cell? ⟨gb374, 0, none⟩ = some (.int .i64 0) := (blk_cell BK374.out 0).trans rfl; have hcz48_1 : w47.cell? ⟨gb374, 1, none⟩ = some (.slice none 0 0) := (blk_cell BK374.out 1).trans rfl; have hfz48_0 := blk_frozen BK374.out 0; have hfz48_1 := blk_frozen BK374.out 1) | (go_at_call 16; (refine (alloc_Map_Largest.calls k 0 _ _ ([] : List (S53)) t395 _ ?side1 ?side2 A35.out).mono ?_); (case side1 => exact Kd.C_nil _ _); (case side2 => exact Nat.le_refl _); rintro e w49 ⟨rfl, hb⟩; replace HO371 := Aside0.mk (Kd.R_below (rU HO371.out) hb); replace HO377 := Aside0.mk (Kd.R_below (rU HO377.out) hb); replace HO381 := Aside0.mk (Kd.V_below (by (with_reducible repeat (first | apply Kd.V_alloc | apply Kd.V_drewN | apply Kd.V_drew)); exact HO381.out) hb); replace HO386 := Aside0.mk (Kd.R_below (rU HO386.out) hb); replace HO390 := Aside0.mk (Kd.V_below (by (with_reducible repeat (first | apply Kd.V_alloc | apply Kd.V_drewN | apply Kd.V_drew)); exact HO390.out) hb); replace BK373 := Aside0.mk (blk_below (g := gb373) (o := .cells #[.int .i64 t368, .slice Ao12 t369.length co12] 26 (0, 0)) (kU BK373.out) hb); replace BK374 := Aside0.mk (blk_below (g := gb374) (o := .cells #[.int .i64 0, .slice none 0 0] 26 (0, 0)) (kU BK374.out) hb); replace BK383 := Aside0.mk (blk_below (g := gb383) (o := .cells #[.int .i64 t378, .slice Ao21 t379.length co21] 26 (0, 0)) (kU BK383.out) hb); replace BK392 := Aside0.mk (blk_below (g := gb392) (o := .cells #[.int .i64 t387, .slice Ao30 t388.length co30] 26 (0, 0)) (kU BK392.out) hb); replace HB := Aside0.mk (below_step (by repeat (first | (with_reducible first | exact HB.out | apply below_alloc | apply pw_below_drewN | apply below_drew1 | refine below_set ?_ GE373.out | refine below_set ?_ GE374.out | refine below_set ?_ GE383.out | refine below_set ?_ GE392.out) | exact HB.out)) hb); (try clear hb); (try clear hk); have hcz50_0 : w49.cell? ⟨gb374, 0, none⟩ = some (.int .i64 0) := (blk_cell BK374.out 0).trans rfl; have hcz50_1 : w49.cell? ⟨gb374, 1, none⟩ = some (.slice none 0 0) := (blk_cell BK374.out 1).trans rfl; have hfz50_0 := blk_frozen BK374.out 0; have hfz50_1 := blk_frozen BK374.out 1) | (go_at_call 18; (refine (alloc_Map_Runs.calls 0 _ _ ([] : List (S53)) t396 _ ?side1 ?side2 A37.out).mono ?_); (case side1 => exact Kd.C_nil _ _); (case side2 => exact Nat.le_refl _); rintro e w51 ⟨v397, rfl, ho0, hb⟩; replace HO381 := Aside0.mk (Kd.V_elder' (by (with_reducible repeat (first | apply Kd.V_alloc | apply Kd.V_drewN | apply Kd.V_drew)); exact HO381.out) (Kd.R_base ho0) hb); replace HO390 := Aside0.mk (Kd.V_elder' (by (with_reducible repeat (first | apply Kd.V_alloc | apply Kd.V_drewN | apply Kd.V_drew)); exact HO390.out) (Kd.R_base ho0) hb); have HO398 := Aside0.mk (Kd.R_lower (Kd.R_new' (Kd.R_new' (Kd.R_new' ho0 (Kd.R_lt (rU HO371.out))) (Kd.R_lt (rU HO377.out))) (Kd.R_lt (rU HO386.out))) (below_size (by repeat (first | (with_reducible first | exact HB.out | apply below_alloc | apply pw_below_drewN | apply below_drew1 | refine below_set ?_ GE373.out | refine below_set ?_ GE374.out | refine below_set ?_ GE383.out | refine below_set ?_ GE392.out) | exact HB.out)))); replace HO371 := Aside0.mk (Kd.R_elder' (rU HO371.out) (Kd.R_base ho0) hb); replace HO377 := Aside0.mk (Kd.R_elder' (rU HO377.out) (Kd.R_base ho0) hb); replace HO386 := Aside0.mk (Kd.R_elder' (rU HO386.out) (Kd.R_base ho0) hb); replace BK373 := Aside0.mk (blk_below (g := gb373) (o := .cells #[.int .i64 t368, .slice Ao12 t369.length co12] 26 (0, 0)) (kU BK373.out) hb); replace BK374 := Aside0.mk (blk_below (g := gb374) (o := .cells #[.int .i64 0, .slice none 0 0] 26 (0, 0)) (kU BK374.out) hb); replace BK383 := Aside0.mk (blk_below (g := gb383) (o := .cells #[.int .i64 t378, .slice Ao21 t379.length co21] 26 (0, 0)) (kU BK383.out) hb); replace BK392 := Aside0.mk (blk_below (g := gb392) (o := .cells #[.int .i64 t387, .slice Ao30 t388.length co30] 26 (0, 0)) (kU BK392.out) hb); replace HB := Aside0.mk (below_step (by repeat (first | (with_reducible first | exact HB.out | apply below_alloc | apply pw_below_drewN | apply below_drew1 | refine below_set ?_ GE373.out | refine below_set ?_ GE374.out | refine below_set ?_ GE383.out | refine below_set ?_ GE392.out) | exact HB.out)) hb); (try clear hb); (try clear hk); (try clear ho0); obtain ⟨Ao52, co52, eo52⟩ := Kd.R_slice HO398.out; subst eo52; have hcz53_0 : w51.cell? ⟨gb374, 0, none⟩ = some (.int .i64 0) := (blk_cell BK374.out 0).trans rfl; have hcz53_1 : w51.cell? ⟨gb374, 1, none⟩ = some (.slice none 0 0) := (blk_cell BK374.out 1).trans rfl; have hfz53_0 := blk_frozen BK374.out 0; have hfz53_1 := blk_frozen BK374.out 1) | (go_at_call 19; (refine (alloc_Map_Is.calls 0 _ _ ([] : List (S53)) 0 true _ ?side1 ?side2 A39.out).mono ?_); (case side1 => exact Kd.C_nil _ _); (case side2 => exact Nat.le_refl _); rintro e w54 ⟨rfl, hb⟩; replace HO371 := Aside0.mk (Kd.R_below (rU HO371.out) hb); replace HO377 := Aside0.mk (Kd.R_below (rU HO377.out) hb); replace HO381 := Aside0.mk (Kd.V_below (by (with_reducible repeat (first | apply Kd.V_alloc | apply Kd.V_drewN | apply Kd.V_drew)); exact HO381.out) hb); replace HO386 := Aside0.mk (Kd.R_below (rU HO386.out) hb); replace HO390 := Aside0.mk (Kd.V_below (by (with_reducible repeat (first | apply Kd.V_alloc | apply Kd.V_drewN | apply Kd.V_drew)); exact HO390.out) hb); replace HO398 := Aside0.mk (Kd.R_below (rU HO398.out) hb); replace BK373 := Aside0.mk (blk_below (g := gb373) (o := .cells #[.int .i64 t368, .slice Ao12 t369.length co12] 26 (0, 0)) (kU BK373.out) hb); replace BK374 := Aside0.mk (blk_below (g := gb374) (o := .cells #[.int .i64 0, .slice none 0 0] 26 (0, 0)) (kU BK374.out) hb); replace BK383 := Aside0.mk (blk_below (g := gb383) (o := .cells #[.int .i64 t378, .slice Ao21 t379.length co21] 26 (0, 0)) (kU BK383.out) hb); replace BK392 := Aside0.mk (blk_below (g := gb392) (o := .cells #[.int .i64 t387, .slice Ao30 t388.length co30] 26 (0, 0)) (kU BK392.out) hb); replace HB := Aside0.mk (below_step (by repeat (first | (with_reducible first | exact HB.out | apply below_alloc | apply pw_below_drewN | apply below_drew1 | refine below_set ?_ GE373.out | refine below_set ?_ GE374.out | refine below_set ?_ GE383.out | refine below_set ?_ GE392.out) | exact HB.out)) hb); (try clear hb); (try clear hk)))
        go_meet
        case rel => exact ⟨_, (true), (by first | rfl | (simp; done) | (simp [*]; done)), H', ⟨by first | omega | exact Nat.le_refl _⟩, ⟨by (with_reducible repeat (first | apply Kd.R_alloc | apply Kd.R_drewN | apply Kd.R_drew)); exact Kd.R_mono HO371.out (fun _ hk => trivial)⟩, ⟨by (with_reducible repeat (first | apply Kd.V_alloc | apply Kd.V_drewN | apply Kd.V_drew)); exact Kd.V_mono HO381.out (fun _ hk => ⟨hk.1.1.1.1, ⟨hk.1.1.1.2.2.1, ⟨hk.1.1.1.2.2.2.1, ⟨hk.1.1.1.2.2.2.2, hk.1.2⟩⟩⟩⟩)⟩, ⟨by (with_reducible repeat (first | apply Kd.V_alloc | apply Kd.V_drewN | apply Kd.V_drew)); exact Kd.V_mono HO390.out (fun _ hk => ⟨hk.1.1.2.1, ⟨hk.1.1.2.2.2.1, ⟨hk.1.1.2.2.2.2.1, ⟨hk.1.1.2.2.2.2.2, hk.1.2⟩⟩⟩⟩)⟩, ⟨by (with_reducible repeat (first | refine blk_drewN ?_ _ | refine blk_drew ?_ | refine blk_alloc ?_ _)); exact BK373.out⟩, ⟨by (with_reducible repeat (first | refine blk_drewN ?_ _ | refine blk_drew ?_ | refine blk_alloc ?_ _)); exact BK374.out⟩, ⟨by (with_reducible repeat (first | refine blk_drewN ?_ _ | refine blk_drew ?_ | refine blk_alloc ?_ _)); exact BK383.out⟩, ⟨by (with_reducible repeat (first | refine blk_drewN ?_ _ | refine blk_drew ?_ | refine blk_alloc ?_ _)); exact BK392.out⟩, ⟨by repeat (first | (with_reducible first | exact HB.out | apply below_alloc | apply pw_below_drewN | apply below_drew1 | refine below_set ?_ GE373.out | refine below_set ?_ GE374.out | refine below_set ?_ GE383.out | refine below_set ?_ GE392.out) | exact HB.out)⟩⟩
       ·
        replace c40 := Bool.eq_false_iff.mpr c40
        subst c40
        have H1 : (if t382 = 11 then (tegulalaw35_AllocNew.j0 k a0 t372 (t391 != 0) t368 t369) else (tegulalaw35_AllocNew.j0 k a0 t372 true t368 t369)) = some r := by rw [if_neg (show ¬ (false = true) by decide)] at H; exact H
        clear H
        have H := H1
        clear H1
        by_cases c55 : t382 = 11
        ·
         rw [if_pos c55] at H
         have c55b0 : (t382 == 11) = true := beq_iff_eq.mpr c55
         have c55b1 : (t382 != 11) = false := bne_eq_false_iff_eq.mpr c55
         clear c55
         have H' := Aside0.mk H
         clear H
         have hnb56 := NB374_373.out
         have hnc56 := NB373_374.out
         have hnb57 := NB374_383.out
         have hnc57 := NB383_374.out
         have hnb58 := NB374_392.out
         have hnc58 := NB392_374.out
         have hcz59_0 : w25.cell? ⟨gb374, 0, none⟩ = some (.int .i64 0) := (blk_cell BK374.out 0).trans rfl
         have hcz59_1 : w25.cell? ⟨gb374, 1, none⟩ = some (.slice none 0 0) := (blk_cell BK374.out 1).trans rfl
         have hfz59_0 := blk_frozen BK374.out 0
         have hfz59_1 := blk_frozen BK374.out 1
         go_wp2_with (first | ((with_reducible refine gate_callee (f := 17) rfl ?_); refine goesL_ (some 32) rfl rfl Try.func17 (by kernel_rfl) rfl #[.agg #[.int .i64 0, .slice none 0 0]] rfl (by (try simp only [List.map_toArray, List.map_cons, List.map_nil]); first | done | rfl | (simp only [List.length_drop, List.length_take]; rfl)) ?_; (refine (alloc_Map_Slots.calls 0 _ _ ([] : List (S53)) t393 _ ?side1 ?side2 A31.out).mono ?_); (case side1 => exact Kd.C_nil _ _); (case side2 => exact Nat.le_refl _); rintro e w60 ⟨rfl, hb⟩; refine ⟨_, rfl, ?_⟩; replace HO371 := Aside0.mk (Kd.R_below (rU (Kd.R_mono (Kd.R_far (p := ⟨gb392, 1, none⟩) (Kd.R_far (p := ⟨gb392, 0, none⟩) (Kd.R_types HO371.out BK392.out (by decide)) (fun _ hk => hk.2) (.int .i64 t387)) (fun _ hk => hk.2) (.slice Ao30 t388.length co30)) (fun _ h_ => h_.1))) hb); replace HO377 := Aside0.mk (Kd.R_below (rU (Kd.R_mono (Kd.R_far (p := ⟨gb392, 1, none⟩) (Kd.R_far (p := ⟨gb392, 0, none⟩) (Kd.R_types HO377.out BK392.out (by decide)) (fun _ hk => hk.2) (.int .i64 t387)) (fun _ hk => hk.2) (.slice Ao30 t388.length co30)) (fun _ h_ => h_.1))) hb); replace HO381 := Aside0.mk (Kd.V_below (by (with_reducible repeat (first | apply Kd.V_alloc | apply Kd.V_drewN | apply Kd.V_drew)); exact (Kd.V_mono (Kd.V_far (p := ⟨gb392, 1, none⟩) (Kd.V_far (p := ⟨gb392, 0, none⟩) (Kd.V_mono HO381.out (fun k_ hk => (⟨hk, hk.2⟩ : _ ∧ k_ ≠ gb392))) (fun _ hk => hk.2) (.int .i64 t387)) (fun _ hk => hk.2) (.slice Ao30 t388.length co30)) (fun _ h_ => h_.1))) hb); replace HO386 := Aside0.mk (Kd.R_below (rU (Kd.R_mono (Kd.R_far (p := ⟨gb392, 1, none⟩) (Kd.R_far (p := ⟨gb392, 0, none⟩) (Kd.R_types HO386.out BK392.out (by decide)) (fun _ hk => hk.2) (.int .i64 t387)) (fun _ hk => hk.2) (.slice Ao30 t388.length co30)) (fun _ h_ => h_.1))) hb); replace HO390 := Aside0.mk (Kd.V_below (by (with_reducible repeat (first | apply Kd.V_alloc | apply Kd.V_drewN | apply Kd.V_drew)); exact (Kd.V_mono (Kd.V_far (p := ⟨gb392, 1, none⟩) (Kd.V_far (p := ⟨gb392, 0, none⟩) (Kd.V_mono HO390.out (fun k_ hk => (⟨hk, hk.2⟩ : _ ∧ k_ ≠ gb392))) (fun _ hk => hk.2) (.int .i64 t387)) (fun _ hk => hk.2) (.slice Ao30 t388.length co30)) (fun _ h_ => h_.1))) hb); replace BK373 := Aside0.mk (blk_below (g := gb373) (o := .cells #[.int .i64 t368, .slice Ao12 t369.length co12] 26 (0, 0)) (by (with_reducible repeat (first | refine blk_drewN ?_ _ | refine blk_drew ?_ | refine blk_alloc ?_ _)); refine blk_far ?_ NB373_392.out _; (with_reducible repeat (first | refine blk_drewN ?_ _ | refine blk_drew ?_ | refine blk_alloc ?_ _)); refine blk_far ?_ NB373_392.out _; (with_reducible repeat (first | refine blk_drewN ?_ _ | refine blk_drew ?_ | refine blk_alloc ?_ _)); exact BK373.out) hb); replace BK374 := Aside0.mk (blk_below (g := gb374) (o := .cells #[.int .i64 0, .slice none 0 0] 26 (0, 0)) (by (with_reducible repeat (first | refine blk_drewN ?_ _ | refine blk_drew ?_ | refine blk_alloc ?_ _)); refine blk_far ?_ NB374_392.out _; (with_reducible repeat (first | refine blk_drewN ?_ _ | refine blk_drew ?_ | refine blk_alloc ?_ _)); refine blk_far ?_ NB374_392.out _; (with_reducible repeat (first | refine blk_drewN ?_ _ | refine blk_drew ?_ | refine blk_alloc ?_ _)); exact BK374.out) hb); replace BK383 := Aside0.mk (blk_below (g := gb383) (o := .cells #[.int .i64 t378, .slice Ao21 t379.length co21] 26 (0, 0)) (by (with_reducible repeat (first | refine blk_drewN ?_ _ | refine blk_drew ?_ | refine blk_alloc ?_ _)); refine blk_far ?_ NB383_392.out _; (with_reducible repeat (first | refine blk_drewN ?_ _ | refine blk_drew ?_ | refine blk_alloc ?_ _)); refine blk_far ?_ NB383_392.out _; (with_reducible repeat (first | refine blk_drewN ?_ _ | refine blk_drew ?_ | refine blk_alloc ?_ _)); exact BK383.out) hb); replace BK392 := Aside0.mk (blk_below (g := gb392) (o := .cells #[.int .i64 t387, .slice Ao30 t388.length co30] 26 (0, 0)) (by (with_reducible repeat (first | refine blk_drewN ?_ _ | refine blk_drew ?_ | refine blk_alloc ?_ _)); refine blk_put (cs := #[.int .i64 t387, .slice none 0 0]) ?_ 1 _ rfl; (with_reducible repeat (first | refine blk_drewN ?_ _ | refine blk_drew ?_ | refine blk_alloc ?_ _)); refine blk_put (cs := #[.int .i64 0, .slice none 0 0]) ?_ 0 _ rfl; (with_reducible repeat (first | refine blk_drewN ?_ _ | refine blk_drew ?_ | refine blk_alloc ?_ _)); exact BK392.out) hb); replace HB := Aside0.mk (below_step (by repeat (first | (with_reducible first | exact HB.out | apply below_alloc | apply pw_below_drewN | apply below_drew1 | refine below_set ?_ GE373.out | refine below_set ?_ GE374.out | refine below_set ?_ GE383.out | refine below_set ?_ GE392.out) | exact HB.out)) hb); (try clear hb); (try clear hk); have hcz61_0 : w60.cell? ⟨gb374, 0, none⟩ = some (.int .i64 0) := (blk_cell BK374.out 0).trans rfl; have hcz61_1 : w60.cell? ⟨gb374, 1, none⟩ = some (.slice none 0 0) := (blk_cell BK374.out 1).trans rfl; have hfz61_0 := blk_frozen BK374.out 0; have hfz61_1 := blk_frozen BK374.out 1) | (go_at_call 15; (refine (alloc_Map_Free.calls k 0 _ _ ([] : List (S53)) t394 _ ?side1 ?side2 A33.out).mono ?_); (case side1 => exact Kd.C_nil _ _); (case side2 => exact Nat.le_refl _); rintro e w62 ⟨rfl, hb⟩; replace HO371 := Aside0.mk (Kd.R_below (rU HO371.out) hb); replace HO377 := Aside0.mk (Kd.R_below (rU HO377.out) hb); replace HO381 := Aside0.mk (Kd.V_below (by (with_reducible repeat (first | apply Kd.V_alloc | apply Kd.V_drewN | apply Kd.V_drew)); exact HO381.out) hb); replace HO386 := Aside0.mk (Kd.R_below (rU HO386.out) hb); replace HO390 := Aside0.mk (Kd.V_below (by (with_reducible repeat (first | apply Kd.V_alloc | apply Kd.V_drewN | apply Kd.V_drew)); exact HO390.out) hb); replace BK373 := Aside0.mk (blk_below (g := gb373) (o := .cells #[.int .i64 t368, .slice Ao12 t369.length co12] 26 (0, 0)) (kU BK373.out) hb); replace BK374 := Aside0.mk (blk_below (g := gb374) (o := .cells #[.int .i64 0, .slice none 0 0] 26 (0, 0)) (kU BK374.out) hb); replace BK383 := Aside0.mk (blk_below (g := gb383) (o := .cells #[.int .i64 t378, .slice Ao21 t379.length co21] 26 (0, 0)) (kU BK383.out) hb); replace BK392 := Aside0.mk (blk_below (g := gb392) (o := .cells #[.int .i64 t387, .slice Ao30 t388.length co30] 26 (0, 0)) (kU BK392.out) hb); replace HB := Aside0.mk (below_step (by repeat (first | (with_reducible first | exact HB.out | apply below_alloc | apply pw_below_drewN | apply below_drew1 | refine below_set ?_ GE373.out | refine below_set ?_ GE374.out | refine below_set ?_ GE383.out | refine below_set ?_ GE392.out) | exact HB.out)) hb); (try clear hb); (try clear hk); have hcz63_0 : w62.cell? ⟨gb374, 0, none⟩ = some (.int .i64 0) := (blk_cell BK374.out 0).trans rfl; have hcz63_1 : w62.cell? ⟨gb374, 1, none⟩ = some (.slice none 0 0) := (blk_cell BK374.out 1).trans rfl; have hfz63_0 := blk_frozen BK374.out 0; have hfz63_1 := blk_frozen BK374.out 1) | (go_at_call 16; (refine (alloc_Map_Largest.calls k 0 _ _ ([] : List (S53)) t395 _ ?side1 ?side2 A35.out).mono ?_); (case side1 => exact Kd.C_nil _ _); (case side2 => exact Nat.le_refl _); rintro e w64 ⟨rfl, hb⟩; replace HO371 := Aside0.mk (Kd.R_below (rU HO371.out) hb); replace HO377 := Aside0.mk (Kd.R_below (rU HO377.out) hb); replace HO381 := Aside0.mk (Kd.V_below (by (with_reducible repeat (first | apply Kd.V_alloc | apply Kd.V_drewN | apply Kd.V_drew)); exact HO381.out) hb); replace HO386 := Aside0.mk (Kd.R_below (rU HO386.out) hb); replace HO390 := Aside0.mk (Kd.V_below (by (with_reducible repeat (first | apply Kd.V_alloc | apply Kd.V_drewN | apply Kd.V_drew)); exact HO390.out) hb); replace BK373 := Aside0.mk (blk_below (g := gb373) (o := .cells #[.int .i64 t368, .slice Ao12 t369.length co12] 26 (0, 0)) (kU BK373.out) hb); replace BK374 := Aside0.mk (blk_below (g := gb374) (o := .cells #[.int .i64 0, .slice none 0 0] 26 (0, 0)) (kU BK374.out) hb); replace BK383 := Aside0.mk (blk_below (g := gb383) (o := .cells #[.int .i64 t378, .slice Ao21 t379.length co21] 26 (0, 0)) (kU BK383.out) hb); replace BK392 := Aside0.mk (blk_below (g := gb392) (o := .cells #[.int .i64 t387, .slice Ao30 t388.length co30] 26 (0, 0)) (kU BK392.out) hb); replace HB := Aside0.mk (below_step (by repeat (first | (with_reducible first | exact HB.out | apply below_alloc | apply pw_below_drewN | apply below_drew1 | refine below_set ?_ GE373.out | refine below_set ?_ GE374.out | refine below_set ?_ GE383.out | refine below_set ?_ GE392.out) | exact HB.out)) hb); (try clear hb); (try clear hk); have hcz65_0 : w64.cell? ⟨gb374, 0, none⟩ = some (.int .i64 0) := (blk_cell BK374.out 0).trans rfl; have hcz65_1 : w64.cell? ⟨gb374, 1, none⟩ = some (.slice none 0 0) := (blk_cell BK374.out 1).trans rfl; have hfz65_0 := blk_frozen BK374.out 0; have hfz65_1 := blk_frozen BK374.out 1) | (go_at_call 18; (refine (alloc_Map_Runs.calls 0 _ _ ([] : List (S53)) t396 _ ?side1 ?side2 A37.out).mono ?_); (case side1 => exact Kd.C_nil _ _); (case side2 => exact Nat.le_refl _); rintro e w66 ⟨v397, rfl, ho0, hb⟩; replace HO381 := Aside0.mk (Kd.V_elder' (by (with_reducible repeat (first | apply Kd.V_alloc | apply Kd.V_drewN | apply Kd.V_drew)); exact HO381.out) (Kd.R_base ho0) hb); replace HO390 := Aside0.mk (Kd.V_elder' (by (with_reducible repeat (first | apply Kd.V_alloc | apply Kd.V_drewN | apply Kd.V_drew)); exact HO390.out) (Kd.R_base ho0) hb); have HO398 := Aside0.mk (Kd.R_lower (Kd.R_new' (Kd.R_new' (Kd.R_new' ho0 (Kd.R_lt (rU HO371.out))) (Kd.R_lt (rU HO377.out))) (Kd.R_lt (rU HO386.out))) (below_size (by repeat (first | (with_reducible first | exact HB.out | apply below_alloc | apply pw_below_drewN | apply below_drew1 | refine below_set ?_ GE373.out | refine below_set ?_ GE374.out | refine below_set ?_ GE383.out | refine below_set ?_ GE392.out) | exact HB.out)))); replace HO371 := Aside0.mk (Kd.R_elder' (rU HO371.out) (Kd.R_base ho0) hb); replace HO377 := Aside0.mk (Kd.R_elder' (rU HO377.out) (Kd.R_base ho0) hb); replace HO386 := Aside0.mk (Kd.R_elder' (rU HO386.out) (Kd.R_base ho0) hb); replace BK373 := Aside0.mk (blk_below (g := gb373) (o := .cells #[.int .i64 t368, .slice Ao12 t369.length co12] 26 (0, 0)) (kU BK373.out) hb); replace BK374 := Aside0.mk (blk_below (g := gb374) (o := .cells #[.int .i64 0, .slice none 0 0] 26 (0, 0)) (kU BK374.out) hb); replace BK383 := Aside0.mk (blk_below (g := gb383) (o := .cells #[.int .i64 t378, .slice Ao21 t379.length co21] 26 (0, 0)) (kU BK383.out) hb); replace BK392 := Aside0.mk (blk_below (g := gb392) (o := .cells #[.int .i64 t387, .slice Ao30 t388.length co30] 26 (0, 0)) (kU BK392.out) hb); replace HB := Aside0.mk (below_step (by repeat (first | (with_reducible first | exact HB.out | apply below_alloc | apply pw_below_drewN | apply below_drew1 | refine below_set ?_ GE373.out | refine below_set ?_ GE374.out | refine below_set ?_ GE383.out | refine below_set ?_ GE392.out) | exact HB.out)) hb); (try clear hb); (try clear hk); (try clear ho0); obtain ⟨Ao67, co67, eo67⟩ := Kd.R_slice HO398.out; subst eo67; have hcz68_0 : w66.cell? ⟨gb374, 0, none⟩ = some (.int .i64 0) := (blk_cell BK374.out 0).trans rfl; have hcz68_1 : w66.cell? ⟨gb374, 1, none⟩ = some (.slice none 0 0) := (blk_cell BK374.out 1).trans rfl; have hfz68_0 := blk_frozen BK374.out 0; have hfz68_1 := blk_frozen BK374.out 1) | (go_at_call 19; (refine (alloc_Map_Is.calls 0 _ _ ([] : List (S53)) 0 false _ ?side1 ?side2 A39.out).mono ?_); (case side1 => exact Kd.C_nil _ _); (case side2 => exact Nat.le_refl _); rintro e w69 ⟨rfl, hb⟩; replace HO371 := Aside0.mk (Kd.R_below (rU HO371.out) hb); replace HO377 := Aside0.mk (Kd.R_below (rU HO377.out) hb); replace HO381 := Aside0.mk (Kd.V_below (by (with_reducible repeat (first | apply Kd.V_alloc | apply Kd.V_drewN | apply Kd.V_drew)); exact HO381.out) hb); replace HO386 := Aside0.mk (Kd.R_below (rU HO386.out) hb); replace HO390 := Aside0.mk (Kd.V_below (by (with_reducible repeat (first | apply Kd.V_alloc | apply Kd.V_drewN | apply Kd.V_drew)); exact HO390.out) hb); replace HO398 := Aside0.mk (Kd.R_below (rU HO398.out) hb); replace BK373 := Aside0.mk (blk_below (g := gb373) (o := .cells #[.int .i64 t368, .slice Ao12 t369.length co12] 26 (0, 0)) (kU BK373.out) hb); replace BK374 := Aside0.mk (blk_below (g := gb374) (o := .cells #[.int .i64 0, .slice none 0 0] 26 (0, 0)) (kU BK374.out) hb); replace BK383 := Aside0.mk (blk_below (g := gb383) (o := .cells #[.int .i64 t378, .slice Ao21 t379.length co21] 26 (0, 0)) (kU BK383.out) hb); replace BK392 := Aside0.mk (blk_below (g := gb392) (o := .cells #[.int .i64 t387, .slice Ao30 t388.length co30] 26 (0, 0)) (kU BK392.out) hb); replace HB := Aside0.mk (below_step (by repeat (first | (with_reducible first | exact HB.out | apply below_alloc | apply pw_below_drewN | apply below_drew1 | refine below_set ?_ GE373.out | refine below_set ?_ GE374.out | refine below_set ?_ GE383.out | refine below_set ?_ GE392.out) | exact HB.out)) hb); (try clear hb); (try clear hk)))
         go_meet
         case rel => exact ⟨_, ((t391 != 0)), (by first | rfl | (simp; done) | (simp [*]; done)), H', ⟨by first | omega | exact Nat.le_refl _⟩, ⟨by (with_reducible repeat (first | apply Kd.R_alloc | apply Kd.R_drewN | apply Kd.R_drew)); exact Kd.R_mono HO371.out (fun _ hk => trivial)⟩, ⟨by (with_reducible repeat (first | apply Kd.V_alloc | apply Kd.V_drewN | apply Kd.V_drew)); exact Kd.V_mono HO381.out (fun _ hk => ⟨hk.1.1.1.1, ⟨hk.1.1.1.2.2.1, ⟨hk.1.1.1.2.2.2.1, ⟨hk.1.1.1.2.2.2.2, hk.1.2⟩⟩⟩⟩)⟩, ⟨by (with_reducible repeat (first | apply Kd.V_alloc | apply Kd.V_drewN | apply Kd.V_drew)); exact Kd.V_mono HO390.out (fun _ hk => ⟨hk.1.1.2.1, ⟨hk.1.1.2.2.2.1, ⟨hk.1.1.2.2.2.2.1, ⟨hk.1.1.2.2.2.2.2, hk.1.2⟩⟩⟩⟩)⟩, ⟨by (with_reducible repeat (first | refine blk_drewN ?_ _ | refine blk_drew ?_ | refine blk_alloc ?_ _)); exact BK373.out⟩, ⟨by (with_reducible repeat (first | refine blk_drewN ?_ _ | refine blk_drew ?_ | refine blk_alloc ?_ _)); exact BK374.out⟩, ⟨by (with_reducible repeat (first | refine blk_drewN ?_ _ | refine blk_drew ?_ | refine blk_alloc ?_ _)); exact BK383.out⟩, ⟨by (with_reducible repeat (first | refine blk_drewN ?_ _ | refine blk_drew ?_ | refine blk_alloc ?_ _)); exact BK392.out⟩, ⟨by repeat (first | (with_reducible first | exact HB.out | apply below_alloc | apply pw_below_drewN | apply below_drew1 | refine below_set ?_ GE373.out | refine below_set ?_ GE374.out | refine below_set ?_ GE383.out | refine below_set ?_ GE392.out) | exact HB.out)⟩⟩
        ·
         rw [if_neg c55] at H
         have c55b0 : (t382 == 11) = false := beq_eq_false_iff_ne.mpr c55
         have c55b1 : (t382 != 11) = true := bne_iff_ne.mpr c55
         have H' := Aside0.mk H
         clear H
         have hnb70 := NB374_373.out
         have hnc70 := NB373_374.out
         have hnb71 := NB374_383.out
         have hnc71 := NB383_374.out
         have hnb72 := NB374_392.out
         have hnc72 := NB392_374.out
         have hcz73_0 : w25.cell? ⟨gb374, 0, none⟩ = some (.int .i64 0) := (blk_cell BK374.out 0).trans rfl
         have hcz73_1 : w25.cell? ⟨gb374, 1, none⟩ = some (.slice none 0 0) := (blk_cell BK374.out 1).trans rfl
         have hfz73_0 := blk_frozen BK374.out 0
         have hfz73_1 := blk_frozen BK374.out 1
         go_wp2_with (first | ((with_reducible refine gate_callee (f := 17) rfl ?_); refine goesL_ (some 32) rfl rfl Try.func17 (by kernel_rfl) rfl #[.agg #[.int .i64 0, .slice none 0 0]] rfl (by (try simp only [List.map_toArray, List.map_cons, List.map_nil]); first | done | rfl | (simp only [List.length_drop, List.length_take]; rfl)) ?_; (refine (alloc_Map_Slots.calls 0 _ _ ([] : List (S53)) t393 _ ?side1 ?side2 A31.out).mono ?_); (case side1 => exact Kd.C_nil _ _); (case side2 => exact Nat.le_refl _); rintro e w74 ⟨rfl, hb⟩; refine ⟨_, rfl, ?_⟩; replace HO371 := Aside0.mk (Kd.R_below (rU (Kd.R_mono (Kd.R_far (p := ⟨gb392, 1, none⟩) (Kd.R_far (p := ⟨gb392, 0, none⟩) (Kd.R_types HO371.out BK392.out (by decide)) (fun _ hk => hk.2) (.int .i64 t387)) (fun _ hk => hk.2) (.slice Ao30 t388.length co30)) (fun _ h_ => h_.1))) hb); replace HO377 := Aside0.mk (Kd.R_below (rU (Kd.R_mono (Kd.R_far (p := ⟨gb392, 1, none⟩) (Kd.R_far (p := ⟨gb392, 0, none⟩) (Kd.R_types HO377.out BK392.out (by decide)) (fun _ hk => hk.2) (.int .i64 t387)) (fun _ hk => hk.2) (.slice Ao30 t388.length co30)) (fun _ h_ => h_.1))) hb); replace HO381 := Aside0.mk (Kd.V_below (by (with_reducible repeat (first | apply Kd.V_alloc | apply Kd.V_drewN | apply Kd.V_drew)); exact (Kd.V_mono (Kd.V_far (p := ⟨gb392, 1, none⟩) (Kd.V_far (p := ⟨gb392, 0, none⟩) (Kd.V_mono HO381.out (fun k_ hk => (⟨hk, hk.2⟩ : _ ∧ k_ ≠ gb392))) (fun _ hk => hk.2) (.int .i64 t387)) (fun _ hk => hk.2) (.slice Ao30 t388.length co30)) (fun _ h_ => h_.1))) hb); replace HO386 := Aside0.mk (Kd.R_below (rU (Kd.R_mono (Kd.R_far (p := ⟨gb392, 1, none⟩) (Kd.R_far (p := ⟨gb392, 0, none⟩) (Kd.R_types HO386.out BK392.out (by decide)) (fun _ hk => hk.2) (.int .i64 t387)) (fun _ hk => hk.2) (.slice Ao30 t388.length co30)) (fun _ h_ => h_.1))) hb); replace HO390 := Aside0.mk (Kd.V_below (by (with_reducible repeat (first | apply Kd.V_alloc | apply Kd.V_drewN | apply Kd.V_drew)); exact (Kd.V_mono (Kd.V_far (p := ⟨gb392, 1, none⟩) (Kd.V_far (p := ⟨gb392, 0, none⟩) (Kd.V_mono HO390.out (fun k_ hk => (⟨hk, hk.2⟩ : _ ∧ k_ ≠ gb392))) (fun _ hk => hk.2) (.int .i64 t387)) (fun _ hk => hk.2) (.slice Ao30 t388.length co30)) (fun _ h_ => h_.1))) hb); replace BK373 := Aside0.mk (blk_below (g := gb373) (o := .cells #[.int .i64 t368, .slice Ao12 t369.length co12] 26 (0, 0)) (by (with_reducible repeat (first | refine blk_drewN ?_ _ | refine blk_drew ?_ | refine blk_alloc ?_ _)); refine blk_far ?_ NB373_392.out _; (with_reducible repeat (first | refine blk_drewN ?_ _ | refine blk_drew ?_ | refine blk_alloc ?_ _)); refine blk_far ?_ NB373_392.out _; (with_reducible repeat (first | refine blk_drewN ?_ _ | refine blk_drew ?_ | refine blk_alloc ?_ _)); exact BK373.out) hb); replace BK374 := Aside0.mk (blk_below (g := gb374) (o := .cells #[.int .i64 0, .slice none 0 0] 26 (0, 0)) (by (with_reducible repeat (first | refine blk_drewN ?_ _ | refine blk_drew ?_ | refine blk_alloc ?_ _)); refine blk_far ?_ NB374_392.out _; (with_reducible repeat (first | refine blk_drewN ?_ _ | refine blk_drew ?_ | refine blk_alloc ?_ _)); refine blk_far ?_ NB374_392.out _; (with_reducible repeat (first | refine blk_drewN ?_ _ | refine blk_drew ?_ | refine blk_alloc ?_ _)); exact BK374.out) hb); replace BK383 := Aside0.mk (blk_below (g := gb383) (o := .cells #[.int .i64 t378, .slice Ao21 t379.length co21] 26 (0, 0)) (by (with_reducible repeat (first | refine blk_drewN ?_ _ | refine blk_drew ?_ | refine blk_alloc ?_ _)); refine blk_far ?_ NB383_392.out _; (with_reducible repeat (first | refine blk_drewN ?_ _ | refine blk_drew ?_ | refine blk_alloc ?_ _)); refine blk_far ?_ NB383_392.out _; (with_reducible repeat (first | refine blk_drewN ?_ _ | refine blk_drew ?_ | refine blk_alloc ?_ _)); exact BK383.out) hb); replace BK392 := Aside0.mk (blk_below (g := gb392) (o := .cells #[.int .i64 t387, .slice Ao30 t388.length co30] 26 (0, 0)) (by (with_reducible repeat (first | refine blk_drewN ?_ _ | refine blk_drew ?_ | refine blk_alloc ?_ _)); refine blk_put (cs := #[.int .i64 t387, .slice none 0 0]) ?_ 1 _ rfl; (with_reducible repeat (first | refine blk_drewN ?_ _ | refine blk_drew ?_ | refine blk_alloc ?_ _)); refine blk_put (cs := #[.int .i64 0, .slice none 0 0]) ?_ 0 _ rfl; (with_reducible repeat (first | refine blk_drewN ?_ _ | refine blk_drew ?_ | refine blk_alloc ?_ _)); exact BK392.out) hb); replace HB := Aside0.mk (below_step (by repeat (first | (with_reducible first | exact HB.out | apply below_alloc | apply pw_below_drewN | apply below_drew1 | refine below_set ?_ GE373.out | refine below_set ?_ GE374.out | refine below_set ?_ GE383.out | refine below_set ?_ GE392.out) | exact HB.out)) hb); (try clear hb); (try clear hk); have hcz75_0 : w74.cell? ⟨gb374, 0, none⟩ = some (.int .i64 0) := (blk_cell BK374.out 0).trans rfl; have hcz75_1 : w74.cell? ⟨gb374, 1, none⟩ = some (.slice none 0 0) := (blk_cell BK374.out 1).trans rfl; have hfz75_0 := blk_frozen BK374.out 0; have hfz75_1 := blk_frozen BK374.out 1) | (go_at_call 15; (refine (alloc_Map_Free.calls k 0 _ _ ([] : List (S53)) t394 _ ?side1 ?side2 A33.out).mono ?_); (case side1 => exact Kd.C_nil _ _); (case side2 => exact Nat.le_refl _); rintro e w76 ⟨rfl, hb⟩; replace HO371 := Aside0.mk (Kd.R_below (rU HO371.out) hb); replace HO377 := Aside0.mk (Kd.R_below (rU HO377.out) hb); replace HO381 := Aside0.mk (Kd.V_below (by (with_reducible repeat (first | apply Kd.V_alloc | apply Kd.V_drewN | apply Kd.V_drew)); exact HO381.out) hb); replace HO386 := Aside0.mk (Kd.R_below (rU HO386.out) hb); replace HO390 := Aside0.mk (Kd.V_below (by (with_reducible repeat (first | apply Kd.V_alloc | apply Kd.V_drewN | apply Kd.V_drew)); exact HO390.out) hb); replace BK373 := Aside0.mk (blk_below (g := gb373) (o := .cells #[.int .i64 t368, .slice Ao12 t369.length co12] 26 (0, 0)) (kU BK373.out) hb); replace BK374 := Aside0.mk (blk_below (g := gb374) (o := .cells #[.int .i64 0, .slice none 0 0] 26 (0, 0)) (kU BK374.out) hb); replace BK383 := Aside0.mk (blk_below (g := gb383) (o := .cells #[.int .i64 t378, .slice Ao21 t379.length co21] 26 (0, 0)) (kU BK383.out) hb); replace BK392 := Aside0.mk (blk_below (g := gb392) (o := .cells #[.int .i64 t387, .slice Ao30 t388.length co30] 26 (0, 0)) (kU BK392.out) hb); replace HB := Aside0.mk (below_step (by repeat (first | (with_reducible first | exact HB.out | apply below_alloc | apply pw_below_drewN | apply below_drew1 | refine below_set ?_ GE373.out | refine below_set ?_ GE374.out | refine below_set ?_ GE383.out | refine below_set ?_ GE392.out) | exact HB.out)) hb); (try clear hb); (try clear hk); have hcz77_0 : w76.cell? ⟨gb374, 0, none⟩ = some (.int .i64 0) := (blk_cell BK374.out 0).trans rfl; have hcz77_1 : w76.cell? ⟨gb374, 1, none⟩ = some (.slice none 0 0) := (blk_cell BK374.out 1).trans rfl; have hfz77_0 := blk_frozen BK374.out 0; have hfz77_1 := blk_frozen BK374.out 1) | (go_at_call 16; (refine (alloc_Map_Largest.calls k 0 _ _ ([] : List (S53)) t395 _ ?side1 ?side2 A35.out).mono ?_); (case side1 => exact Kd.C_nil _ _); (case side2 => exact Nat.le_refl _); rintro e w78 ⟨rfl, hb⟩; replace HO371 := Aside0.mk (Kd.R_below (rU HO371.out) hb); replace HO377 := Aside0.mk (Kd.R_below (rU HO377.out) hb); replace HO381 := Aside0.mk (Kd.V_below (by (with_reducible repeat (first | apply Kd.V_alloc | apply Kd.V_drewN | apply Kd.V_drew)); exact HO381.out) hb); replace HO386 := Aside0.mk (Kd.R_below (rU HO386.out) hb); replace HO390 := Aside0.mk (Kd.V_below (by (with_reducible repeat (first | apply Kd.V_alloc | apply Kd.V_drewN | apply Kd.V_drew)); exact HO390.out) hb); replace BK373 := Aside0.mk (blk_below (g := gb373) (o := .cells #[.int .i64 t368, .slice Ao12 t369.length co12] 26 (0, 0)) (kU BK373.out) hb); replace BK374 := Aside0.mk (blk_below (g := gb374) (o := .cells #[.int .i64 0, .slice none 0 0] 26 (0, 0)) (kU BK374.out) hb); replace BK383 := Aside0.mk (blk_below (g := gb383) (o := .cells #[.int .i64 t378, .slice Ao21 t379.length co21] 26 (0, 0)) (kU BK383.out) hb); replace BK392 := Aside0.mk (blk_below (g := gb392) (o := .cells #[.int .i64 t387, .slice Ao30 t388.length co30] 26 (0, 0)) (kU BK392.out) hb); replace HB := Aside0.mk (below_step (by repeat (first | (with_reducible first | exact HB.out | apply below_alloc | apply pw_below_drewN | apply below_drew1 | refine below_set ?_ GE373.out | refine below_set ?_ GE374.out | refine below_set ?_ GE383.out | refine below_set ?_ GE392.out) | exact HB.out)) hb); (try clear hb); (try clear hk); have hcz79_0 : w78.cell? ⟨gb374, 0, none⟩ = some (.int .i64 0) := (blk_cell BK374.out 0).trans rfl; have hcz79_1 : w78.cell? ⟨gb374, 1, none⟩ = some (.slice none 0 0) := (blk_cell BK374.out 1).trans rfl; have hfz79_0 := blk_frozen BK374.out 0; have hfz79_1 := blk_frozen BK374.out 1) | (go_at_call 18; (refine (alloc_Map_Runs.calls 0 _ _ ([] : List (S53)) t396 _ ?side1 ?side2 A37.out).mono ?_); (case side1 => exact Kd.C_nil _ _); (case side2 => exact Nat.le_refl _); rintro e w80 ⟨v397, rfl, ho0, hb⟩; replace HO381 := Aside0.mk (Kd.V_elder' (by (with_reducible repeat (first | apply Kd.V_alloc | apply Kd.V_drewN | apply Kd.V_drew)); exact HO381.out) (Kd.R_base ho0) hb); replace HO390 := Aside0.mk (Kd.V_elder' (by (with_reducible repeat (first | apply Kd.V_alloc | apply Kd.V_drewN | apply Kd.V_drew)); exact HO390.out) (Kd.R_base ho0) hb); have HO398 := Aside0.mk (Kd.R_lower (Kd.R_new' (Kd.R_new' (Kd.R_new' ho0 (Kd.R_lt (rU HO371.out))) (Kd.R_lt (rU HO377.out))) (Kd.R_lt (rU HO386.out))) (below_size (by repeat (first | (with_reducible first | exact HB.out | apply below_alloc | apply pw_below_drewN | apply below_drew1 | refine below_set ?_ GE373.out | refine below_set ?_ GE374.out | refine below_set ?_ GE383.out | refine below_set ?_ GE392.out) | exact HB.out)))); replace HO371 := Aside0.mk (Kd.R_elder' (rU HO371.out) (Kd.R_base ho0) hb); replace HO377 := Aside0.mk (Kd.R_elder' (rU HO377.out) (Kd.R_base ho0) hb); replace HO386 := Aside0.mk (Kd.R_elder' (rU HO386.out) (Kd.R_base ho0) hb); replace BK373 := Aside0.mk (blk_below (g := gb373) (o := .cells #[.int .i64 t368, .slice Ao12 t369.length co12] 26 (0, 0)) (kU BK373.out) hb); replace BK374 := Aside0.mk (blk_below (g := gb374) (o := .cells #[.int .i64 0, .slice none 0 0] 26 (0, 0)) (kU BK374.out) hb); replace BK383 := Aside0.mk (blk_below (g := gb383) (o := .cells #[.int .i64 t378, .slice Ao21 t379.length co21] 26 (0, 0)) (kU BK383.out) hb); replace BK392 := Aside0.mk (blk_below (g := gb392) (o := .cells #[.int .i64 t387, .slice Ao30 t388.length co30] 26 (0, 0)) (kU BK392.out) hb); replace HB := Aside0.mk (below_step (by repeat (first | (with_reducible first | exact HB.out | apply below_alloc | apply pw_below_drewN | apply below_drew1 | refine below_set ?_ GE373.out | refine below_set ?_ GE374.out | refine below_set ?_ GE383.out | refine below_set ?_ GE392.out) | exact HB.out)) hb); (try clear hb); (try clear hk); (try clear ho0); obtain ⟨Ao81, co81, eo81⟩ := Kd.R_slice HO398.out; subst eo81; have hcz82_0 : w80.cell? ⟨gb374, 0, none⟩ = some (.int .i64 0) := (blk_cell BK374.out 0).trans rfl; have hcz82_1 : w80.cell? ⟨gb374, 1, none⟩ = some (.slice none 0 0) := (blk_cell BK374.out 1).trans rfl; have hfz82_0 := blk_frozen BK374.out 0; have hfz82_1 := blk_frozen BK374.out 1) | (go_at_call 19; (refine (alloc_Map_Is.calls 0 _ _ ([] : List (S53)) 0 false _ ?side1 ?side2 A39.out).mono ?_); (case side1 => exact Kd.C_nil _ _); (case side2 => exact Nat.le_refl _); rintro e w83 ⟨rfl, hb⟩; replace HO371 := Aside0.mk (Kd.R_below (rU HO371.out) hb); replace HO377 := Aside0.mk (Kd.R_below (rU HO377.out) hb); replace HO381 := Aside0.mk (Kd.V_below (by (with_reducible repeat (first | apply Kd.V_alloc | apply Kd.V_drewN | apply Kd.V_drew)); exact HO381.out) hb); replace HO386 := Aside0.mk (Kd.R_below (rU HO386.out) hb); replace HO390 := Aside0.mk (Kd.V_below (by (with_reducible repeat (first | apply Kd.V_alloc | apply Kd.V_drewN | apply Kd.V_drew)); exact HO390.out) hb); replace HO398 := Aside0.mk (Kd.R_below (rU HO398.out) hb); replace BK373 := Aside0.mk (blk_below (g := gb373) (o := .cells #[.int .i64 t368, .slice Ao12 t369.length co12] 26 (0, 0)) (kU BK373.out) hb); replace BK374 := Aside0.mk (blk_below (g := gb374) (o := .cells #[.int .i64 0, .slice none 0 0] 26 (0, 0)) (kU BK374.out) hb); replace BK383 := Aside0.mk (blk_below (g := gb383) (o := .cells #[.int .i64 t378, .slice Ao21 t379.length co21] 26 (0, 0)) (kU BK383.out) hb); replace BK392 := Aside0.mk (blk_below (g := gb392) (o := .cells #[.int .i64 t387, .slice Ao30 t388.length co30] 26 (0, 0)) (kU BK392.out) hb); replace HB := Aside0.mk (below_step (by repeat (first | (with_reducible first | exact HB.out | apply below_alloc | apply pw_below_drewN | apply below_drew1 | refine below_set ?_ GE373.out | refine below_set ?_ GE374.out | refine below_set ?_ GE383.out | refine below_set ?_ GE392.out) | exact HB.out)) hb); (try clear hb); (try clear hk)))
         go_meet
         case rel => exact ⟨_, (true), (by first | rfl | (simp; done) | (simp [*]; done)), H', ⟨by first | omega | exact Nat.le_refl _⟩, ⟨by (with_reducible repeat (first | apply Kd.R_alloc | apply Kd.R_drewN | apply Kd.R_drew)); exact Kd.R_mono HO371.out (fun _ hk => trivial)⟩, ⟨by (with_reducible repeat (first | apply Kd.V_alloc | apply Kd.V_drewN | apply Kd.V_drew)); exact Kd.V_mono HO381.out (fun _ hk => ⟨hk.1.1.1.1, ⟨hk.1.1.1.2.2.1, ⟨hk.1.1.1.2.2.2.1, ⟨hk.1.1.1.2.2.2.2, hk.1.2⟩⟩⟩⟩)⟩, ⟨by (with_reducible repeat (first | apply Kd.V_alloc | apply Kd.V_drewN | apply Kd.V_drew)); exact Kd.V_mono HO390.out (fun _ hk => ⟨hk.1.1.2.1, ⟨hk.1.1.2.2.2.1, ⟨hk.1.1.2.2.2.2.1, ⟨hk.1.1.2.2.2.2.2, hk.1.2⟩⟩⟩⟩)⟩, ⟨by (with_reducible repeat (first | refine blk_drewN ?_ _ | refine blk_drew ?_ | refine blk_alloc ?_ _)); exact BK373.out⟩, ⟨by (with_reducible repeat (first | refine blk_drewN ?_ _ | refine blk_drew ?_ | refine blk_alloc ?_ _)); exact BK374.out⟩, ⟨by (with_reducible repeat (first | refine blk_drewN ?_ _ | refine blk_drew ?_ | refine blk_alloc ?_ _)); exact BK383.out⟩, ⟨by (with_reducible repeat (first | refine blk_drewN ?_ _ | refine blk_drew ?_ | refine blk_alloc ?_ _)); exact BK392.out⟩, ⟨by repeat (first | (with_reducible first | exact HB.out | apply below_alloc | apply pw_below_drewN | apply below_drew1 | refine below_set ?_ GE373.out | refine below_set ?_ GE374.out | refine below_set ?_ GE383.out | refine below_set ?_ GE392.out) | exact HB.out)⟩⟩
      ·
       rw [if_neg c38] at H
       have c38b0 : ((t396.length : Int) == 0) = false := beq_eq_false_iff_ne.mpr c38
       have c38b1 : ((t396.length : Int) != 0) = true := bne_iff_ne.mpr c38
       have c38b2 : ¬ (t396 = []) := fun h_ => c38 (by rw [h_]; rfl)
       have H' := Aside0.mk H
       clear H
       have hnb84 := NB374_373.out
       have hnc84 := NB373_374.out
       have hnb85 := NB374_383.out
       have hnc85 := NB383_374.out
       have hnb86 := NB374_392.out
       have hnc86 := NB392_374.out
       have hcz87_0 : w25.cell? ⟨gb374, 0, none⟩ = some (.int .i64 0) := (blk_cell BK374.out 0).trans rfl
       have hcz87_1 : w25.cell? ⟨gb374, 1, none⟩ = some (.slice none 0 0) := (blk_cell BK374.out 1).trans rfl
       have hfz87_0 := blk_frozen BK374.out 0
       have hfz87_1 := blk_frozen BK374.out 1
       go_wp2_with (first | ((with_reducible refine gate_callee (f := 17) rfl ?_); refine goesL_ (some 32) rfl rfl Try.func17 (by kernel_rfl) rfl #[.agg #[.int .i64 0, .slice none 0 0]] rfl (by (try simp only [List.map_toArray, List.map_cons, List.map_nil]); first | done | rfl | (simp only [List.length_drop, List.length_take]; rfl)) ?_; (refine (alloc_Map_Slots.calls 0 _ _ ([] : List (S53)) t393 _ ?side1 ?side2 A31.out).mono ?_); (case side1 => exact Kd.C_nil _ _); (case side2 => exact Nat.le_refl _); rintro e w88 ⟨rfl, hb⟩; refine ⟨_, rfl, ?_⟩; replace HO371 := Aside0.mk (Kd.R_below (rU (Kd.R_mono (Kd.R_far (p := ⟨gb392, 1, none⟩) (Kd.R_far (p := ⟨gb392, 0, none⟩) (Kd.R_types HO371.out BK392.out (by decide)) (fun _ hk => hk.2) (.int .i64 t387)) (fun _ hk => hk.2) (.slice Ao30 t388.length co30)) (fun _ h_ => h_.1))) hb); replace HO377 := Aside0.mk (Kd.R_below (rU (Kd.R_mono (Kd.R_far (p := ⟨gb392, 1, none⟩) (Kd.R_far (p := ⟨gb392, 0, none⟩) (Kd.R_types HO377.out BK392.out (by decide)) (fun _ hk => hk.2) (.int .i64 t387)) (fun _ hk => hk.2) (.slice Ao30 t388.length co30)) (fun _ h_ => h_.1))) hb); replace HO381 := Aside0.mk (Kd.V_below (by (with_reducible repeat (first | apply Kd.V_alloc | apply Kd.V_drewN | apply Kd.V_drew)); exact (Kd.V_mono (Kd.V_far (p := ⟨gb392, 1, none⟩) (Kd.V_far (p := ⟨gb392, 0, none⟩) (Kd.V_mono HO381.out (fun k_ hk => (⟨hk, hk.2⟩ : _ ∧ k_ ≠ gb392))) (fun _ hk => hk.2) (.int .i64 t387)) (fun _ hk => hk.2) (.slice Ao30 t388.length co30)) (fun _ h_ => h_.1))) hb); replace HO386 := Aside0.mk (Kd.R_below (rU (Kd.R_mono (Kd.R_far (p := ⟨gb392, 1, none⟩) (Kd.R_far (p := ⟨gb392, 0, none⟩) (Kd.R_types HO386.out BK392.out (by decide)) (fun _ hk => hk.2) (.int .i64 t387)) (fun _ hk => hk.2) (.slice Ao30 t388.length co30)) (fun _ h_ => h_.1))) hb); replace HO390 := Aside0.mk (Kd.V_below (by (with_reducible repeat (first | apply Kd.V_alloc | apply Kd.V_drewN | apply Kd.V_drew)); exact (Kd.V_mono (Kd.V_far (p := ⟨gb392, 1, none⟩) (Kd.V_far (p := ⟨gb392, 0, none⟩) (Kd.V_mono HO390.out (fun k_ hk => (⟨hk, hk.2⟩ : _ ∧ k_ ≠ gb392))) (fun _ hk => hk.2) (.int .i64 t387)) (fun _ hk => hk.2) (.slice Ao30 t388.length co30)) (fun _ h_ => h_.1))) hb); replace BK373 := Aside0.mk (blk_below (g := gb373) (o := .cells #[.int .i64 t368, .slice Ao12 t369.length co12] 26 (0, 0)) (by (with_reducible repeat (first | refine blk_drewN ?_ _ | refine blk_drew ?_ | refine blk_alloc ?_ _)); refine blk_far ?_ NB373_392.out _; (with_reducible repeat (first | refine blk_drewN ?_ _ | refine blk_drew ?_ | refine blk_alloc ?_ _)); refine blk_far ?_ NB373_392.out _; (with_reducible repeat (first | refine blk_drewN ?_ _ | refine blk_drew ?_ | refine blk_alloc ?_ _)); exact BK373.out) hb); replace BK374 := Aside0.mk (blk_below (g := gb374) (o := .cells #[.int .i64 0, .slice none 0 0] 26 (0, 0)) (by (with_reducible repeat (first | refine blk_drewN ?_ _ | refine blk_drew ?_ | refine blk_alloc ?_ _)); refine blk_far ?_ NB374_392.out _; (with_reducible repeat (first | refine blk_drewN ?_ _ | refine blk_drew ?_ | refine blk_alloc ?_ _)); refine blk_far ?_ NB374_392.out _; (with_reducible repeat (first | refine blk_drewN ?_ _ | refine blk_drew ?_ | refine blk_alloc ?_ _)); exact BK374.out) hb); replace BK383 := Aside0.mk (blk_below (g := gb383) (o := .cells #[.int .i64 t378, .slice Ao21 t379.length co21] 26 (0, 0)) (by (with_reducible repeat (first | refine blk_drewN ?_ _ | refine blk_drew ?_ | refine blk_alloc ?_ _)); refine blk_far ?_ NB383_392.out _; (with_reducible repeat (first | refine blk_drewN ?_ _ | refine blk_drew ?_ | refine blk_alloc ?_ _)); refine blk_far ?_ NB383_392.out _; (with_reducible repeat (first | refine blk_drewN ?_ _ | refine blk_drew ?_ | refine blk_alloc ?_ _)); exact BK383.out) hb); replace BK392 := Aside0.mk (blk_below (g := gb392) (o := .cells #[.int .i64 t387, .slice Ao30 t388.length co30] 26 (0, 0)) (by (with_reducible repeat (first | refine blk_drewN ?_ _ | refine blk_drew ?_ | refine blk_alloc ?_ _)); refine blk_put (cs := #[.int .i64 t387, .slice none 0 0]) ?_ 1 _ rfl; (with_reducible repeat (first | refine blk_drewN ?_ _ | refine blk_drew ?_ | refine blk_alloc ?_ _)); refine blk_put (cs := #[.int .i64 0, .slice none 0 0]) ?_ 0 _ rfl; (with_reducible repeat (first | refine blk_drewN ?_ _ | refine blk_drew ?_ | refine blk_alloc ?_ _)); exact BK392.out) hb); replace HB := Aside0.mk (below_step (by repeat (first | (with_reducible first | exact HB.out | apply below_alloc | apply pw_below_drewN | apply below_drew1 | refine below_set ?_ GE373.out | refine below_set ?_ GE374.out | refine below_set ?_ GE383.out | refine below_set ?_ GE392.out) | exact HB.out)) hb); (try clear hb); (try clear hk); have hcz89_0 : w88.cell? ⟨gb374, 0, none⟩ = some (.int .i64 0) := (blk_cell BK374.out 0).trans rfl; have hcz89_1 : w88.cell? ⟨gb374, 1, none⟩ = some (.slice none 0 0) := (blk_cell BK374.out 1).trans rfl; have hfz89_0 := blk_frozen BK374.out 0; have hfz89_1 := blk_frozen BK374.out 1) | (go_at_call 15; (refine (alloc_Map_Free.calls k 0 _ _ ([] : List (S53)) t394 _ ?side1 ?side2 A33.out).mono ?_); (case side1 => exact Kd.C_nil _ _); (case side2 => exact Nat.le_refl _); rintro e w90 ⟨rfl, hb⟩; replace HO371 := Aside0.mk (Kd.R_below (rU HO371.out) hb); replace HO377 := Aside0.mk (Kd.R_below (rU HO377.out) hb); replace HO381 := Aside0.mk (Kd.V_below (by (with_reducible repeat (first | apply Kd.V_alloc | apply Kd.V_drewN | apply Kd.V_drew)); exact HO381.out) hb); replace HO386 := Aside0.mk (Kd.R_below (rU HO386.out) hb); replace HO390 := Aside0.mk (Kd.V_below (by (with_reducible repeat (first | apply Kd.V_alloc | apply Kd.V_drewN | apply Kd.V_drew)); exact HO390.out) hb); replace BK373 := Aside0.mk (blk_below (g := gb373) (o := .cells #[.int .i64 t368, .slice Ao12 t369.length co12] 26 (0, 0)) (kU BK373.out) hb); replace BK374 := Aside0.mk (blk_below (g := gb374) (o := .cells #[.int .i64 0, .slice none 0 0] 26 (0, 0)) (kU BK374.out) hb); replace BK383 := Aside0.mk (blk_below (g := gb383) (o := .cells #[.int .i64 t378, .slice Ao21 t379.length co21] 26 (0, 0)) (kU BK383.out) hb); replace BK392 := Aside0.mk (blk_below (g := gb392) (o := .cells #[.int .i64 t387, .slice Ao30 t388.length co30] 26 (0, 0)) (kU BK392.out) hb); replace HB := Aside0.mk (below_step (by repeat (first | (with_reducible first | exact HB.out | apply below_alloc | apply pw_below_drewN | apply below_drew1 | refine below_set ?_ GE373.out | refine below_set ?_ GE374.out | refine below_set ?_ GE383.out | refine below_set ?_ GE392.out) | exact HB.out)) hb); (try clear hb); (try clear hk); have hcz91_0 : w90.cell? ⟨gb374, 0, none⟩ = some (.int .i64 0) := (blk_cell BK374.out 0).trans rfl; have hcz91_1 : w90.cell? ⟨gb374, 1, none⟩ = some (.slice none 0 0) := (blk_cell BK374.out 1).trans rfl; have hfz91_0 := blk_frozen BK374.out 0; have hfz91_1 := blk_frozen BK374.out 1) | (go_at_call 16; (refine (alloc_Map_Largest.calls k 0 _ _ ([] : List (S53)) t395 _ ?side1 ?side2 A35.out).mono ?_); (case side1 => exact Kd.C_nil _ _); (case side2 => exact Nat.le_refl _); rintro e w92 ⟨rfl, hb⟩; replace HO371 := Aside0.mk (Kd.R_below (rU HO371.out) hb); replace HO377 := Aside0.mk (Kd.R_below (rU HO377.out) hb); replace HO381 := Aside0.mk (Kd.V_below (by (with_reducible repeat (first | apply Kd.V_alloc | apply Kd.V_drewN | apply Kd.V_drew)); exact HO381.out) hb); replace HO386 := Aside0.mk (Kd.R_below (rU HO386.out) hb); replace HO390 := Aside0.mk (Kd.V_below (by (with_reducible repeat (first | apply Kd.V_alloc | apply Kd.V_drewN | apply Kd.V_drew)); exact HO390.out) hb); replace BK373 := Aside0.mk (blk_below (g := gb373) (o := .cells #[.int .i64 t368, .slice Ao12 t369.length co12] 26 (0, 0)) (kU BK373.out) hb); replace BK374 := Aside0.mk (blk_below (g := gb374) (o := .cells #[.int .i64 0, .slice none 0 0] 26 (0, 0)) (kU BK374.out) hb); replace BK383 := Aside0.mk (blk_below (g := gb383) (o := .cells #[.int .i64 t378, .slice Ao21 t379.length co21] 26 (0, 0)) (kU BK383.out) hb); replace BK392 := Aside0.mk (blk_below (g := gb392) (o := .cells #[.int .i64 t387, .slice Ao30 t388.length co30] 26 (0, 0)) (kU BK392.out) hb); replace HB := Aside0.mk (below_step (by repeat (first | (with_reducible first | exact HB.out | apply below_alloc | apply pw_below_drewN | apply below_drew1 | refine below_set ?_ GE373.out | refine below_set ?_ GE374.out | refine below_set ?_ GE383.out | refine below_set ?_ GE392.out) | exact HB.out)) hb); (try clear hb); (try clear hk); have hcz93_0 : w92.cell? ⟨gb374, 0, none⟩ = some (.int .i64 0) := (blk_cell BK374.out 0).trans rfl; have hcz93_1 : w92.cell? ⟨gb374, 1, none⟩ = some (.slice none 0 0) := (blk_cell BK374.out 1).trans rfl; have hfz93_0 := blk_frozen BK374.out 0; have hfz93_1 := blk_frozen BK374.out 1) | (go_at_call 18; (refine (alloc_Map_Runs.calls 0 _ _ ([] : List (S53)) t396 _ ?side1 ?side2 A37.out).mono ?_); (case side1 => exact Kd.C_nil _ _); (case side2 => exact Nat.le_refl _); rintro e w94 ⟨v397, rfl, ho0, hb⟩; replace HO381 := Aside0.mk (Kd.V_elder' (by (with_reducible repeat (first | apply Kd.V_alloc | apply Kd.V_drewN | apply Kd.V_drew)); exact HO381.out) (Kd.R_base ho0) hb); replace HO390 := Aside0.mk (Kd.V_elder' (by (with_reducible repeat (first | apply Kd.V_alloc | apply Kd.V_drewN | apply Kd.V_drew)); exact HO390.out) (Kd.R_base ho0) hb); have HO398 := Aside0.mk (Kd.R_lower (Kd.R_new' (Kd.R_new' (Kd.R_new' ho0 (Kd.R_lt (rU HO371.out))) (Kd.R_lt (rU HO377.out))) (Kd.R_lt (rU HO386.out))) (below_size (by repeat (first | (with_reducible first | exact HB.out | apply below_alloc | apply pw_below_drewN | apply below_drew1 | refine below_set ?_ GE373.out | refine below_set ?_ GE374.out | refine below_set ?_ GE383.out | refine below_set ?_ GE392.out) | exact HB.out)))); replace HO371 := Aside0.mk (Kd.R_elder' (rU HO371.out) (Kd.R_base ho0) hb); replace HO377 := Aside0.mk (Kd.R_elder' (rU HO377.out) (Kd.R_base ho0) hb); replace HO386 := Aside0.mk (Kd.R_elder' (rU HO386.out) (Kd.R_base ho0) hb); replace BK373 := Aside0.mk (blk_below (g := gb373) (o := .cells #[.int .i64 t368, .slice Ao12 t369.length co12] 26 (0, 0)) (kU BK373.out) hb); replace BK374 := Aside0.mk (blk_below (g := gb374) (o := .cells #[.int .i64 0, .slice none 0 0] 26 (0, 0)) (kU BK374.out) hb); replace BK383 := Aside0.mk (blk_below (g := gb383) (o := .cells #[.int .i64 t378, .slice Ao21 t379.length co21] 26 (0, 0)) (kU BK383.out) hb); replace BK392 := Aside0.mk (blk_below (g := gb392) (o := .cells #[.int .i64 t387, .slice Ao30 t388.length co30] 26 (0, 0)) (kU BK392.out) hb); replace HB := Aside0.mk (below_step (by repeat (first | (with_reducible first | exact HB.out | apply below_alloc | apply pw_below_drewN | apply below_drew1 | refine below_set ?_ GE373.out | refine below_set ?_ GE374.out | refine below_set ?_ GE383.out | refine below_set ?_ GE392.out) | exact HB.out)) hb); (try clear hb); (try clear hk); (try clear ho0); obtain ⟨Ao95, co95, eo95⟩ := Kd.R_slice HO398.out; subst eo95))
       go_meet
       case rel => exact ⟨_, (true), (by first | rfl | (simp; done) | (simp [*]; done)), H', ⟨by first | omega | exact Nat.le_refl _⟩, ⟨by (with_reducible repeat (first | apply Kd.R_alloc | apply Kd.R_drewN | apply Kd.R_drew)); exact Kd.R_mono HO371.out (fun _ hk => trivial)⟩, ⟨by (with_reducible repeat (first | apply Kd.V_alloc | apply Kd.V_drewN | apply Kd.V_drew)); exact Kd.V_mono HO381.out (fun _ hk => ⟨hk.1.1.1.1, ⟨hk.1.1.1.2.2.1, ⟨hk.1.1.1.2.2.2.1, ⟨hk.1.1.1.2.2.2.2, hk.1.2⟩⟩⟩⟩)⟩, ⟨by (with_reducible repeat (first | apply Kd.V_alloc | apply Kd.V_drewN | apply Kd.V_drew)); exact Kd.V_mono HO390.out (fun _ hk => ⟨hk.1.1.2.1, ⟨hk.1.1.2.2.2.1, ⟨hk.1.1.2.2.2.2.1, ⟨hk.1.1.2.2.2.2.2, hk.1.2⟩⟩⟩⟩)⟩, ⟨by (with_reducible repeat (first | refine blk_drewN ?_ _ | refine blk_drew ?_ | refine blk_alloc ?_ _)); exact BK373.out⟩, ⟨by (with_reducible repeat (first | refine blk_drewN ?_ _ | refine blk_drew ?_ | refine blk_alloc ?_ _)); exact BK374.out⟩, ⟨by (with_reducible repeat (first | refine blk_drewN ?_ _ | refine blk_drew ?_ | refine blk_alloc ?_ _)); exact BK383.out⟩, ⟨by (with_reducible repeat (first | refine blk_drewN ?_ _ | refine blk_drew ?_ | refine blk_alloc ?_ _)); exact BK392.out⟩, ⟨by repeat (first | (with_reducible first | exact HB.out | apply below_alloc | apply pw_below_drewN | apply below_drew1 | refine below_set ?_ GE373.out | refine below_set ?_ GE374.out | refine below_set ?_ GE383.out | refine below_set ?_ GE392.out) | exact HB.out)⟩⟩
     ·
      rw [if_neg c36] at H
      have c36b0 : (t395 == 0) = false := beq_eq_false_iff_ne.mpr c36
      have c36b1 : (t395 != 0) = true := bne_iff_ne.mpr c36
      have H' := Aside0.mk H
      clear H
      have hnb96 := NB374_373.out
      have hnc96 := NB373_374.out
      have hnb97 := NB374_383.out
      have hnc97 := NB383_374.out
      have hnb98 := NB374_392.out
      have hnc98 := NB392_374.out
      have hcz99_0 : w25.cell? ⟨gb374, 0, none⟩ = some (.int .i64 0) := (blk_cell BK374.out 0).trans rfl
      have hcz99_1 : w25.cell? ⟨gb374, 1, none⟩ = some (.slice none 0 0) := (blk_cell BK374.out 1).trans rfl
      have hfz99_0 := blk_frozen BK374.out 0
      have hfz99_1 := blk_frozen BK374.out 1
      go_wp2_with (first | ((with_reducible refine gate_callee (f := 17) rfl ?_); refine goesL_ (some 32) rfl rfl Try.func17 (by kernel_rfl) rfl #[.agg #[.int .i64 0, .slice none 0 0]] rfl (by (try simp only [List.map_toArray, List.map_cons, List.map_nil]); first | done | rfl | (simp only [List.length_drop, List.length_take]; rfl)) ?_; (refine (alloc_Map_Slots.calls 0 _ _ ([] : List (S53)) t393 _ ?side1 ?side2 A31.out).mono ?_); (case side1 => exact Kd.C_nil _ _); (case side2 => exact Nat.le_refl _); rintro e w100 ⟨rfl, hb⟩; refine ⟨_, rfl, ?_⟩; replace HO371 := Aside0.mk (Kd.R_below (rU (Kd.R_mono (Kd.R_far (p := ⟨gb392, 1, none⟩) (Kd.R_far (p := ⟨gb392, 0, none⟩) (Kd.R_types HO371.out BK392.out (by decide)) (fun _ hk => hk.2) (.int .i64 t387)) (fun _ hk => hk.2) (.slice Ao30 t388.length co30)) (fun _ h_ => h_.1))) hb); replace HO377 := Aside0.mk (Kd.R_below (rU (Kd.R_mono (Kd.R_far (p := ⟨gb392, 1, none⟩) (Kd.R_far (p := ⟨gb392, 0, none⟩) (Kd.R_types HO377.out BK392.out (by decide)) (fun _ hk => hk.2) (.int .i64 t387)) (fun _ hk => hk.2) (.slice Ao30 t388.length co30)) (fun _ h_ => h_.1))) hb); replace HO381 := Aside0.mk (Kd.V_below (by (with_reducible repeat (first | apply Kd.V_alloc | apply Kd.V_drewN | apply Kd.V_drew)); exact (Kd.V_mono (Kd.V_far (p := ⟨gb392, 1, none⟩) (Kd.V_far (p := ⟨gb392, 0, none⟩) (Kd.V_mono HO381.out (fun k_ hk => (⟨hk, hk.2⟩ : _ ∧ k_ ≠ gb392))) (fun _ hk => hk.2) (.int .i64 t387)) (fun _ hk => hk.2) (.slice Ao30 t388.length co30)) (fun _ h_ => h_.1))) hb); replace HO386 := Aside0.mk (Kd.R_below (rU (Kd.R_mono (Kd.R_far (p := ⟨gb392, 1, none⟩) (Kd.R_far (p := ⟨gb392, 0, none⟩) (Kd.R_types HO386.out BK392.out (by decide)) (fun _ hk => hk.2) (.int .i64 t387)) (fun _ hk => hk.2) (.slice Ao30 t388.length co30)) (fun _ h_ => h_.1))) hb); replace HO390 := Aside0.mk (Kd.V_below (by (with_reducible repeat (first | apply Kd.V_alloc | apply Kd.V_drewN | apply Kd.V_drew)); exact (Kd.V_mono (Kd.V_far (p := ⟨gb392, 1, none⟩) (Kd.V_far (p := ⟨gb392, 0, none⟩) (Kd.V_mono HO390.out (fun k_ hk => (⟨hk, hk.2⟩ : _ ∧ k_ ≠ gb392))) (fun _ hk => hk.2) (.int .i64 t387)) (fun _ hk => hk.2) (.slice Ao30 t388.length co30)) (fun _ h_ => h_.1))) hb); replace BK373 := Aside0.mk (blk_below (g := gb373) (o := .cells #[.int .i64 t368, .slice Ao12 t369.length co12] 26 (0, 0)) (by (with_reducible repeat (first | refine blk_drewN ?_ _ | refine blk_drew ?_ | refine blk_alloc ?_ _)); refine blk_far ?_ NB373_392.out _; (with_reducible repeat (first | refine blk_drewN ?_ _ | refine blk_drew ?_ | refine blk_alloc ?_ _)); refine blk_far ?_ NB373_392.out _; (with_reducible repeat (first | refine blk_drewN ?_ _ | refine blk_drew ?_ | refine blk_alloc ?_ _)); exact BK373.out) hb); replace BK374 := Aside0.mk (blk_below (g := gb374) (o := .cells #[.int .i64 0, .slice none 0 0] 26 (0, 0)) (by (with_reducible repeat (first | refine blk_drewN ?_ _ | refine blk_drew ?_ | refine blk_alloc ?_ _)); refine blk_far ?_ NB374_392.out _; (with_reducible repeat (first | refine blk_drewN ?_ _ | refine blk_drew ?_ | refine blk_alloc ?_ _)); refine blk_far ?_ NB374_392.out _; (with_reducible repeat (first | refine blk_drewN ?_ _ | refine blk_drew ?_ | refine blk_alloc ?_ _)); exact BK374.out) hb); replace BK383 := Aside0.mk (blk_below (g := gb383) (o := .cells #[.int .i64 t378, .slice Ao21 t379.length co21] 26 (0, 0)) (by (with_reducible repeat (first | refine blk_drewN ?_ _ | refine blk_drew ?_ | refine blk_alloc ?_ _)); refine blk_far ?_ NB383_392.out _; (with_reducible repeat (first | refine blk_drewN ?_ _ | refine blk_drew ?_ | refine blk_alloc ?_ _)); refine blk_far ?_ NB383_392.out _; (with_reducible repeat (first | refine blk_drewN ?_ _ | refine blk_drew ?_ | refine blk_alloc ?_ _)); exact BK383.out) hb); replace BK392 := Aside0.mk (blk_below (g := gb392) (o := .cells #[.int .i64 t387, .slice Ao30 t388.length co30] 26 (0, 0)) (by (with_reducible repeat (first | refine blk_drewN ?_ _ | refine blk_drew ?_ | refine blk_alloc ?_ _)); refine blk_put (cs := #[.int .i64 t387, .slice none 0 0]) ?_ 1 _ rfl; (with_reducible repeat (first | refine blk_drewN ?_ _ | refine blk_drew ?_ | refine blk_alloc ?_ _)); refine blk_put (cs := #[.int .i64 0, .slice none 0 0]) ?_ 0 _ rfl; (with_reducible repeat (first | refine blk_drewN ?_ _ | refine blk_drew ?_ | refine blk_alloc ?_ _)); exact BK392.out) hb); replace HB := Aside0.mk (below_step (by repeat (first | (with_reducible first | exact HB.out | apply below_alloc | apply pw_below_drewN | apply below_drew1 | refine below_set ?_ GE373.out | refine below_set ?_ GE374.out | refine below_set ?_ GE383.out | refine below_set ?_ GE392.out) | exact HB.out)) hb); (try clear hb); (try clear hk); have hcz101_0 : w100.cell? ⟨gb374, 0, none⟩ = some (.int .i64 0) := (blk_cell BK374.out 0).trans rfl; have hcz101_1 : w100.cell? ⟨gb374, 1, none⟩ = some (.slice none 0 0) := (blk_cell BK374.out 1).trans rfl; have hfz101_0 := blk_frozen BK374.out 0; have hfz101_1 := blk_frozen BK374.out 1) | (go_at_call 15; (refine (alloc_Map_Free.calls k 0 _ _ ([] : List (S53)) t394 _ ?side1 ?side2 A33.out).mono ?_); (case side1 => exact Kd.C_nil _ _); (case side2 => exact Nat.le_refl _); rintro e w102 ⟨rfl, hb⟩; replace HO371 := Aside0.mk (Kd.R_below (rU HO371.out) hb); replace HO377 := Aside0.mk (Kd.R_below (rU HO377.out) hb); replace HO381 := Aside0.mk (Kd.V_below (by (with_reducible repeat (first | apply Kd.V_alloc | apply Kd.V_drewN | apply Kd.V_drew)); exact HO381.out) hb); replace HO386 := Aside0.mk (Kd.R_below (rU HO386.out) hb); replace HO390 := Aside0.mk (Kd.V_below (by (with_reducible repeat (first | apply Kd.V_alloc | apply Kd.V_drewN | apply Kd.V_drew)); exact HO390.out) hb); replace BK373 := Aside0.mk (blk_below (g := gb373) (o := .cells #[.int .i64 t368, .slice Ao12 t369.length co12] 26 (0, 0)) (kU BK373.out) hb); replace BK374 := Aside0.mk (blk_below (g := gb374) (o := .cells #[.int .i64 0, .slice none 0 0] 26 (0, 0)) (kU BK374.out) hb); replace BK383 := Aside0.mk (blk_below (g := gb383) (o := .cells #[.int .i64 t378, .slice Ao21 t379.length co21] 26 (0, 0)) (kU BK383.out) hb); replace BK392 := Aside0.mk (blk_below (g := gb392) (o := .cells #[.int .i64 t387, .slice Ao30 t388.length co30] 26 (0, 0)) (kU BK392.out) hb); replace HB := Aside0.mk (below_step (by repeat (first | (with_reducible first | exact HB.out | apply below_alloc | apply pw_below_drewN | apply below_drew1 | refine below_set ?_ GE373.out | refine below_set ?_ GE374.out | refine below_set ?_ GE383.out | refine below_set ?_ GE392.out) | exact HB.out)) hb); (try clear hb); (try clear hk); have hcz103_0 : w102.cell? ⟨gb374, 0, none⟩ = some (.int .i64 0) := (blk_cell BK374.out 0).trans rfl; have hcz103_1 : w102.cell? ⟨gb374, 1, none⟩ = some (.slice none 0 0) := (blk_cell BK374.out 1).trans rfl; have hfz103_0 := blk_frozen BK374.out 0; have hfz103_1 := blk_frozen BK374.out 1) | (go_at_call 16; (refine (alloc_Map_Largest.calls k 0 _ _ ([] : List (S53)) t395 _ ?side1 ?side2 A35.out).mono ?_); (case side1 => exact Kd.C_nil _ _); (case side2 => exact Nat.le_refl _); rintro e w104 ⟨rfl, hb⟩; replace HO371 := Aside0.mk (Kd.R_below (rU HO371.out) hb); replace HO377 := Aside0.mk (Kd.R_below (rU HO377.out) hb); replace HO381 := Aside0.mk (Kd.V_below (by (with_reducible repeat (first | apply Kd.V_alloc | apply Kd.V_drewN | apply Kd.V_drew)); exact HO381.out) hb); replace HO386 := Aside0.mk (Kd.R_below (rU HO386.out) hb); replace HO390 := Aside0.mk (Kd.V_below (by (with_reducible repeat (first | apply Kd.V_alloc | apply Kd.V_drewN | apply Kd.V_drew)); exact HO390.out) hb); replace BK373 := Aside0.mk (blk_below (g := gb373) (o := .cells #[.int .i64 t368, .slice Ao12 t369.length co12] 26 (0, 0)) (kU BK373.out) hb); replace BK374 := Aside0.mk (blk_below (g := gb374) (o := .cells #[.int .i64 0, .slice none 0 0] 26 (0, 0)) (kU BK374.out) hb); replace BK383 := Aside0.mk (blk_below (g := gb383) (o := .cells #[.int .i64 t378, .slice Ao21 t379.length co21] 26 (0, 0)) (kU BK383.out) hb); replace BK392 := Aside0.mk (blk_below (g := gb392) (o := .cells #[.int .i64 t387, .slice Ao30 t388.length co30] 26 (0, 0)) (kU BK392.out) hb); replace HB := Aside0.mk (below_step (by repeat (first | (with_reducible first | exact HB.out | apply below_alloc | apply pw_below_drewN | apply below_drew1 | refine below_set ?_ GE373.out | refine below_set ?_ GE374.out | refine below_set ?_ GE383.out | refine below_set ?_ GE392.out) | exact HB.out)) hb); (try clear hb); (try clear hk)))
      go_meet
      case rel => exact ⟨_, (true), (by first | rfl | (simp; done) | (simp [*]; done)), H', ⟨by first | omega | exact Nat.le_refl _⟩, ⟨by (with_reducible repeat (first | apply Kd.R_alloc | apply Kd.R_drewN | apply Kd.R_drew)); exact Kd.R_mono HO371.out (fun _ hk => trivial)⟩, ⟨by (with_reducible repeat (first | apply Kd.V_alloc | apply Kd.V_drewN | apply Kd.V_drew)); exact Kd.V_mono HO381.out (fun _ hk => ⟨hk.1.1.1, ⟨hk.1.1.2.2.1, ⟨hk.1.1.2.2.2.1, ⟨hk.1.1.2.2.2.2, hk.2⟩⟩⟩⟩)⟩, ⟨by (with_reducible repeat (first | apply Kd.V_alloc | apply Kd.V_drewN | apply Kd.V_drew)); exact Kd.V_mono HO390.out (fun _ hk => ⟨hk.1.2.1, ⟨hk.1.2.2.2.1, ⟨hk.1.2.2.2.2.1, ⟨hk.1.2.2.2.2.2, hk.2⟩⟩⟩⟩)⟩, ⟨by (with_reducible repeat (first | refine blk_drewN ?_ _ | refine blk_drew ?_ | refine blk_alloc ?_ _)); exact BK373.out⟩, ⟨by (with_reducible repeat (first | refine blk_drewN ?_ _ | refine blk_drew ?_ | refine blk_alloc ?_ _)); exact BK374.out⟩, ⟨by (with_reducible repeat (first | refine blk_drewN ?_ _ | refine blk_drew ?_ | refine blk_alloc ?_ _)); exact BK383.out⟩, ⟨by (with_reducible repeat (first | refine blk_drewN ?_ _ | refine blk_drew ?_ | refine blk_alloc ?_ _)); exact BK392.out⟩, ⟨by repeat (first | (with_reducible first | exact HB.out | apply below_alloc | apply pw_below_drewN | apply below_drew1 | refine below_set ?_ GE373.out | refine below_set ?_ GE374.out | refine below_set ?_ GE383.out | refine below_set ?_ GE392.out) | exact HB.out)⟩⟩
    ·
     rw [if_neg c34] at H
     have c34b0 : (t394 == 0) = false := beq_eq_false_iff_ne.mpr c34
     have c34b1 : (t394 != 0) = true := bne_iff_ne.mpr c34
     have H' := Aside0.mk H
     clear H
     have hnb105 := NB374_373.out
     have hnc105 := NB373_374.out
     have hnb106 := NB374_383.out
     have hnc106 := NB383_374.out
     have hnb107 := NB374_392.out
     have hnc107 := NB392_374.out
     have hcz108_0 : w25.cell? ⟨gb374, 0, none⟩ = some (.int .i64 0) := (blk_cell BK374.out 0).trans rfl
     have hcz108_1 : w25.cell? ⟨gb374, 1, none⟩ = some (.slice none 0 0) := (blk_cell BK374.out 1).trans rfl
     have hfz108_0 := blk_frozen BK374.out 0
     have hfz108_1 := blk_frozen BK374.out 1
     go_wp2_with (first | ((with_reducible refine gate_callee (f := 17) rfl ?_); refine goesL_ (some 32) rfl rfl Try.func17 (by kernel_rfl) rfl #[.agg #[.int .i64 0, .slice none 0 0]] rfl (by (try simp only [List.map_toArray, List.map_cons, List.map_nil]); first | done | rfl | (simp only [List.length_drop, List.length_take]; rfl)) ?_; (refine (alloc_Map_Slots.calls 0 _ _ ([] : List (S53)) t393 _ ?side1 ?side2 A31.out).mono ?_); (case side1 => exact Kd.C_nil _ _); (case side2 => exact Nat.le_refl _); rintro e w109 ⟨rfl, hb⟩; refine ⟨_, rfl, ?_⟩; replace HO371 := Aside0.mk (Kd.R_below (rU (Kd.R_mono (Kd.R_far (p := ⟨gb392, 1, none⟩) (Kd.R_far (p := ⟨gb392, 0, none⟩) (Kd.R_types HO371.out BK392.out (by decide)) (fun _ hk => hk.2) (.int .i64 t387)) (fun _ hk => hk.2) (.slice Ao30 t388.length co30)) (fun _ h_ => h_.1))) hb); replace HO377 := Aside0.mk (Kd.R_below (rU (Kd.R_mono (Kd.R_far (p := ⟨gb392, 1, none⟩) (Kd.R_far (p := ⟨gb392, 0, none⟩) (Kd.R_types HO377.out BK392.out (by decide)) (fun _ hk => hk.2) (.int .i64 t387)) (fun _ hk => hk.2) (.slice Ao30 t388.length co30)) (fun _ h_ => h_.1))) hb); replace HO381 := Aside0.mk (Kd.V_below (by (with_reducible repeat (first | apply Kd.V_alloc | apply Kd.V_drewN | apply Kd.V_drew)); exact (Kd.V_mono (Kd.V_far (p := ⟨gb392, 1, none⟩) (Kd.V_far (p := ⟨gb392, 0, none⟩) (Kd.V_mono HO381.out (fun k_ hk => (⟨hk, hk.2⟩ : _ ∧ k_ ≠ gb392))) (fun _ hk => hk.2) (.int .i64 t387)) (fun _ hk => hk.2) (.slice Ao30 t388.length co30)) (fun _ h_ => h_.1))) hb); replace HO386 := Aside0.mk (Kd.R_below (rU (Kd.R_mono (Kd.R_far (p := ⟨gb392, 1, none⟩) (Kd.R_far (p := ⟨gb392, 0, none⟩) (Kd.R_types HO386.out BK392.out (by decide)) (fun _ hk => hk.2) (.int .i64 t387)) (fun _ hk => hk.2) (.slice Ao30 t388.length co30)) (fun _ h_ => h_.1))) hb); replace HO390 := Aside0.mk (Kd.V_below (by (with_reducible repeat (first | apply Kd.V_alloc | apply Kd.V_drewN | apply Kd.V_drew)); exact (Kd.V_mono (Kd.V_far (p := ⟨gb392, 1, none⟩) (Kd.V_far (p := ⟨gb392, 0, none⟩) (Kd.V_mono HO390.out (fun k_ hk => (⟨hk, hk.2⟩ : _ ∧ k_ ≠ gb392))) (fun _ hk => hk.2) (.int .i64 t387)) (fun _ hk => hk.2) (.slice Ao30 t388.length co30)) (fun _ h_ => h_.1))) hb); replace BK373 := Aside0.mk (blk_below (g := gb373) (o := .cells #[.int .i64 t368, .slice Ao12 t369.length co12] 26 (0, 0)) (by (with_reducible repeat (first | refine blk_drewN ?_ _ | refine blk_drew ?_ | refine blk_alloc ?_ _)); refine blk_far ?_ NB373_392.out _; (with_reducible repeat (first | refine blk_drewN ?_ _ | refine blk_drew ?_ | refine blk_alloc ?_ _)); refine blk_far ?_ NB373_392.out _; (with_reducible repeat (first | refine blk_drewN ?_ _ | refine blk_drew ?_ | refine blk_alloc ?_ _)); exact BK373.out) hb); replace BK374 := Aside0.mk (blk_below (g := gb374) (o := .cells #[.int .i64 0, .slice none 0 0] 26 (0, 0)) (by (with_reducible repeat (first | refine blk_drewN ?_ _ | refine blk_drew ?_ | refine blk_alloc ?_ _)); refine blk_far ?_ NB374_392.out _; (with_reducible repeat (first | refine blk_drewN ?_ _ | refine blk_drew ?_ | refine blk_alloc ?_ _)); refine blk_far ?_ NB374_392.out _; (with_reducible repeat (first | refine blk_drewN ?_ _ | refine blk_drew ?_ | refine blk_alloc ?_ _)); exact BK374.out) hb); replace BK383 := Aside0.mk (blk_below (g := gb383) (o := .cells #[.int .i64 t378, .slice Ao21 t379.length co21] 26 (0, 0)) (by (with_reducible repeat (first | refine blk_drewN ?_ _ | refine blk_drew ?_ | refine blk_alloc ?_ _)); refine blk_far ?_ NB383_392.out _; (with_reducible repeat (first | refine blk_drewN ?_ _ | refine blk_drew ?_ | refine blk_alloc ?_ _)); refine blk_far ?_ NB383_392.out _; (with_reducible repeat (first | refine blk_drewN ?_ _ | refine blk_drew ?_ | refine blk_alloc ?_ _)); exact BK383.out) hb); replace BK392 := Aside0.mk (blk_below (g := gb392) (o := .cells #[.int .i64 t387, .slice Ao30 t388.length co30] 26 (0, 0)) (by (with_reducible repeat (first | refine blk_drewN ?_ _ | refine blk_drew ?_ | refine blk_alloc ?_ _)); refine blk_put (cs := #[.int .i64 t387, .slice none 0 0]) ?_ 1 _ rfl; (with_reducible repeat (first | refine blk_drewN ?_ _ | refine blk_drew ?_ | refine blk_alloc ?_ _)); refine blk_put (cs := #[.int .i64 0, .slice none 0 0]) ?_ 0 _ rfl; (with_reducible repeat (first | refine blk_drewN ?_ _ | refine blk_drew ?_ | refine blk_alloc ?_ _)); exact BK392.out) hb); replace HB := Aside0.mk (below_step (by repeat (first | (with_reducible first | exact HB.out | apply below_alloc | apply pw_below_drewN | apply below_drew1 | refine below_set ?_ GE373.out | refine below_set ?_ GE374.out | refine below_set ?_ GE383.out | refine below_set ?_ GE392.out) | exact HB.out)) hb); (try clear hb); (try clear hk); have hcz110_0 : w109.cell? ⟨gb374, 0, none⟩ = some (.int .i64 0) := (blk_cell BK374.out 0).trans rfl; have hcz110_1 : w109.cell? ⟨gb374, 1, none⟩ = some (.slice none 0 0) := (blk_cell BK374.out 1).trans rfl; have hfz110_0 := blk_frozen BK374.out 0; have hfz110_1 := blk_frozen BK374.out 1) | (go_at_call 15; (refine (alloc_Map_Free.calls k 0 _ _ ([] : List (S53)) t394 _ ?side1 ?side2 A33.out).mono ?_); (case side1 => exact Kd.C_nil _ _); (case side2 => exact Nat.le_refl _); rintro e w111 ⟨rfl, hb⟩; replace HO371 := Aside0.mk (Kd.R_below (rU HO371.out) hb); replace HO377 := Aside0.mk (Kd.R_below (rU HO377.out) hb); replace HO381 := Aside0.mk (Kd.V_below (by (with_reducible repeat (first | apply Kd.V_alloc | apply Kd.V_drewN | apply Kd.V_drew)); exact HO381.out) hb); replace HO386 := Aside0.mk (Kd.R_below (rU HO386.out) hb); replace HO390 := Aside0.mk (Kd.V_below (by (with_reducible repeat (first | apply Kd.V_alloc | apply Kd.V_drewN | apply Kd.V_drew)); exact HO390.out) hb); replace BK373 := Aside0.mk (blk_below (g := gb373) (o := .cells #[.int .i64 t368, .slice Ao12 t369.length co12] 26 (0, 0)) (kU BK373.out) hb); replace BK374 := Aside0.mk (blk_below (g := gb374) (o := .cells #[.int .i64 0, .slice none 0 0] 26 (0, 0)) (kU BK374.out) hb); replace BK383 := Aside0.mk (blk_below (g := gb383) (o := .cells #[.int .i64 t378, .slice Ao21 t379.length co21] 26 (0, 0)) (kU BK383.out) hb); replace BK392 := Aside0.mk (blk_below (g := gb392) (o := .cells #[.int .i64 t387, .slice Ao30 t388.length co30] 26 (0, 0)) (kU BK392.out) hb); replace HB := Aside0.mk (below_step (by repeat (first | (with_reducible first | exact HB.out | apply below_alloc | apply pw_below_drewN | apply below_drew1 | refine below_set ?_ GE373.out | refine below_set ?_ GE374.out | refine below_set ?_ GE383.out | refine below_set ?_ GE392.out) | exact HB.out)) hb); (try clear hb); (try clear hk)))
     go_meet
     case rel => exact ⟨_, (true), (by first | rfl | (simp; done) | (simp [*]; done)), H', ⟨by first | omega | exact Nat.le_refl _⟩, ⟨by (with_reducible repeat (first | apply Kd.R_alloc | apply Kd.R_drewN | apply Kd.R_drew)); exact Kd.R_mono HO371.out (fun _ hk => trivial)⟩, ⟨by (with_reducible repeat (first | apply Kd.V_alloc | apply Kd.V_drewN | apply Kd.V_drew)); exact Kd.V_mono HO381.out (fun _ hk => ⟨hk.1.1.1, ⟨hk.1.1.2.2.1, ⟨hk.1.1.2.2.2.1, ⟨hk.1.1.2.2.2.2, hk.2⟩⟩⟩⟩)⟩, ⟨by (with_reducible repeat (first | apply Kd.V_alloc | apply Kd.V_drewN | apply Kd.V_drew)); exact Kd.V_mono HO390.out (fun _ hk => ⟨hk.1.2.1, ⟨hk.1.2.2.2.1, ⟨hk.1.2.2.2.2.1, ⟨hk.1.2.2.2.2.2, hk.2⟩⟩⟩⟩)⟩, ⟨by (with_reducible repeat (first | refine blk_drewN ?_ _ | refine blk_drew ?_ | refine blk_alloc ?_ _)); exact BK373.out⟩, ⟨by (with_reducible repeat (first | refine blk_drewN ?_ _ | refine blk_drew ?_ | refine blk_alloc ?_ _)); exact BK374.out⟩, ⟨by (with_reducible repeat (first | refine blk_drewN ?_ _ | refine blk_drew ?_ | refine blk_alloc ?_ _)); exact BK383.out⟩, ⟨by (with_reducible repeat (first | refine blk_drewN ?_ _ | refine blk_drew ?_ | refine blk_alloc ?_ _)); exact BK392.out⟩, ⟨by repeat (first | (with_reducible first | exact HB.out | apply below_alloc | apply pw_below_drewN | apply below_drew1 | refine below_set ?_ GE373.out | refine below_set ?_ GE374.out | refine below_set ?_ GE383.out | refine below_set ?_ GE392.out) | exact HB.out)⟩⟩
   ·
    rw [if_neg c32] at H
    have c32b0 : (t393 == 0) = false := beq_eq_false_iff_ne.mpr c32
    have c32b1 : (t393 != 0) = true := bne_iff_ne.mpr c32
    (first | rw [c32b0] | (simp only [i64_w, i32_w]; rw [c32b0]) | skip)
    have H' := Aside0.mk H
    clear H
    have hnb112 := NB374_373.out
    have hnc112 := NB373_374.out
    have hnb113 := NB374_383.out
    have hnc113 := NB383_374.out
    have hnb114 := NB374_392.out
    have hnc114 := NB392_374.out
    have hcz115_0 : w25.cell? ⟨gb374, 0, none⟩ = some (.int .i64 0) := (blk_cell BK374.out 0).trans rfl
    have hcz115_1 : w25.cell? ⟨gb374, 1, none⟩ = some (.slice none 0 0) := (blk_cell BK374.out 1).trans rfl
    have hfz115_0 := blk_frozen BK374.out 0
    have hfz115_1 := blk_frozen BK374.out 1
    go_wp2_with (first | ((with_reducible refine gate_callee (f := 17) rfl ?_); refine goesL_ (some 32) rfl rfl Try.func17 (by kernel_rfl) rfl #[.agg #[.int .i64 0, .slice none 0 0]] rfl (by (try simp only [List.map_toArray, List.map_cons, List.map_nil]); first | done | rfl | (simp only [List.length_drop, List.length_take]; rfl)) ?_; (refine (alloc_Map_Slots.calls 0 _ _ ([] : List (S53)) t393 _ ?side1 ?side2 A31.out).mono ?_); (case side1 => exact Kd.C_nil _ _); (case side2 => exact Nat.le_refl _); rintro e w116 ⟨rfl, hb⟩; refine ⟨_, rfl, ?_⟩; replace HO371 := Aside0.mk (Kd.R_below (rU (Kd.R_mono (Kd.R_far (p := ⟨gb392, 1, none⟩) (Kd.R_far (p := ⟨gb392, 0, none⟩) (Kd.R_types HO371.out BK392.out (by decide)) (fun _ hk => hk.2) (.int .i64 t387)) (fun _ hk => hk.2) (.slice Ao30 t388.length co30)) (fun _ h_ => h_.1))) hb); replace HO377 := Aside0.mk (Kd.R_below (rU (Kd.R_mono (Kd.R_far (p := ⟨gb392, 1, none⟩) (Kd.R_far (p := ⟨gb392, 0, none⟩) (Kd.R_types HO377.out BK392.out (by decide)) (fun _ hk => hk.2) (.int .i64 t387)) (fun _ hk => hk.2) (.slice Ao30 t388.length co30)) (fun _ h_ => h_.1))) hb); replace HO381 := Aside0.mk (Kd.V_below (by (with_reducible repeat (first | apply Kd.V_alloc | apply Kd.V_drewN | apply Kd.V_drew)); exact (Kd.V_mono (Kd.V_far (p := ⟨gb392, 1, none⟩) (Kd.V_far (p := ⟨gb392, 0, none⟩) (Kd.V_mono HO381.out (fun k_ hk => (⟨hk, hk.2⟩ : _ ∧ k_ ≠ gb392))) (fun _ hk => hk.2) (.int .i64 t387)) (fun _ hk => hk.2) (.slice Ao30 t388.length co30)) (fun _ h_ => h_.1))) hb); replace HO386 := Aside0.mk (Kd.R_below (rU (Kd.R_mono (Kd.R_far (p := ⟨gb392, 1, none⟩) (Kd.R_far (p := ⟨gb392, 0, none⟩) (Kd.R_types HO386.out BK392.out (by decide)) (fun _ hk => hk.2) (.int .i64 t387)) (fun _ hk => hk.2) (.slice Ao30 t388.length co30)) (fun _ h_ => h_.1))) hb); replace HO390 := Aside0.mk (Kd.V_below (by (with_reducible repeat (first | apply Kd.V_alloc | apply Kd.V_drewN | apply Kd.V_drew)); exact (Kd.V_mono (Kd.V_far (p := ⟨gb392, 1, none⟩) (Kd.V_far (p := ⟨gb392, 0, none⟩) (Kd.V_mono HO390.out (fun k_ hk => (⟨hk, hk.2⟩ : _ ∧ k_ ≠ gb392))) (fun _ hk => hk.2) (.int .i64 t387)) (fun _ hk => hk.2) (.slice Ao30 t388.length co30)) (fun _ h_ => h_.1))) hb); replace BK373 := Aside0.mk (blk_below (g := gb373) (o := .cells #[.int .i64 t368, .slice Ao12 t369.length co12] 26 (0, 0)) (by (with_reducible repeat (first | refine blk_drewN ?_ _ | refine blk_drew ?_ | refine blk_alloc ?_ _)); refine blk_far ?_ NB373_392.out _; (with_reducible repeat (first | refine blk_drewN ?_ _ | refine blk_drew ?_ | refine blk_alloc ?_ _)); refine blk_far ?_ NB373_392.out _; (with_reducible repeat (first | refine blk_drewN ?_ _ | refine blk_drew ?_ | refine blk_alloc ?_ _)); exact BK373.out) hb); replace BK374 := Aside0.mk (blk_below (g := gb374) (o := .cells #[.int .i64 0, .slice none 0 0] 26 (0, 0)) (by (with_reducible repeat (first | refine blk_drewN ?_ _ | refine blk_drew ?_ | refine blk_alloc ?_ _)); refine blk_far ?_ NB374_392.out _; (with_reducible repeat (first | refine blk_drewN ?_ _ | refine blk_drew ?_ | refine blk_alloc ?_ _)); refine blk_far ?_ NB374_392.out _; (with_reducible repeat (first | refine blk_drewN ?_ _ | refine blk_drew ?_ | refine blk_alloc ?_ _)); exact BK374.out) hb); replace BK383 := Aside0.mk (blk_below (g := gb383) (o := .cells #[.int .i64 t378, .slice Ao21 t379.length co21] 26 (0, 0)) (by (with_reducible repeat (first | refine blk_drewN ?_ _ | refine blk_drew ?_ | refine blk_alloc ?_ _)); refine blk_far ?_ NB383_392.out _; (with_reducible repeat (first | refine blk_drewN ?_ _ | refine blk_drew ?_ | refine blk_alloc ?_ _)); refine blk_far ?_ NB383_392.out _; (with_reducible repeat (first | refine blk_drewN ?_ _ | refine blk_drew ?_ | refine blk_alloc ?_ _)); exact BK383.out) hb); replace BK392 := Aside0.mk (blk_below (g := gb392) (o := .cells #[.int .i64 t387, .slice Ao30 t388.length co30] 26 (0, 0)) (by (with_reducible repeat (first | refine blk_drewN ?_ _ | refine blk_drew ?_ | refine blk_alloc ?_ _)); refine blk_put (cs := #[.int .i64 t387, .slice none 0 0]) ?_ 1 _ rfl; (with_reducible repeat (first | refine blk_drewN ?_ _ | refine blk_drew ?_ | refine blk_alloc ?_ _)); refine blk_put (cs := #[.int .i64 0, .slice none 0 0]) ?_ 0 _ rfl; (with_reducible repeat (first | refine blk_drewN ?_ _ | refine blk_drew ?_ | refine blk_alloc ?_ _)); exact BK392.out) hb); replace HB := Aside0.mk (below_step (by repeat (first | (with_reducible first | exact HB.out | apply below_alloc | apply pw_below_drewN | apply below_drew1 | refine below_set ?_ GE373.out | refine below_set ?_ GE374.out | refine below_set ?_ GE383.out | refine below_set ?_ GE392.out) | exact HB.out)) hb); (try clear hb); (try clear hk)))
    go_meet
    case rel => exact ⟨_, (true), (by first | rfl | (simp; done) | (simp [*]; done)), H', ⟨by first | omega | exact Nat.le_refl _⟩, ⟨by (with_reducible repeat (first | apply Kd.R_alloc | apply Kd.R_drewN | apply Kd.R_drew)); exact Kd.R_mono HO371.out (fun _ hk => trivial)⟩, ⟨by (with_reducible repeat (first | apply Kd.V_alloc | apply Kd.V_drewN | apply Kd.V_drew)); exact Kd.V_mono HO381.out (fun _ hk => ⟨hk.1.1.1, ⟨hk.1.1.2.2.1, ⟨hk.1.1.2.2.2.1, ⟨hk.1.1.2.2.2.2, hk.2⟩⟩⟩⟩)⟩, ⟨by (with_reducible repeat (first | apply Kd.V_alloc | apply Kd.V_drewN | apply Kd.V_drew)); exact Kd.V_mono HO390.out (fun _ hk => ⟨hk.1.2.1, ⟨hk.1.2.2.2.1, ⟨hk.1.2.2.2.2.1, ⟨hk.1.2.2.2.2.2, hk.2⟩⟩⟩⟩)⟩, ⟨by (with_reducible repeat (first | refine blk_drewN ?_ _ | refine blk_drew ?_ | refine blk_alloc ?_ _)); exact BK373.out⟩, ⟨by (with_reducible repeat (first | refine blk_drewN ?_ _ | refine blk_drew ?_ | refine blk_alloc ?_ _)); exact BK374.out⟩, ⟨by (with_reducible repeat (first | refine blk_drewN ?_ _ | refine blk_drew ?_ | refine blk_alloc ?_ _)); exact BK383.out⟩, ⟨by (with_reducible repeat (first | refine blk_drewN ?_ _ | refine blk_drew ?_ | refine blk_alloc ?_ _)); exact BK392.out⟩, ⟨by repeat (first | (with_reducible first | exact HB.out | apply below_alloc | apply pw_below_drewN | apply below_drew1 | refine below_set ?_ GE373.out | refine below_set ?_ GE374.out | refine below_set ?_ GE383.out | refine below_set ?_ GE392.out) | exact HB.out)⟩⟩
  case rest =>
   clear HC7
   try clear c1
   try clear c2
   try clear p2
   try clear c3
   try clear c4
   try clear c5
   try clear c7
   try clear c8
   try clear c9
   try clear c10
   try clear c11
   try clear c12
   try clear c14
   try clear c17
   try clear c18
   try clear c19
   try clear c26
   try clear c27
   try clear c28
   try clear c32
   try clear c32b0
   try clear c32b1
   try clear c34
   try clear c34b0
   try clear c34b1
   try clear c36
   try clear c36b0
   try clear c36b1
   try clear c38
   try clear c38b0
   try clear c38b1
   try clear c38b2
   try clear c40
   try clear c41
   try clear c42
   try clear c43
   try clear c55
   try clear c55b0
   try clear c55b1
   try clear c56
   try clear c57
   try clear c58
   try clear c70
   try clear c71
   try clear c72
   try clear c84
   try clear c85
   try clear c86
   try clear c96
   try clear c97
   try clear c98
   try clear c105
   try clear c106
   try clear c107
   try clear c112
   try clear c113
   try clear c114
   try clear hcz101_0
   try clear hcz101_1
   try clear hcz103_0
   try clear hcz103_1
   try clear hcz108_0
   try clear hcz108_1
   try clear hcz110_0
   try clear hcz110_1
   try clear hcz115_0
   try clear hcz115_1
   try clear hcz11_0
   try clear hcz11_1
   try clear hcz15_0
   try clear hcz15_1
   try clear hcz20_0
   try clear hcz20_1
   try clear hcz23_0
   try clear hcz23_1
   try clear hcz29_0
   try clear hcz29_1
   try clear hcz44_0
   try clear hcz44_1
   try clear hcz46_0
   try clear hcz46_1
   try clear hcz48_0
   try clear hcz48_1
   try clear hcz50_0
   try clear hcz50_1
   try clear hcz53_0
   try clear hcz53_1
   try clear hcz59_0
   try clear hcz59_1
   try clear hcz61_0
   try clear hcz61_1
   try clear hcz63_0
   try clear hcz63_1
   try clear hcz65_0
   try clear hcz65_1
   try clear hcz68_0
   try clear hcz68_1
   try clear hcz73_0
   try clear hcz73_1
   try clear hcz75_0
   try clear hcz75_1
   try clear hcz77_0
   try clear hcz77_1
   try clear hcz79_0
   try clear hcz79_1
   try clear hcz82_0
   try clear hcz82_1
   try clear hcz87_0
   try clear hcz87_1
   try clear hcz89_0
   try clear hcz89_1
   try clear hcz91_0
   try clear hcz91_1
   try clear hcz93_0
   try clear hcz93_1
   try clear hcz99_0
   try clear hcz99_1
   try clear hfz101_0
   try clear hfz101_1
   try clear hfz103_0
   try clear hfz103_1
   try clear hfz108_0
   try clear hfz108_1
   try clear hfz110_0
   try clear hfz110_1
   try clear hfz115_0
   try clear hfz115_1
   try clear hfz11_0
   try clear hfz11_1
   try clear hfz15_0
   try clear hfz15_1
   try clear hfz20_0
   try clear hfz20_1
   try clear hfz23_0
   try clear hfz23_1
   try clear hfz29_0
   try clear hfz29_1
   try clear hfz44_0
   try clear hfz44_1
   try clear hfz46_0
   try clear hfz46_1
   try clear hfz48_0
   try clear hfz48_1
   try clear hfz50_0
   try clear hfz50_1
   try clear hfz53_0
   try clear hfz53_1
   try clear hfz59_0
   try clear hfz59_1
   try clear hfz61_0
   try clear hfz61_1
   try clear hfz63_0
   try clear hfz63_1
   try clear hfz65_0
   try clear hfz65_1
   try clear hfz68_0
   try clear hfz68_1
   try clear hfz73_0
   try clear hfz73_1
   try clear hfz75_0
   try clear hfz75_1
   try clear hfz77_0
   try clear hfz77_1
   try clear hfz79_0
   try clear hfz79_1
   try clear hfz82_0
   try clear hfz82_1
   try clear hfz87_0
   try clear hfz87_1
   try clear hfz89_0
   try clear hfz89_1
   try clear hfz91_0
   try clear hfz91_1
   try clear hfz93_0
   try clear hfz93_1
   try clear hfz99_0
   try clear hfz99_1
   obtain ⟨kq, x61_6, rfl, HA, HJ6, HO_374001, HO_384001, HO_393001, BK373, BK374, BK383, BK392, HB⟩ := hcut
   cases kq with
   | zero => exact absurd HA.out (by simp [tegulalaw35_AllocNew.j0])
   | succ kj6 =>
    have H := HA.out
    clear HA
    simp only [tegulalaw35_AllocNew.j0] at H
    by_cases c117 : x61_6 = true
    ·
     subst c117
     have H1 : (some false) = some r := by rw [if_pos rfl] at H; exact H
     clear H
     have H := H1
     clear H1
     obtain rfl := Option.some.inj H
     go_wp2
     go_ret
     exact ⟨by first | rfl | (simp [errW_none, errW_some] <;> rfl) | (simp [*, errW_none, errW_some] <;> rfl), by repeat (first | (with_reducible first | exact HB.out | apply below_alloc | apply pw_below_drewN | apply below_drew1 | refine below_set ?_ GE373.out | refine below_set ?_ GE374.out | refine below_set ?_ GE383.out | refine below_set ?_ GE392.out) | exact HB.out)⟩
    ·
     replace c117 := Bool.eq_false_iff.mpr c117
     subst c117
     have H1 : (if a0 < 0 then (tegulalaw35_AllocNew.j1 kj6 a0 t372 true t368 t369) else (tegulalaw35_AllocNew.j1 kj6 a0 t372 (decide (a0 > 65536)) t368 t369)) = some r := by rw [if_neg (show ¬ (false = true) by decide)] at H; exact H
     clear H
     have H := H1
     clear H1
     have HC118 := Aside0.mk H
     clear H
     go_upto_region 9 with (fail)
     go_cut [67] (fun v67 wc => ∃ (kq : Nat) (x67_117 : Bool), v67 = .bool x67_117 ∧ Aside0 (tegulalaw35_AllocNew.j1 kq a0 t372 x67_117 t368 t369 = some r) ∧ Aside0 (kq ≤ kj6) ∧ Aside0 (Kd.R k53 53 wc w.heap.size (fun _ => True) (.slice Ao12 t369.length co12) t369) ∧ Aside0 (Kd.V k53 53 wc w.heap.size (fun k_ => some k_ ≠ ((.slice Ao12 t369.length co12) : Value).ownBlock ∧ k_ ≠ gb373 ∧ k_ ≠ gb374 ∧ k_ ≠ gb383 ∧ k_ ≠ gb392) (.slice Ao21 t379.length co21) t379) ∧ Aside0 (Kd.V k53 53 wc w.heap.size (fun k_ => some k_ ≠ ((.slice Ao12 t369.length co12) : Value).ownBlock ∧ k_ ≠ gb373 ∧ k_ ≠ gb374 ∧ k_ ≠ gb383 ∧ k_ ≠ gb392) (.slice Ao30 t388.length co30) t388) ∧ Aside0 (wc.heap[gb373]? = some (.cells #[.int .i64 t368, (.slice Ao12 t369.length co12)] 26 (0, 0))) ∧ Aside0 (wc.heap[gb374]? = some (.cells #[.int .i64 0, (.slice none 0 0)] 26 (0, 0))) ∧ Aside0 (wc.heap[gb383]? = some (.cells #[.int .i64 t378, (.slice Ao21 t379.length co21)] 26 (0, 0))) ∧ Aside0 (wc.heap[gb392]? = some (.cells #[.int .i64 t387, (.slice Ao30 t388.length co30)] 26 (0, 0))) ∧ Aside0 (Below w.heap.size w wc))
     case first =>
      have H := HC118.out
      clear HC118
      by_cases c119 : a0 < 0
      ·
       rw [if_pos c119] at H
       have c119b0 := decide_eq_true c119
       clear c119
       (first | rw [c119b0] | (simp only [i64_w, i32_w]; rw [c119b0]) | skip)
       have H' := Aside0.mk H
       clear H
       go_wp2
       go_meet
       case rel => exact ⟨_, (true), (by first | rfl | (simp; done) | (simp [*]; done)), H', ⟨by have := HJ6.out; first | omega | exact Nat.le_refl _⟩, ⟨rU HO_374001.out⟩, ⟨by (with_reducible repeat (first | apply Kd.V_alloc | apply Kd.V_drewN | apply Kd.V_drew)); exact HO_384001.out⟩, ⟨by (with_reducible repeat (first | apply Kd.V_alloc | apply Kd.V_drewN | apply Kd.V_drew)); exact HO_393001.out⟩, ⟨by (with_reducible repeat (first | refine blk_drewN ?_ _ | refine blk_drew ?_ | refine blk_alloc ?_ _)); exact BK373.out⟩, ⟨by (with_reducible repeat (first | refine blk_drewN ?_ _ | refine blk_drew ?_ | refine blk_alloc ?_ _)); exact BK374.out⟩, ⟨by (with_reducible repeat (first | refine blk_drewN ?_ _ | refine blk_drew ?_ | refine blk_alloc ?_ _)); exact BK383.out⟩, ⟨by (with_reducible repeat (first | refine blk_drewN ?_ _ | refine blk_drew ?_ | refine blk_alloc ?_ _)); exact BK392.out⟩, ⟨by repeat (first | (with_reducible first | exact HB.out | apply below_alloc | apply pw_below_drewN | apply below_drew1 | refine below_set ?_ GE373.out | refine below_set ?_ GE374.out | refine below_set ?_ GE383.out | refine below_set ?_ GE392.out) | exact HB.out)⟩⟩
      ·
       rw [if_neg c119] at H
       have c119b0 := decide_eq_false c119
       clear c119
       (first | rw [c119b0] | (simp only [i64_w, i32_w]; rw [c119b0]) | skip)
       have H' := Aside0.mk H
       clear H
       go_wp2
       go_meet
       case rel => exact ⟨_, (decide (a0 > 65536)), (by first | rfl | (simp; done) | (simp [*]; done)), H', ⟨by have := HJ6.out; first | omega | exact Nat.le_refl _⟩, ⟨rU HO_374001.out⟩, ⟨by (with_reducible repeat (first | apply Kd.V_alloc | apply Kd.V_drewN | apply Kd.V_drew)); exact HO_384001.out⟩, ⟨by (with_reducible repeat (first | apply Kd.V_alloc | apply Kd.V_drewN | apply Kd.V_drew)); exact HO_393001.out⟩, ⟨by (with_reducible repeat (first | refine blk_drewN ?_ _ | refine blk_drew ?_ | refine blk_alloc ?_ _)); exact BK373.out⟩, ⟨by (with_reducible repeat (first | refine blk_drewN ?_ _ | refine blk_drew ?_ | refine blk_alloc ?_ _)); exact BK374.out⟩, ⟨by (with_reducible repeat (first | refine blk_drewN ?_ _ | refine blk_drew ?_ | refine blk_alloc ?_ _)); exact BK383.out⟩, ⟨by (with_reducible repeat (first | refine blk_drewN ?_ _ | refine blk_drew ?_ | refine blk_alloc ?_ _)); exact BK392.out⟩, ⟨by repeat (first | (with_reducible first | exact HB.out | apply below_alloc | apply pw_below_drewN | apply below_drew1 | refine below_set ?_ GE373.out | refine below_set ?_ GE374.out | refine below_set ?_ GE383.out | refine below_set ?_ GE392.out) | exact HB.out)⟩⟩
     case rest =>
      clear HC118
      try clear c1
      try clear c2
      try clear p2
      try clear c3
      try clear c4
      try clear c5
      try clear c7
      try clear c8
      try clear c9
      try clear c10
      try clear c11
      try clear c12
      try clear c14
      try clear c17
      try clear c18
      try clear c19
      try clear c26
      try clear c27
      try clear c28
      try clear c32
      try clear c32b0
      try clear c32b1
      try clear c34
      try clear c34b0
      try clear c34b1
      try clear c36
      try clear c36b0
      try clear c36b1
      try clear c38
      try clear c38b0
      try clear c38b1
      try clear c38b2
      try clear c40
      try clear c41
      try clear c42
      try clear c43
      try clear c55
      try clear c55b0
      try clear c55b1
      try clear c56
      try clear c57
      try clear c58
      try clear c70
      try clear c71
      try clear c72
      try clear c84
      try clear c85
      try clear c86
      try clear c96
      try clear c97
      try clear c98
      try clear c105
      try clear c106
      try clear c107
      try clear c112
      try clear c113
      try clear c114
      try clear c117
      try clear c119
      try clear c119b0
      try clear hcz101_0
      try clear hcz101_1
      try clear hcz103_0
      try clear hcz103_1
      try clear hcz108_0
      try clear hcz108_1
      try clear hcz110_0
      try clear hcz110_1
      try clear hcz115_0
      try clear hcz115_1
      try clear hcz11_0
      try clear hcz11_1
      try clear hcz15_0
      try clear hcz15_1
      try clear hcz20_0
      try clear hcz20_1
      try clear hcz23_0
      try clear hcz23_1
      try clear hcz29_0
      try clear hcz29_1
      try clear hcz44_0
      try clear hcz44_1
      try clear hcz46_0
      try clear hcz46_1
      try clear hcz48_0
      try clear hcz48_1
      try clear hcz50_0
      try clear hcz50_1
      try clear hcz53_0
      try clear hcz53_1
      try clear hcz59_0
      try clear hcz59_1
      try clear hcz61_0
      try clear hcz61_1
      try clear hcz63_0
      try clear hcz63_1
      try clear hcz65_0
      try clear hcz65_1
      try clear hcz68_0
      try clear hcz68_1
      try clear hcz73_0
      try clear hcz73_1
      try clear hcz75_0
      try clear hcz75_1
      try clear hcz77_0
      try clear hcz77_1
      try clear hcz79_0
      try clear hcz79_1
      try clear hcz82_0
      try clear hcz82_1
      try clear hcz87_0
      try clear hcz87_1
      try clear hcz89_0
      try clear hcz89_1
      try clear hcz91_0
      try clear hcz91_1
      try clear hcz93_0
      try clear hcz93_1
      try clear hcz99_0
      try clear hcz99_1
      try clear hfz101_0
      try clear hfz101_1
      try clear hfz103_0
      try clear hfz103_1
      try clear hfz108_0
      try clear hfz108_1
      try clear hfz110_0
      try clear hfz110_1
      try clear hfz115_0
      try clear hfz115_1
      try clear hfz11_0
      try clear hfz11_1
      try clear hfz15_0
      try clear hfz15_1
      try clear hfz20_0
      try clear hfz20_1
      try clear hfz23_0
      try clear hfz23_1
      try clear hfz29_0
      try clear hfz29_1
      try clear hfz44_0
      try clear hfz44_1
      try clear hfz46_0
      try clear hfz46_1
      try clear hfz48_0
      try clear hfz48_1
      try clear hfz50_0
      try clear hfz50_1
      try clear hfz53_0
      try clear hfz53_1
      try clear hfz59_0
      try clear hfz59_1
      try clear hfz61_0
      try clear hfz61_1
      try clear hfz63_0
      try clear hfz63_1
      try clear hfz65_0
      try clear hfz65_1
      try clear hfz68_0
      try clear hfz68_1
      try clear hfz73_0
      try clear hfz73_1
      try clear hfz75_0
      try clear hfz75_1
      try clear hfz77_0
      try clear hfz77_1
      try clear hfz79_0
      try clear hfz79_1
      try clear hfz82_0
      try clear hfz82_1
      try clear hfz87_0
      try clear hfz87_1
      try clear hfz89_0
      try clear hfz89_1
      try clear hfz91_0
      try clear hfz91_1
      try clear hfz93_0
      try clear hfz93_1
      try clear hfz99_0
      try clear hfz99_1
      try clear p2
      obtain ⟨kq, x67_117, rfl, HA, HJ117, HO_374001, HO_384001, HO_393001, BK373, BK374, BK383, BK392, HB⟩ := hcut
      cases kq with
      | zero => exact absurd HA.out (by simp [tegulalaw35_AllocNew.j1])
      | succ kj117 =>
       have H := HA.out
       clear HA
       simp only [tegulalaw35_AllocNew.j1] at H
       by_cases c120 : x67_117 = true
       ·
        subst c120
        have H1 : (some (t372 == 1)) = some r := by rw [if_pos rfl] at H; exact H
        clear H
        have H := H1
        clear H1
        obtain rfl := Option.some.inj H
        go_wp2
        go_ret
        exact ⟨by first | rfl | (simp [errW_none, errW_some] <;> rfl) | (simp [*, errW_none, errW_some] <;> rfl), by repeat (first | (with_reducible first | exact HB.out | apply below_alloc | apply pw_below_drewN | apply below_drew1 | refine below_set ?_ GE373.out | refine below_set ?_ GE374.out | refine below_set ?_ GE383.out | refine below_set ?_ GE392.out) | exact HB.out)⟩
       ·
        replace c120 := Bool.eq_false_iff.mpr c120
        subst c120
        have H1 : (if t372 = 0 then ((alloc_Map_Slots.f t368 t369).bind fun t400 => (if t400 = a0 then ((alloc_Map_Free.f kj117 t368 t369).bind fun t401 => (if t401 = a0 then ((alloc_Map_Largest.f kj117 t368 t369).bind fun t402 => (some (t402 == a0))) else (some false))) else (some false))) else (some false)) = some r := by rw [if_neg (show ¬ (false = true) by decide)] at H; exact H
        clear H
        have H := H1
        clear H1
        by_cases c121 : t372 = 0
        ·
         rw [if_pos c121] at H
         have c121b0 : (t372 == 0) = true := beq_iff_eq.mpr c121
         have c121b1 : (t372 != 0) = false := bne_eq_false_iff_eq.mpr c121
         clear c121
         replace H := Option.bind_eq_some_iff.mp H
         obtain ⟨t400, A1220, H⟩ := H
         replace H : (if t400 = a0 then ((alloc_Map_Free.f kj117 t368 t369).bind fun t401 => (if t401 = a0 then ((alloc_Map_Largest.f kj117 t368 t369).bind fun t402 => (some (t402 == a0))) else (some false))) else (some false)) = some r := H
         have A122 := Aside0.mk A1220
         clear A1220
         by_cases c123 : t400 = a0
         ·
          rw [if_pos c123] at H
          have c123b0 : (t400 == a0) = true := beq_iff_eq.mpr c123
          have c123b1 : (t400 != a0) = false := bne_eq_false_iff_eq.mpr c123
          clear c123
          replace H := Option.bind_eq_some_iff.mp H
          obtain ⟨t401, A1240, H⟩ := H
          replace H : (if t401 = a0 then ((alloc_Map_Largest.f kj117 t368 t369).bind fun t402 => (some (t402 == a0))) else (some false)) = some r := H
          have A124 := Aside0.mk A1240
          clear A1240
          by_cases c125 : t401 = a0
          ·
           rw [if_pos c125] at H
           have c125b0 : (t401 == a0) = true := beq_iff_eq.mpr c125
           have c125b1 : (t401 != a0) = false := bne_eq_false_iff_eq.mpr c125
           clear c125
           replace H := Option.bind_eq_some_iff.mp H
           obtain ⟨t402, A1260, H⟩ := H
           replace H : (some (t402 == a0)) = some r := H
           have A126 := Aside0.mk A1260
           clear A1260
           obtain rfl := Option.some.inj H
           have hnb127 := NB373_374.out
           have hnc127 := NB374_373.out
           have hnb128 := NB373_383.out
           have hnc128 := NB383_373.out
           have hnb129 := NB373_392.out
           have hnc129 := NB392_373.out
           have hcz130_0 : wc.cell? ⟨gb373, 0, none⟩ = some (.int .i64 t368) := (blk_cell BK373.out 0).trans rfl
           have hcz130_1 : wc.cell? ⟨gb373, 1, none⟩ = some (.slice Ao12 t369.length co12) := (blk_cell BK373.out 1).trans rfl
           have hfz130_0 := blk_frozen BK373.out 0
           have hfz130_1 := blk_frozen BK373.out 1
           go_wp2_with (first | (go_at_call 17; (with_reducible refine (alloc_Map_Slots.calls t368 _ _ t369 t400 _ ?side1 ?side2 A122.out).mono ?_); (case side1 => repeat (first | exact (Kd.R_reads' HO_374001.out).2.2 | (with_reducible refine Kd.C_alloc ?_ _) | (with_reducible refine Kd.C_drewN ?_ _) | (with_reducible refine Kd.C_drew ?_))); (case side2 => exact (Kd.R_reads' HO_374001.out).2.1); rintro e w131 ⟨rfl, hb⟩; replace HO_374001 := Aside0.mk (Kd.R_below (rU HO_374001.out) hb); replace HO_384001 := Aside0.mk (Kd.V_below (by (with_reducible repeat (first | apply Kd.V_alloc | apply Kd.V_drewN | apply Kd.V_drew)); exact HO_384001.out) hb); replace HO_393001 := Aside0.mk (Kd.V_below (by (with_reducible repeat (first | apply Kd.V_alloc | apply Kd.V_drewN | apply Kd.V_drew)); exact HO_393001.out) hb); replace BK373 := Aside0.mk (blk_below (g := gb373) (o := .cells #[.int .i64 t368, .slice Ao12 t369.length co12] 26 (0, 0)) (kU BK373.out) hb); replace BK374 := Aside0.mk (blk_below (g := gb374) (o := .cells #[.int .i64 0, .slice none 0 0] 26 (0, 0)) (kU BK374.out) hb); replace BK383 := Aside0.mk (blk_below (g := gb383) (o := .cells #[.int .i64 t378, .slice Ao21 t379.length co21] 26 (0, 0)) (kU BK383.out) hb); replace BK392 := Aside0.mk (blk_below (g := gb392) (o := .cells #[.int .i64 t387, .slice Ao30 t388.length co30] 26 (0, 0)) (kU BK392.out) hb); replace HB := Aside0.mk (below_step (by repeat (first | (with_reducible first | exact HB.out | apply below_alloc | apply pw_below_drewN | apply below_drew1 | refine below_set ?_ GE373.out | refine below_set ?_ GE374.out | refine below_set ?_ GE383.out | refine below_set ?_ GE392.out) | exact HB.out)) hb); (try clear hb); have hcz132_0 : w131.cell? ⟨gb373, 0, none⟩ = some (.int .i64 t368) := (blk_cell BK373.out 0).trans rfl; have hcz132_1 : w131.cell? ⟨gb373, 1, none⟩ = some (.slice Ao12 t369.length co12) := (blk_cell BK373.out 1).trans rfl; have hfz132_0 := blk_frozen BK373.out 0; have hfz132_1 := blk_frozen BK373.out 1) | (go_at_call 15; (with_reducible refine (alloc_Map_Free.calls kj117 t368 _ _ t369 t401 _ ?side1 ?side2 A124.out).mono ?_); (case side1 => repeat (first | exact (Kd.R_reads' HO_374001.out).2.2 | (with_reducible refine Kd.C_alloc ?_ _) | (with_reducible refine Kd.C_drewN ?_ _) | (with_reducible refine Kd.C_drew ?_))); (case side2 => exact (Kd.R_reads' HO_374001.out).2.1); rintro e w133 ⟨rfl, hb⟩; replace HO_374001 := Aside0.mk (Kd.R_below (rU HO_374001.out) hb); replace HO_384001 := Aside0.mk (Kd.V_below (by (with_reducible repeat (first | apply Kd.V_alloc | apply Kd.V_drewN | apply Kd.V_drew)); exact HO_384001.out) hb); replace HO_393001 := Aside0.mk (Kd.V_below (by (with_reducible repeat (first | apply Kd.V_alloc | apply Kd.V_drewN | apply Kd.V_drew)); exact HO_393001.out) hb); replace BK373 := Aside0.mk (blk_below (g := gb373) (o := .cells #[.int .i64 t368, .slice Ao12 t369.length co12] 26 (0, 0)) (kU BK373.out) hb); replace BK374 := Aside0.mk (blk_below (g := gb374) (o := .cells #[.int .i64 0, .slice none 0 0] 26 (0, 0)) (kU BK374.out) hb); replace BK383 := Aside0.mk (blk_below (g := gb383) (o := .cells #[.int .i64 t378, .slice Ao21 t379.length co21] 26 (0, 0)) (kU BK383.out) hb); replace BK392 := Aside0.mk (blk_below (g := gb392) (o := .cells #[.int .i64 t387, .slice Ao30 t388.length co30] 26 (0, 0)) (kU BK392.out) hb); replace HB := Aside0.mk (below_step (by repeat (first | (with_reducible first | exact HB.out | apply below_alloc | apply pw_below_drewN | apply below_drew1 | refine below_set ?_ GE373.out | refine below_set ?_ GE374.out | refine below_set ?_ GE383.out | refine below_set ?_ GE392.out) | exact HB.out)) hb); (try clear hb); have hcz134_0 : w133.cell? ⟨gb373, 0, none⟩ = some (.int .i64 t368) := (blk_cell BK373.out 0).trans rfl; have hcz134_1 : w133.cell? ⟨gb373, 1, none⟩ = some (.slice Ao12 t369.length co12) := (blk_cell BK373.out 1).trans rfl; have hfz134_0 := blk_frozen BK373.out 0; have hfz134_1 := blk_frozen BK373.out 1) | (go_at_call 16; (with_reducible refine (alloc_Map_Largest.calls kj117 t368 _ _ t369 t402 _ ?side1 ?side2 A126.out).mono ?_); (case side1 => repeat (first | exact (Kd.R_reads' HO_374001.out).2.2 | (with_reducible refine Kd.C_alloc ?_ _) | (with_reducible refine Kd.C_drewN ?_ _) | (with_reducible refine Kd.C_drew ?_))); (case side2 => exact (Kd.R_reads' HO_374001.out).2.1); rintro e w135 ⟨rfl, hb⟩; replace HO_374001 := Aside0.mk (Kd.R_below (rU HO_374001.out) hb); replace HO_384001 := Aside0.mk (Kd.V_below (by (with_reducible repeat (first | apply Kd.V_alloc | apply Kd.V_drewN | apply Kd.V_drew)); exact HO_384001.out) hb); replace HO_393001 := Aside0.mk (Kd.V_below (by (with_reducible repeat (first | apply Kd.V_alloc | apply Kd.V_drewN | apply Kd.V_drew)); exact HO_393001.out) hb); replace BK373 := Aside0.mk (blk_below (g := gb373) (o := .cells #[.int .i64 t368, .slice Ao12 t369.length co12] 26 (0, 0)) (kU BK373.out) hb); replace BK374 := Aside0.mk (blk_below (g := gb374) (o := .cells #[.int .i64 0, .slice none 0 0] 26 (0, 0)) (kU BK374.out) hb); replace BK383 := Aside0.mk (blk_below (g := gb383) (o := .cells #[.int .i64 t378, .slice Ao21 t379.length co21] 26 (0, 0)) (kU BK383.out) hb); replace BK392 := Aside0.mk (blk_below (g := gb392) (o := .cells #[.int .i64 t387, .slice Ao30 t388.length co30] 26 (0, 0)) (kU BK392.out) hb); replace HB := Aside0.mk (below_step (by repeat (first | (with_reducible first | exact HB.out | apply below_alloc | apply pw_below_drewN | apply below_drew1 | refine below_set ?_ GE373.out | refine below_set ?_ GE374.out | refine below_set ?_ GE383.out | refine below_set ?_ GE392.out) | exact HB.out)) hb); (try clear hb)))
           go_ret
           exact ⟨by first | rfl | (simp [errW_none, errW_some] <;> rfl) | (simp [*, errW_none, errW_some] <;> rfl), by repeat (first | (with_reducible first | exact HB.out | apply below_alloc | apply pw_below_drewN | apply below_drew1 | refine below_set ?_ GE373.out | refine below_set ?_ GE374.out | refine below_set ?_ GE383.out | refine below_set ?_ GE392.out) | exact HB.out)⟩
          ·
           rw [if_neg c125] at H
           have c125b0 : (t401 == a0) = false := beq_eq_false_iff_ne.mpr c125
           have c125b1 : (t401 != a0) = true := bne_iff_ne.mpr c125
           obtain rfl := Option.some.inj H
           have hnb136 := NB373_374.out
           have hnc136 := NB374_373.out
           have hnb137 := NB373_383.out
           have hnc137 := NB383_373.out
           have hnb138 := NB373_392.out
           have hnc138 := NB392_373.out
           have hcz139_0 : wc.cell? ⟨gb373, 0, none⟩ = some (.int .i64 t368) := (blk_cell BK373.out 0).trans rfl
           have hcz139_1 : wc.cell? ⟨gb373, 1, none⟩ = some (.slice Ao12 t369.length co12) := (blk_cell BK373.out 1).trans rfl
           have hfz139_0 := blk_frozen BK373.out 0
           have hfz139_1 := blk_frozen BK373.out 1
           go_wp2_with (first | (go_at_call 17; (with_reducible refine (alloc_Map_Slots.calls t368 _ _ t369 t400 _ ?side1 ?side2 A122.out).mono ?_); (case side1 => repeat (first | exact (Kd.R_reads' HO_374001.out).2.2 | (with_reducible refine Kd.C_alloc ?_ _) | (with_reducible refine Kd.C_drewN ?_ _) | (with_reducible refine Kd.C_drew ?_))); (case side2 => exact (Kd.R_reads' HO_374001.out).2.1); rintro e w140 ⟨rfl, hb⟩; replace HO_374001 := Aside0.mk (Kd.R_below (rU HO_374001.out) hb); replace HO_384001 := Aside0.mk (Kd.V_below (by (with_reducible repeat (first | apply Kd.V_alloc | apply Kd.V_drewN | apply Kd.V_drew)); exact HO_384001.out) hb); replace HO_393001 := Aside0.mk (Kd.V_below (by (with_reducible repeat (first | apply Kd.V_alloc | apply Kd.V_drewN | apply Kd.V_drew)); exact HO_393001.out) hb); replace BK373 := Aside0.mk (blk_below (g := gb373) (o := .cells #[.int .i64 t368, .slice Ao12 t369.length co12] 26 (0, 0)) (kU BK373.out) hb); replace BK374 := Aside0.mk (blk_below (g := gb374) (o := .cells #[.int .i64 0, .slice none 0 0] 26 (0, 0)) (kU BK374.out) hb); replace BK383 := Aside0.mk (blk_below (g := gb383) (o := .cells #[.int .i64 t378, .slice Ao21 t379.length co21] 26 (0, 0)) (kU BK383.out) hb); replace BK392 := Aside0.mk (blk_below (g := gb392) (o := .cells #[.int .i64 t387, .slice Ao30 t388.length co30] 26 (0, 0)) (kU BK392.out) hb); replace HB := Aside0.mk (below_step (by repeat (first | (with_reducible first | exact HB.out | apply below_alloc | apply pw_below_drewN | apply below_drew1 | refine below_set ?_ GE373.out | refine below_set ?_ GE374.out | refine below_set ?_ GE383.out | refine below_set ?_ GE392.out) | exact HB.out)) hb); (try clear hb); have hcz141_0 : w140.cell? ⟨gb373, 0, none⟩ = some (.int .i64 t368) := (blk_cell BK373.out 0).trans rfl; have hcz141_1 : w140.cell? ⟨gb373, 1, none⟩ = some (.slice Ao12 t369.length co12) := (blk_cell BK373.out 1).trans rfl; have hfz141_0 := blk_frozen BK373.out 0; have hfz141_1 := blk_frozen BK373.out 1) | (go_at_call 15; (with_reducible refine (alloc_Map_Free.calls kj117 t368 _ _ t369 t401 _ ?side1 ?side2 A124.out).mono ?_); (case side1 => repeat (first | exact (Kd.R_reads' HO_374001.out).2.2 | (with_reducible refine Kd.C_alloc ?_ _) | (with_reducible refine Kd.C_drewN ?_ _) | (with_reducible refine Kd.C_drew ?_))); (case side2 => exact (Kd.R_reads' HO_374001.out).2.1); rintro e w142 ⟨rfl, hb⟩; replace HO_374001 := Aside0.mk (Kd.R_below (rU HO_374001.out) hb); replace HO_384001 := Aside0.mk (Kd.V_below (by (with_reducible repeat (first | apply Kd.V_alloc | apply Kd.V_drewN | apply Kd.V_drew)); exact HO_384001.out) hb); replace HO_393001 := Aside0.mk (Kd.V_below (by (with_reducible repeat (first | apply Kd.V_alloc | apply Kd.V_drewN | apply Kd.V_drew)); exact HO_393001.out) hb); replace BK373 := Aside0.mk (blk_below (g := gb373) (o := .cells #[.int .i64 t368, .slice Ao12 t369.length co12] 26 (0, 0)) (kU BK373.out) hb); replace BK374 := Aside0.mk (blk_below (g := gb374) (o := .cells #[.int .i64 0, .slice none 0 0] 26 (0, 0)) (kU BK374.out) hb); replace BK383 := Aside0.mk (blk_below (g := gb383) (o := .cells #[.int .i64 t378, .slice Ao21 t379.length co21] 26 (0, 0)) (kU BK383.out) hb); replace BK392 := Aside0.mk (blk_below (g := gb392) (o := .cells #[.int .i64 t387, .slice Ao30 t388.length co30] 26 (0, 0)) (kU BK392.out) hb); replace HB := Aside0.mk (below_step (by repeat (first | (with_reducible first | exact HB.out | apply below_alloc | apply pw_below_drewN | apply below_drew1 | refine below_set ?_ GE373.out | refine below_set ?_ GE374.out | refine below_set ?_ GE383.out | refine below_set ?_ GE392.out) | exact HB.out)) hb); (try clear hb)))
           go_ret
           exact ⟨by first | rfl | (simp [errW_none, errW_some] <;> rfl) | (simp [*, errW_none, errW_some] <;> rfl), by repeat (first | (with_reducible first | exact HB.out | apply below_alloc | apply pw_below_drewN | apply below_drew1 | refine below_set ?_ GE373.out | refine below_set ?_ GE374.out | refine below_set ?_ GE383.out | refine below_set ?_ GE392.out) | exact HB.out)⟩
         ·
          rw [if_neg c123] at H
          have c123b0 : (t400 == a0) = false := beq_eq_false_iff_ne.mpr c123
          have c123b1 : (t400 != a0) = true := bne_iff_ne.mpr c123
          obtain rfl := Option.some.inj H
          have hnb143 := NB373_374.out
          have hnc143 := NB374_373.out
          have hnb144 := NB373_383.out
          have hnc144 := NB383_373.out
          have hnb145 := NB373_392.out
          have hnc145 := NB392_373.out
          have hcz146_0 : wc.cell? ⟨gb373, 0, none⟩ = some (.int .i64 t368) := (blk_cell BK373.out 0).trans rfl
          have hcz146_1 : wc.cell? ⟨gb373, 1, none⟩ = some (.slice Ao12 t369.length co12) := (blk_cell BK373.out 1).trans rfl
          have hfz146_0 := blk_frozen BK373.out 0
          have hfz146_1 := blk_frozen BK373.out 1
          go_wp2_with (first | (go_at_call 17; (with_reducible refine (alloc_Map_Slots.calls t368 _ _ t369 t400 _ ?side1 ?side2 A122.out).mono ?_); (case side1 => repeat (first | exact (Kd.R_reads' HO_374001.out).2.2 | (with_reducible refine Kd.C_alloc ?_ _) | (with_reducible refine Kd.C_drewN ?_ _) | (with_reducible refine Kd.C_drew ?_))); (case side2 => exact (Kd.R_reads' HO_374001.out).2.1); rintro e w147 ⟨rfl, hb⟩; replace HO_374001 := Aside0.mk (Kd.R_below (rU HO_374001.out) hb); replace HO_384001 := Aside0.mk (Kd.V_below (by (with_reducible repeat (first | apply Kd.V_alloc | apply Kd.V_drewN | apply Kd.V_drew)); exact HO_384001.out) hb); replace HO_393001 := Aside0.mk (Kd.V_below (by (with_reducible repeat (first | apply Kd.V_alloc | apply Kd.V_drewN | apply Kd.V_drew)); exact HO_393001.out) hb); replace BK373 := Aside0.mk (blk_below (g := gb373) (o := .cells #[.int .i64 t368, .slice Ao12 t369.length co12] 26 (0, 0)) (kU BK373.out) hb); replace BK374 := Aside0.mk (blk_below (g := gb374) (o := .cells #[.int .i64 0, .slice none 0 0] 26 (0, 0)) (kU BK374.out) hb); replace BK383 := Aside0.mk (blk_below (g := gb383) (o := .cells #[.int .i64 t378, .slice Ao21 t379.length co21] 26 (0, 0)) (kU BK383.out) hb); replace BK392 := Aside0.mk (blk_below (g := gb392) (o := .cells #[.int .i64 t387, .slice Ao30 t388.length co30] 26 (0, 0)) (kU BK392.out) hb); replace HB := Aside0.mk (below_step (by repeat (first | (with_reducible first | exact HB.out | apply below_alloc | apply pw_below_drewN | apply below_drew1 | refine below_set ?_ GE373.out | refine below_set ?_ GE374.out | refine below_set ?_ GE383.out | refine below_set ?_ GE392.out) | exact HB.out)) hb); (try clear hb)))
          go_ret
          exact ⟨by first | rfl | (simp [errW_none, errW_some] <;> rfl) | (simp [*, errW_none, errW_some] <;> rfl), by repeat (first | (with_reducible first | exact HB.out | apply below_alloc | apply pw_below_drewN | apply below_drew1 | refine below_set ?_ GE373.out | refine below_set ?_ GE374.out | refine below_set ?_ GE383.out | refine below_set ?_ GE392.out) | exact HB.out)⟩
        ·
         rw [if_neg c121] at H
         have c121b0 : (t372 == 0) = false := beq_eq_false_iff_ne.mpr c121
         have c121b1 : (t372 != 0) = true := bne_iff_ne.mpr c121
         obtain rfl := Option.some.inj H
         go_wp2
         go_ret
         exact ⟨by first | rfl | (simp [errW_none, errW_some] <;> rfl) | (simp [*, errW_none, errW_some] <;> rfl), by repeat (first | (with_reducible first | exact HB.out | apply below_alloc | apply pw_below_drewN | apply below_drew1 | refine below_set ?_ GE373.out | refine below_set ?_ GE374.out | refine below_set ?_ GE383.out | refine below_set ?_ GE392.out) | exact HB.out)⟩
 ·
  replace c3 := Bool.eq_false_iff.mpr c3
  subst c3
  have H1 : (some false) = some r := by rw [if_neg (show ¬ (false = true) by decide)] at H; exact H
  clear H
  have H := H1
  clear H1
  obtain rfl := Option.some.inj H
  go_enter Try.func4, Try.ntmps4
  go_wp2_with (first | ((with_reducible refine gate_callee (f := 10) rfl ?_); refine goesL_ (some 12) rfl rfl Try.func10 (by kernel_rfl) rfl #[] rfl (by (try simp only [List.map_toArray, List.map_cons, List.map_nil]); first | done | rfl | (simp only [List.length_drop, List.length_take]; rfl)) ?_; (with_reducible refine (tegulalaw35_awake.calls k  false _ A2.out).mono ?_); rintro e w148 ⟨rfl, hb⟩; refine ⟨_, rfl, ?_⟩; replace HB := Aside0.mk (below_step (bU HB.out) hb); (try clear hb)))
  go_ret
  exact ⟨by first | rfl | (simp [errW_none, errW_some] <;> rfl) | (simp [*, errW_none, errW_some] <;> rfl), bU HB.out⟩

/-- THE ONE PURE STATEMENT of tegulalaw35_AllocNew: yours. -/
def tegulalaw35_AllocNew.Pure : Prop := ∀ (a0 : Int), (Lit.int .i64 a0).wf = true → ∃ k, tegulalaw35_AllocNew.f k a0 = some true
theorem tegulalaw35_AllocNew.walk (P : tegulalaw35_AllocNew.Pure) (a0 : Int) (w : World) (w0 : (Lit.int .i64 a0).wf = true) :
  Calls Try.prog 4 #[.int .i64 a0] w fun e w' => e = .returned (.bool true) ∧ Below w.heap.size w w' := by
 obtain ⟨k, h⟩ := P a0 w0
 refine (tegulalaw35_AllocNew.calls k a0 true w h).mono ?_
 rintro e w' ⟨rfl, hd⟩
 exact ⟨rfl, hd⟩

end Go.Proofs.Ytcjpikjbjehjeaa.PAlloc
