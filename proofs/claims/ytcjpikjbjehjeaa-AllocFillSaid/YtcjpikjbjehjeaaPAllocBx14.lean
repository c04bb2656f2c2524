-- Written for this claim by a program of this session (wip/), out of the translation's own print: Lean checks it
import Derived.Test.YtcjpikjbjehjeaaPAllocBx0
import Derived.Test.YtcjpikjbjehjeaaWGuard
import Derived.Test.YtcjpikjbjehjeaaPAllocBx2
import Derived.Test.YtcjpikjbjehjeaaPAllocBx9
import Derived.Test.YtcjpikjbjehjeaaPAllocBx11
import Derived.Test.YtcjpikjbjehjeaaPAllocBx13
namespace Go.Proofs.Ytcjpikjbjehjeaa.PAllocB
open Go.RowKit Go.Proofs.YtcjpikjbjehjeaaW.PrintWords Go.Proofs.YtcjpikjbjehjeaaW.PrintLast Go.Proofs.YtcjpikjbjehjeaaW.PrintMore
attribute [local go_sem] max2_int min2_int max_two min_two max_three min_three max_four min_four   -- for this text's walks alone
set_option linter.unusedVariables false
set_option linter.unusedSimpArgs false

/-! ### tegulalaw35_same: function 24 -/
mutual
def tegulalaw35_same.j0 : Nat → List Bool → Bool → Int → List (S53) → Option (Bool)
 | 0, _, _, _, _ => none
 | k + 1, x1, x42, x416000, x416001 => if x42 = true then (some false) else (tegulalaw35_same.l0 k x1 0 x416000 x416001)
def tegulalaw35_same.l0 : Nat → List Bool → Int → Int → List (S53) → Option (Bool)
 | 0, _, _, _, _ => none
 | k + 1, x1, x5, x416000, x416001 => if x5 < (x1.length : Int) then ((alloc_Map_Is.f k x416000 x416001 x5).bind fun t430 => (if 0 ≤ x5 then (if (t430 == (rdOf false x1 x5)) = true then (some false) else (tegulalaw35_same.l0 k x1 (wrap64 (x5 + 1)) x416000 x416001)) else (none))) else (some true)
end
def tegulalaw35_same.f (k : Nat) (a0_0 : Int) (l0_1 : List (S53)) (l1 : List Bool) : Option (Bool) := (alloc_Map_Slots.f a0_0 l0_1).bind fun t416 => (if t416 = (l1.length : Int) then ((alloc_Map_Free.f k a0_0 l0_1).bind fun t417 => ((tegularef35_Map_Free.f k l1).bind fun t418 => (if t417 = t418 then ((alloc_Map_Largest.f k a0_0 l0_1).bind fun t419 => ((tegularef35_Map_Largest.f k l1).bind fun t420 => (if t419 = t420 then ((alloc_Map_Runs.f a0_0 l0_1).bind fun t421 => ((tegularef35_Map_Runs.f k l1).bind fun t424 => ((tegularef32_Same.f k t421 t424).bind fun t427 => (if t427 = true then ((alloc_Map_Is.f k a0_0 l0_1 (-1)).bind fun t428 => (if t428 = true then (tegulalaw35_same.j0 k l1 true a0_0 l0_1) else ((alloc_Map_Is.f k a0_0 l0_1 (l1.length : Int)).bind fun t429 => (tegulalaw35_same.j0 k l1 t429 a0_0 l0_1)))) else (tegulalaw35_same.j0 k l1 true a0_0 l0_1))))) else (tegulalaw35_same.j0 k l1 true a0_0 l0_1)))) else (tegulalaw35_same.j0 k l1 true a0_0 l0_1)))) else (tegulalaw35_same.j0 k l1 true a0_0 l0_1))
theorem tegulalaw35_same.mono_l : ∀ k, (∀ y0 y1 y2 y3, LeO (tegulalaw35_same.j0 k y0 y1 y2 y3) (tegulalaw35_same.j0 (k + 1) y0 y1 y2 y3)) ∧ (∀ y0 y1 y2 y3, LeO (tegulalaw35_same.l0 k y0 y1 y2 y3) (tegulalaw35_same.l0 (k + 1) y0 y1 y2 y3))
 | 0 => ⟨fun _ _ _ _ r h => by simp [tegulalaw35_same.j0] at h, fun _ _ _ _ r h => by simp [tegulalaw35_same.l0] at h⟩
 | k + 1 => by
  obtain ⟨ih0, ih1⟩ := tegulalaw35_same.mono_l k
  refine ⟨?_, ?_⟩
  all_goals (intros; (first | unfold tegulalaw35_same.j0 | unfold tegulalaw35_same.l0))
  all_goals repeat' first
  | (with_reducible exact ih0 _ _ _ _)
  | (with_reducible exact ih1 _ _ _ _)
  | (with_reducible exact alloc_Map_Free.mono _ _ _)
  | (with_reducible exact alloc_Map_Is.mono _ _ _ _)
  | (with_reducible exact alloc_Map_Largest.mono _ _ _)
  | (with_reducible exact tegularef32_Same.mono _ _ _)
  | (with_reducible exact tegularef35_Map_Free.mono _ _)
  | (with_reducible exact tegularef35_Map_Largest.mono _ _)
  | (with_reducible exact tegularef35_Map_Runs.mono _ _)
  | (with_reducible exact LeO.refl _)
  | (with_reducible exact LeO.none _)
  | (with_reducible refine LeO.ite ?_ ?_)
  | (with_reducible refine LeO.bind ?_ (fun _ => ?_))
  | exact ih0 _ _ _ _
  | exact ih1 _ _ _ _
  | exact alloc_Map_Free.mono _ _ _
  | exact alloc_Map_Is.mono _ _ _ _
  | exact alloc_Map_Largest.mono _ _ _
  | exact tegularef32_Same.mono _ _ _
  | exact tegularef35_Map_Free.mono _ _
  | exact tegularef35_Map_Largest.mono _ _
  | exact tegularef35_Map_Runs.mono _ _
  | exact LeO.none _
  | refine LeO.ite ?_ ?_
  | refine LeO.bind ?_ (fun _ => ?_)
theorem tegulalaw35_same.mono : ∀ a0 a1 a2 k, LeO (tegulalaw35_same.f k a0 a1 a2) (tegulalaw35_same.f (k + 1) a0 a1 a2) := by
 intro a0 a1 a2 k
 obtain ⟨ih0, ih1⟩ := tegulalaw35_same.mono_l k
 unfold tegulalaw35_same.f
 repeat' first
   | (with_reducible exact ih0 _ _ _ _)
   | (with_reducible exact ih1 _ _ _ _)
   | (with_reducible exact alloc_Map_Free.mono _ _ _)
   | (with_reducible exact alloc_Map_Is.mono _ _ _ _)
   | (with_reducible exact alloc_Map_Largest.mono _ _ _)
   | (with_reducible exact tegularef32_Same.mono _ _ _)
   | (with_reducible exact tegularef35_Map_Free.mono _ _)
   | (with_reducible exact tegularef35_Map_Largest.mono _ _)
   | (with_reducible exact tegularef35_Map_Runs.mono _ _)
   | (with_reducible exact LeO.refl _)
   | (with_reducible exact LeO.none _)
   | (with_reducible refine LeO.ite ?_ ?_)
   | (with_reducible refine LeO.bind ?_ (fun _ => ?_))
   | exact ih0 _ _ _ _
   | exact ih1 _ _ _ _
   | exact alloc_Map_Free.mono _ _ _
   | exact alloc_Map_Is.mono _ _ _ _
   | exact alloc_Map_Largest.mono _ _ _
   | exact tegularef32_Same.mono _ _ _
   | exact tegularef35_Map_Free.mono _ _
   | exact tegularef35_Map_Largest.mono _ _
   | exact tegularef35_Map_Runs.mono _ _
   | exact LeO.none _
   | refine LeO.ite ?_ ?_
   | refine LeO.bind ?_ (fun _ => ?_)
def tegulalaw35_same.T6 : Bool × List (List Nat × List Nat) := (true, [([], []), ([], []), ([0, 1], [0, 1]), ([], []), ([], []), ([3, 4], [3, 4]), ([5], [5]), ([2, 6], [2, 6])])
def tegulalaw35_same.B6 : List Nat := [0, 0, 3, 0, 0, 24, 56, 127]
theorem tegulalaw35_same.tab6 : rtab .any (opsOf Try.f24 6) = tegulalaw35_same.T6 := by kernel_rfl
theorem tegulalaw35_same.bits6 : waitsOk tegulalaw35_same.T6.2 tegulalaw35_same.B6 = true := by kernel_rfl
set_option maxHeartbeats 8000000 in
set_option maxRecDepth 100000 in
theorem tegulalaw35_same.calls (k : Nat) (a0_0 : Int) (A0_1 : Option Addr) (c0_1 : Nat) (l0_1 : List (S53)) (A1 : Option Addr) (c1 : Nat) (l1 : List Bool) (r : Bool) (w : World) (hr0_1 : Kd.C k53 w A0_1 l0_1.length l0_1) (hc0_1 : l0_1.length ≤ c0_1) (hr1 : Kd.C Kd.bool w A1 l1.length l1) (hc1 : l1.length ≤ c1) (h : tegulalaw35_same.f k a0_0 l0_1 l1 = some r) :
  Calls Try.prog 24 #[.agg #[.int .i64 a0_0, .slice A0_1 l0_1.length c0_1], .slice A1 l1.length c1] w fun e w' => e = .returned (.bool r) ∧ Below w.heap.size w w' := by
 have hu26 := Try.underlying26
 have HR0_1 := Aside0.mk hr0_1
 have HC0_1 := Aside0.mk hc0_1
 clear hr0_1 hc0_1
 have HR1 := Aside0.mk hr1
 have HC1 := Aside0.mk hc1
 clear hr1 hc1
 have HB := Aa (Below.refl w.heap.size w)
 have H : ((alloc_Map_Slots.f a0_0 l0_1).bind fun t416 => (if t416 = (l1.length : Int) then ((alloc_Map_Free.f k a0_0 l0_1).bind fun t417 => ((tegularef35_Map_Free.f k l1).bind fun t418 => (if t417 = t418 then ((alloc_Map_Largest.f k a0_0 l0_1).bind fun t419 => ((tegularef35_Map_Largest.f k l1).bind fun t420 => (if t419 = t420 then ((alloc_Map_Runs.f a0_0 l0_1).bind fun t421 => ((tegularef35_Map_Runs.f k l1).bind fun t424 => ((tegularef32_Same.f k t421 t424).bind fun t427 => (if t427 = true then ((alloc_Map_Is.f k a0_0 l0_1 (-1)).bind fun t428 => (if t428 = true then (tegulalaw35_same.j0 k l1 true a0_0 l0_1) else ((alloc_Map_Is.f k a0_0 l0_1 (l1.length : Int)).bind fun t429 => (tegulalaw35_same.j0 k l1 t429 a0_0 l0_1)))) else (tegulalaw35_same.j0 k l1 true a0_0 l0_1))))) else (tegulalaw35_same.j0 k l1 true a0_0 l0_1)))) else (tegulalaw35_same.j0 k l1 true a0_0 l0_1)))) else (tegulalaw35_same.j0 k l1 true a0_0 l0_1))) = some r := h
 clear h
 have HC3 := Aside0.mk H
 clear H
 go_enter Try.func24, Try.ntmps24
 go_upto_region 1 with (first | ((with_reducible refine gD 2 ?_); (try (refine gate_guard (by rfl) ?_; dsimp only)); refine bE #[.int .i64 a0_0, .slice A0_1 l0_1.length c0_1] 26 ?_; intro gb415 hg w4 hbox hb; have BK415 := Aa (hbox); have GW415 := gU HB hg; have GE415 := gU HB hg; have iE415 := Nonempty.intro GE415.1; replace HB := sU HB hb; clear hb hbox hg))
 (try simp only [Act.put, List.setIfInBounds_toArray, List.set_cons_zero, List.set_cons_succ])
 go_cut [42] (fun v42 wc => ∃ (kq : Nat) (x42_2 : Bool), v42 = .bool x42_2 ∧ Aside0 (tegulalaw35_same.j0 kq l1 x42_2 a0_0 l0_1 = some r) ∧ Aside0 (kq ≤ k) ∧ Aside0 (wc.heap[gb415]? = some (.cells #[.int .i64 a0_0, (.slice A0_1 l0_1.length c0_1)] 26 (0, 0))) ∧ Aside0 (Below w.heap.size w wc))
 case first =>
  have H := HC3.1
  clear HC3
  replace H := Option.bind_eq_some_iff.mp H
  obtain ⟨t416, A50, H⟩ := H
  replace H : (if t416 = (l1.length : Int) then ((alloc_Map_Free.f k a0_0 l0_1).bind fun t417 => ((tegularef35_Map_Free.f k l1).bind fun t418 => (if t417 = t418 then ((alloc_Map_Largest.f k a0_0 l0_1).bind fun t419 => ((tegularef35_Map_Largest.f k l1).bind fun t420 => (if t419 = t420 then ((alloc_Map_Runs.f a0_0 l0_1).bind fun t421 => ((tegularef35_Map_Runs.f k l1).bind fun t424 => ((tegularef32_Same.f k t421 t424).bind fun t427 => (if t427 = true then ((alloc_Map_Is.f k a0_0 l0_1 (-1)).bind fun t428 => (if t428 = true then (tegulalaw35_same.j0 k l1 true a0_0 l0_1) else ((alloc_Map_Is.f k a0_0 l0_1 (l1.length : Int)).bind fun t429 => (tegulalaw35_same.j0 k l1 t429 a0_0 l0_1)))) else (tegulalaw35_same.j0 k l1 true a0_0 l0_1))))) else (tegulalaw35_same.j0 k l1 true a0_0 l0_1)))) else (tegulalaw35_same.j0 k l1 true a0_0 l0_1)))) else (tegulalaw35_same.j0 k l1 true a0_0 l0_1)) = some r := H
  have A5 := Aside0.mk A50
  clear A50
  by_cases c6 : t416 = (l1.length : Int)
  ·
   rw [if_pos c6] at H
   have c6b0 : (t416 == (l1.length : Int)) = true := beq_iff_eq.mpr c6
   have c6b1 : (t416 != (l1.length : Int)) = false := bne_eq_false_iff_eq.mpr c6
   clear c6
   (first | rw [c6b0] | (simp only [i64_w, i32_w]; rw [c6b0]) | skip)
   replace H := Option.bind_eq_some_iff.mp H
   obtain ⟨t417, A70, H⟩ := H
   replace H : ((tegularef35_Map_Free.f k l1).bind fun t418 => (if t417 = t418 then ((alloc_Map_Largest.f k a0_0 l0_1).bind fun t419 => ((tegularef35_Map_Largest.f k l1).bind fun t420 => (if t419 = t420 then ((alloc_Map_Runs.f a0_0 l0_1).bind fun t421 => ((tegularef35_Map_Runs.f k l1).bind fun t424 => ((tegularef32_Same.f k t421 t424).bind fun t427 => (if t427 = true then ((alloc_Map_Is.f k a0_0 l0_1 (-1)).bind fun t428 => (if t428 = true then (tegulalaw35_same.j0 k l1 true a0_0 l0_1) else ((alloc_Map_Is.f k a0_0 l0_1 (l1.length : Int)).bind fun t429 => (tegulalaw35_same.j0 k l1 t429 a0_0 l0_1)))) else (tegulalaw35_same.j0 k l1 true a0_0 l0_1))))) else (tegulalaw35_same.j0 k l1 true a0_0 l0_1)))) else (tegulalaw35_same.j0 k l1 true a0_0 l0_1))) = some r := H
   have A7 := Aside0.mk A70
   clear A70
   replace H := Option.bind_eq_some_iff.mp H
   obtain ⟨t418, A80, H⟩ := H
   replace H : (if t417 = t418 then ((alloc_Map_Largest.f k a0_0 l0_1).bind fun t419 => ((tegularef35_Map_Largest.f k l1).bind fun t420 => (if t419 = t420 then ((alloc_Map_Runs.f a0_0 l0_1).bind fun t421 => ((tegularef35_Map_Runs.f k l1).bind fun t424 => ((tegularef32_Same.f k t421 t424).bind fun t427 => (if t427 = true then ((alloc_Map_Is.f k a0_0 l0_1 (-1)).bind fun t428 => (if t428 = true then (tegulalaw35_same.j0 k l1 true a0_0 l0_1) else ((alloc_Map_Is.f k a0_0 l0_1 (l1.length : Int)).bind fun t429 => (tegulalaw35_same.j0 k l1 t429 a0_0 l0_1)))) else (tegulalaw35_same.j0 k l1 true a0_0 l0_1))))) else (tegulalaw35_same.j0 k l1 true a0_0 l0_1)))) else (tegulalaw35_same.j0 k l1 true a0_0 l0_1)) = some r := H
   have A8 := Aside0.mk A80
   clear A80
   by_cases c9 : t417 = t418
   ·
    rw [if_pos c9] at H
    have c9b0 : (t417 == t418) = true := beq_iff_eq.mpr c9
    have c9b1 : (t417 != t418) = false := bne_eq_false_iff_eq.mpr c9
    clear c9
    replace H := Option.bind_eq_some_iff.mp H
    obtain ⟨t419, A100, H⟩ := H
    replace H : ((tegularef35_Map_Largest.f k l1).bind fun t420 => (if t419 = t420 then ((alloc_Map_Runs.f a0_0 l0_1).bind fun t421 => ((tegularef35_Map_Runs.f k l1).bind fun t424 => ((tegularef32_Same.f k t421 t424).bind fun t427 => (if t427 = true then ((alloc_Map_Is.f k a0_0 l0_1 (-1)).bind fun t428 => (if t428 = true then (tegulalaw35_same.j0 k l1 true a0_0 l0_1) else ((alloc_Map_Is.f k a0_0 l0_1 (l1.length : Int)).bind fun t429 => (tegulalaw35_same.j0 k l1 t429 a0_0 l0_1)))) else (tegulalaw35_same.j0 k l1 true a0_0 l0_1))))) else (tegulalaw35_same.j0 k l1 true a0_0 l0_1))) = some r := H
    have A10 := Aside0.mk A100
    clear A100
    replace H := Option.bind_eq_some_iff.mp H
    obtain ⟨t420, A110, H⟩ := H
    replace H : (if t419 = t420 then ((alloc_Map_Runs.f a0_0 l0_1).bind fun t421 => ((tegularef35_Map_Runs.f k l1).bind fun t424 => ((tegularef32_Same.f k t421 t424).bind fun t427 => (if t427 = true then ((alloc_Map_Is.f k a0_0 l0_1 (-1)).bind fun t428 => (if t428 = true then (tegulalaw35_same.j0 k l1 true a0_0 l0_1) else ((alloc_Map_Is.f k a0_0 l0_1 (l1.length : Int)).bind fun t429 => (tegulalaw35_same.j0 k l1 t429 a0_0 l0_1)))) else (tegulalaw35_same.j0 k l1 true a0_0 l0_1))))) else (tegulalaw35_same.j0 k l1 true a0_0 l0_1)) = some r := H
    have A11 := Aside0.mk A110
    clear A110
    by_cases c12 : t419 = t420
    ·
     rw [if_pos c12] at H
     have c12b0 : (t419 == t420) = true := beq_iff_eq.mpr c12
     have c12b1 : (t419 != t420) = false := bne_eq_false_iff_eq.mpr c12
     clear c12
     replace H := Option.bind_eq_some_iff.mp H
     obtain ⟨t421, A130, H⟩ := H
     replace H : ((tegularef35_Map_Runs.f k l1).bind fun t424 => ((tegularef32_Same.f k t421 t424).bind fun t427 => (if t427 = true then ((alloc_Map_Is.f k a0_0 l0_1 (-1)).bind fun t428 => (if t428 = true then (tegulalaw35_same.j0 k l1 true a0_0 l0_1) else ((alloc_Map_Is.f k a0_0 l0_1 (l1.length : Int)).bind fun t429 => (tegulalaw35_same.j0 k l1 t429 a0_0 l0_1)))) else (tegulalaw35_same.j0 k l1 true a0_0 l0_1)))) = some r := H
     have A13 := Aside0.mk A130
     clear A130
     replace H := Option.bind_eq_some_iff.mp H
     obtain ⟨t424, A140, H⟩ := H
     replace H : ((tegularef32_Same.f k t421 t424).bind fun t427 => (if t427 = true then ((alloc_Map_Is.f k a0_0 l0_1 (-1)).bind fun t428 => (if t428 = true then (tegulalaw35_same.j0 k l1 true a0_0 l0_1) else ((alloc_Map_Is.f k a0_0 l0_1 (l1.length : Int)).bind fun t429 => (tegulalaw35_same.j0 k l1 t429 a0_0 l0_1)))) else (tegulalaw35_same.j0 k l1 true a0_0 l0_1))) = some r := H
     have A14 := Aside0.mk A140
     clear A140
     replace H := Option.bind_eq_some_iff.mp H
     obtain ⟨t427, A150, H⟩ := H
     replace H : (if t427 = true then ((alloc_Map_Is.f k a0_0 l0_1 (-1)).bind fun t428 => (if t428 = true then (tegulalaw35_same.j0 k l1 true a0_0 l0_1) else ((alloc_Map_Is.f k a0_0 l0_1 (l1.length : Int)).bind fun t429 => (tegulalaw35_same.j0 k l1 t429 a0_0 l0_1)))) else (tegulalaw35_same.j0 k l1 true a0_0 l0_1)) = some r := H
     have A15 := Aside0.mk A150
     clear A150
     by_cases c16 : t427 = true
     ·
      subst c16
      have H1 : ((alloc_Map_Is.f k a0_0 l0_1 (-1)).bind fun t428 => (if t428 = true then (tegulalaw35_same.j0 k l1 true a0_0 l0_1) else ((alloc_Map_Is.f k a0_0 l0_1 (l1.length : Int)).bind fun t429 => (tegulalaw35_same.j0 k l1 t429 a0_0 l0_1)))) = some r := by rw [if_pos rfl] at H; exact H
      clear H
      have H := H1
      clear H1
      replace H := Option.bind_eq_some_iff.mp H
      obtain ⟨t428, A170, H⟩ := H
      replace H : (if t428 = true then (tegulalaw35_same.j0 k l1 true a0_0 l0_1) else ((alloc_Map_Is.f k a0_0 l0_1 (l1.length : Int)).bind fun t429 => (tegulalaw35_same.j0 k l1 t429 a0_0 l0_1))) = some r := H
      have A17 := Aside0.mk A170
      clear A170
      by_cases c18 : t428 = true
      ·
       subst c18
       have H1 : (tegulalaw35_same.j0 k l1 true a0_0 l0_1) = some r := by rw [if_pos rfl] at H; exact H
       clear H
       have H := H1
       clear H1
       have H' := Aside0.mk H
       clear H
       have hcz19_0 : w4.cell? ⟨gb415, 0, none⟩ = some (.int .i64 a0_0) := cC BK415 0
       have hcz19_1 : w4.cell? ⟨gb415, 1, none⟩ = some (.slice A0_1 l0_1.length c0_1) := cC BK415 1
       have hfz19_0 := fC BK415 0
       have hfz19_1 := fC BK415 1
       go_wp2_with (first | ((with_reducible refine gC 17 ?_); refine gL 7 Try.func17 #[.agg #[.int .i64 a0_0, .slice A0_1 l0_1.length c0_1]] ?_; (with_reducible refine (alloc_Map_Slots.calls a0_0 _ _ l0_1 t416 _ ?side1 ?side2 A5.1).mono ?_); (case side1 => exact cU (Kd.C_below HR0_1.1 HB.1)); (case side2 => exact HC0_1.1); rintro e w20 ⟨rfl, hb⟩; refine ⟨_, rfl, ?_⟩; replace BK415 := kB BK415 hb; replace HB := sB HB hb; (try clear hb); have hcz21_0 : w20.cell? ⟨gb415, 0, none⟩ = some (.int .i64 a0_0) := cC BK415 0; have hcz21_1 : w20.cell? ⟨gb415, 1, none⟩ = some (.slice A0_1 l0_1.length c0_1) := cC BK415 1; have hfz21_0 := fC BK415 0; have hfz21_1 := fC BK415 1) | (go_at_call 15; (with_reducible refine (alloc_Map_Free.calls k a0_0 _ _ l0_1 t417 _ ?side1 ?side2 A7.1).mono ?_); (case side1 => exact cU (Kd.C_below HR0_1.1 HB.1)); (case side2 => exact HC0_1.1); rintro e w22 ⟨rfl, hb⟩; replace BK415 := kB BK415 hb; replace HB := sB HB hb; (try clear hb)) | (go_at_call 23; (with_reducible refine (tegularef35_Map_Free.calls k _ _ l1 t418 _ ?side1 ?side2 A8.1).mono ?_); (case side1 => exact cU (Kd.C_below HR1.1 HB.1)); (case side2 => exact HC1.1); rintro e w' ⟨rfl, ⟨nd, rfl⟩⟩; have hcz23_0 : w22.cell? ⟨gb415, 0, none⟩ = some (.int .i64 a0_0) := cC BK415 0; have hcz23_1 : w22.cell? ⟨gb415, 1, none⟩ = some (.slice A0_1 l0_1.length c0_1) := cC BK415 1; have hfz23_0 := fC BK415 0; have hfz23_1 := fC BK415 1) | (go_at_call 16; (with_reducible refine (alloc_Map_Largest.calls k a0_0 _ _ l0_1 t419 _ ?side1 ?side2 A10.1).mono ?_); (case side1 => repeat (first | exact (Kd.C_below HR0_1.1 (bS HB.1)) | (with_reducible refine Kd.C_alloc ?_ _) | (with_reducible refine Kd.C_drewN ?_ _) | (with_reducible refine Kd.C_drew ?_))); (case side2 => exact HC0_1.1); rintro e w24 ⟨rfl, hb⟩; replace BK415 := kB BK415 hb; replace HB := sB HB hb; (try clear hb)) | (go_at_call 40; (with_reducible refine (tegularef35_Map_Largest.calls k _ _ l1 t420 _ ?side1 ?side2 A11.1).mono ?_); (case side1 => exact cU (Kd.C_below HR1.1 HB.1)); (case side2 => exact HC1.1); rintro e w25 ⟨rfl, hb⟩; replace BK415 := kB BK415 hb; replace HB := sB HB hb; (try clear hb); have hcz26_0 : w25.cell? ⟨gb415, 0, none⟩ = some (.int .i64 a0_0) := cC BK415 0; have hcz26_1 : w25.cell? ⟨gb415, 1, none⟩ = some (.slice A0_1 l0_1.length c0_1) := cC BK415 1; have hfz26_0 := fC BK415 0; have hfz26_1 := fC BK415 1) | (go_at_call 18; (with_reducible refine (alloc_Map_Runs.calls a0_0 _ _ l0_1 t421 _ ?side1 ?side2 A13.1).mono ?_); (case side1 => exact cU (Kd.C_below HR0_1.1 HB.1)); (case side2 => exact HC0_1.1); rintro e w27 ⟨v422, rfl, ho0, hb⟩; have HO423 := Aa (Kd.R_lower ho0 (below_size (bS HB.1))); replace BK415 := kB BK415 hb; replace HB := sB HB hb; (try clear hb); (try clear ho0)) | (go_at_call 41; (with_reducible refine (tegularef35_Map_Runs.calls k _ _ l1 t424 _ ?side1 ?side2 A14.1).mono ?_); (case side1 => exact cU (Kd.C_below HR1.1 HB.1)); (case side2 => exact HC1.1); rintro e w28 ⟨v425, rfl, ho0, hb⟩; have HO426 := Aa (Kd.R_lower (Kd.R_new' ho0 (Kd.R_lt (rU HO423.1))) (below_size (bS HB.1))); replace HO423 := rE HO423 ho0 hb; replace BK415 := kB BK415 hb; replace HB := sB HB hb; (try clear hb); (try clear ho0); obtain ⟨Ao29, co29, eo29⟩ := Kd.R_slice HO423.1; subst eo29; obtain ⟨Ao30, co30, eo30⟩ := Kd.R_slice HO426.1; subst eo30) | (go_at_call 13; (with_reducible refine (tegularef32_Same.calls k _ _ t421 _ _ t424 true _ ?side1 ?side2 ?side3 ?side4 A15.1).mono ?_); (case side1 => repeat (first | exact (Kd.R_reads' HO423.1).2.2 | (with_reducible refine Kd.C_alloc ?_ _) | (with_reducible refine Kd.C_drewN ?_ _) | (with_reducible refine Kd.C_drew ?_))); (case side2 => exact (Kd.R_reads' HO423.1).2.1); (case side3 => repeat (first | exact (Kd.R_reads' HO426.1).2.2 | (with_reducible refine Kd.C_alloc ?_ _) | (with_reducible refine Kd.C_drewN ?_ _) | (with_reducible refine Kd.C_drew ?_))); (case side4 => exact (Kd.R_reads' HO426.1).2.1); rintro e w' ⟨rfl, ⟨nd, rfl⟩⟩; have hcz31_0 : w28.cell? ⟨gb415, 0, none⟩ = some (.int .i64 a0_0) := cC BK415 0; have hcz31_1 : w28.cell? ⟨gb415, 1, none⟩ = some (.slice A0_1 l0_1.length c0_1) := cC BK415 1; have hfz31_0 := fC BK415 0; have hfz31_1 := fC BK415 1) | (go_at_call 19; (with_reducible refine (alloc_Map_Is.calls k a0_0 _ _ l0_1 (-1) true _ ?side1 ?side2 A17.1).mono ?_); (case side1 => repeat (first | exact (Kd.C_below HR0_1.1 (bS HB.1)) | (with_reducible refine Kd.C_alloc ?_ _) | (with_reducible refine Kd.C_drewN ?_ _) | (with_reducible refine Kd.C_drew ?_))); (case side2 => exact HC0_1.1); rintro e w32 ⟨rfl, hb⟩; replace HO423 := rB HO423 hb; replace HO426 := rB HO426 hb; replace BK415 := kB BK415 hb; replace HB := sB HB hb; (try clear hb)))
       go_meet
       case rel => exact ⟨_, (true), (by first | rfl | (simp; done) | (simp [*]; done)), H', ⟨by first | omega | exact Nat.le_refl _⟩, ⟨by refine kP ?_; exact BK415.1⟩, ⟨bS HB.1⟩⟩
      ·
       replace c18 := Bool.eq_false_iff.mpr c18
       subst c18
       have H1 : ((alloc_Map_Is.f k a0_0 l0_1 (l1.length : Int)).bind fun t429 => (tegulalaw35_same.j0 k l1 t429 a0_0 l0_1)) = some r := by rw [if_neg (show ¬ (false = true) by decide)] at H; exact H
       clear H
       have H := H1
       clear H1
       replace H := Option.bind_eq_some_iff.mp H
       obtain ⟨t429, A330, H⟩ := H
       replace H : (tegulalaw35_same.j0 k l1 t429 a0_0 l0_1) = some r := H
       have A33 := Aside0.mk A330
       clear A330
       have H' := Aside0.mk H
       clear H
       have hcz34_0 : w4.cell? ⟨gb415, 0, none⟩ = some (.int .i64 a0_0) := cC BK415 0
       have hcz34_1 : w4.cell? ⟨gb415, 1, none⟩ = some (.slice A0_1 l0_1.length c0_1) := cC BK415 1
       have hfz34_0 := fC BK415 0
       have hfz34_1 := fC BK415 1
       go_wp2_with (first | ((with_reducible refine gC 17 ?_); refine gL 7 Try.func17 #[.agg #[.int .i64 a0_0, .slice A0_1 l0_1.length c0_1]] ?_; (with_reducible refine (alloc_Map_Slots.calls a0_0 _ _ l0_1 t416 _ ?side1 ?side2 A5.1).mono ?_); (case side1 => exact cU (Kd.C_below HR0_1.1 HB.1)); (case side2 => exact HC0_1.1); rintro e w35 ⟨rfl, hb⟩; refine ⟨_, rfl, ?_⟩; replace BK415 := kB BK415 hb; replace HB := sB HB hb; (try clear hb); have hcz36_0 : w35.cell? ⟨gb415, 0, none⟩ = some (.int .i64 a0_0) := cC BK415 0; have hcz36_1 : w35.cell? ⟨gb415, 1, none⟩ = some (.slice A0_1 l0_1.length c0_1) := cC BK415 1; have hfz36_0 := fC BK415 0; have hfz36_1 := fC BK415 1) | (go_at_call 15; (with_reducible refine (alloc_Map_Free.calls k a0_0 _ _ l0_1 t417 _ ?side1 ?side2 A7.1).mono ?_); (case side1 => exact cU (Kd.C_below HR0_1.1 HB.1)); (case side2 => exact HC0_1.1); rintro e w37 ⟨rfl, hb⟩; replace BK415 := kB BK415 hb; replace HB := sB HB hb; (try clear hb)) | (go_at_call 23; (with_reducible refine (tegularef35_Map_Free.calls k _ _ l1 t418 _ ?side1 ?side2 A8.1).mono ?_); (case side1 => exact cU (Kd.C_below HR1.1 HB.1)); (case side2 => exact HC1.1); rintro e w' ⟨rfl, ⟨nd, rfl⟩⟩; have hcz38_0 : w37.cell? ⟨gb415, 0, none⟩ = some (.int .i64 a0_0) := cC BK415 0; have hcz38_1 : w37.cell? ⟨gb415, 1, none⟩ = some (.slice A0_1 l0_1.length c0_1) := cC BK415 1; have hfz38_0 := fC BK415 0; have hfz38_1 := fC BK415 1) | (go_at_call 16; (with_reducible refine (alloc_Map_Largest.calls k a0_0 _ _ l0_1 t419 _ ?side1 ?side2 A10.1).mono ?_); (case side1 => repeat (first | exact (Kd.C_below HR0_1.1 (bS HB.1)) | (with_reducible refine Kd.C_alloc ?_ _) | (with_reducible refine Kd.C_drewN ?_ _) | (with_reducible refine Kd.C_drew ?_))); (case side2 => exact HC0_1.1); rintro e w39 ⟨rfl, hb⟩; replace BK415 := kB BK415 hb; replace HB := sB HB hb; (try clear hb)) | (go_at_call 40; (with_reducible refine (tegularef35_Map_Largest.calls k _ _ l1 t420 _ ?side1 ?side2 A11.1).mono ?_); (case side1 => exact cU (Kd.C_below HR1.1 HB.1)); (case side2 => exact HC1.1); rintro e w40 ⟨rfl, hb⟩; replace BK415 := kB BK415 hb; replace HB := sB HB hb; (try clear hb); have hcz41_0 : w40.cell? ⟨gb415, 0, none⟩ = some (.int .i64 a0_0) := cC BK415 0; have hcz41_1 : w40.cell? ⟨gb415, 1, none⟩ = some (.slice A0_1 l0_1.length c0_1) := cC BK415 1; have hfz41_0 := fC BK415 0; have hfz41_1 := fC BK415 1) | (go_at_call 18; (with_reducible refine (alloc_Map_Runs.calls a0_0 _ _ l0_1 t421 _ ?side1 ?side2 A13.1).mono ?_); (case side1 => exact cU (Kd.C_below HR0_1.1 HB.1)); (case side2 => exact HC0_1.1); rintro e w42 ⟨v422, rfl, ho0, hb⟩; have HO423 := Aa (Kd.R_lower ho0 (below_size (bS HB.1))); replace BK415 := kB BK415 hb; replace HB := sB HB hb; (try clear hb); (try clear ho0)) | (go_at_call 41; (with_reducible refine (tegularef35_Map_Runs.calls k _ _ l1 t424 _ ?side1 ?side2 A14.1).mono ?_); (case side1 => exact cU (Kd.C_below HR1.1 HB.1)); (case side2 => exact HC1.1); rintro e w43 ⟨v425, rfl, ho0, hb⟩; have HO426 := Aa (Kd.R_lower (Kd.R_new' ho0 (Kd.R_lt (rU HO423.1))) (below_size (bS HB.1))); replace HO423 := rE HO423 ho0 hb; replace BK415 := kB BK415 hb; replace HB := sB HB hb; (try clear hb); (try clear ho0); obtain ⟨Ao44, co44, eo44⟩ := Kd.R_slice HO423.1; subst eo44; obtain ⟨Ao45, co45, eo45⟩ := Kd.R_slice HO426.1; subst eo45) | (go_at_call 13; (with_reducible refine (tegularef32_Same.calls k _ _ t421 _ _ t424 true _ ?side1 ?side2 ?side3 ?side4 A15.1).mono ?_); (case side1 => repeat (first | exact (Kd.R_reads' HO423.1).2.2 | (with_reducible refine Kd.C_alloc ?_ _) | (with_reducible refine Kd.C_drewN ?_ _) | (with_reducible refine Kd.C_drew ?_))); (case side2 => exact (Kd.R_reads' HO423.1).2.1); (case side3 => repeat (first | exact (Kd.R_reads' HO426.1).2.2 | (with_reducible refine Kd.C_alloc ?_ _) | (with_reducible refine Kd.C_drewN ?_ _) | (with_reducible refine Kd.C_drew ?_))); (case side4 => exact (Kd.R_reads' HO426.1).2.1); rintro e w' ⟨rfl, ⟨nd, rfl⟩⟩; have hcz46_0 : w43.cell? ⟨gb415, 0, none⟩ = some (.int .i64 a0_0) := cC BK415 0; have hcz46_1 : w43.cell? ⟨gb415, 1, none⟩ = some (.slice A0_1 l0_1.length c0_1) := cC BK415 1; have hfz46_0 := fC BK415 0; have hfz46_1 := fC BK415 1) | (go_at_call 19; (with_reducible refine (alloc_Map_Is.calls k a0_0 _ _ l0_1 (-1) false _ ?side1 ?side2 A17.1).mono ?_); (case side1 => repeat (first | exact (Kd.C_below HR0_1.1 (bS HB.1)) | (with_reducible refine Kd.C_alloc ?_ _) | (with_reducible refine Kd.C_drewN ?_ _) | (with_reducible refine Kd.C_drew ?_))); (case side2 => exact HC0_1.1); rintro e w47 ⟨rfl, hb⟩; replace HO423 := rB HO423 hb; replace HO426 := rB HO426 hb; replace BK415 := kB BK415 hb; replace HB := sB HB hb; (try clear hb); have hcz48_0 : w47.cell? ⟨gb415, 0, none⟩ = some (.int .i64 a0_0) := cC BK415 0; have hcz48_1 : w47.cell? ⟨gb415, 1, none⟩ = some (.slice A0_1 l0_1.length c0_1) := cC BK415 1; have hfz48_0 := fC BK415 0; have hfz48_1 := fC BK415 1) | (go_at_call 19; (with_reducible refine (alloc_Map_Is.calls k a0_0 _ _ l0_1 (l1.length : Int) t429 _ ?side1 ?side2 A33.1).mono ?_); (case side1 => exact cU (Kd.C_below HR0_1.1 HB.1)); (case side2 => exact HC0_1.1); rintro e w49 ⟨rfl, hb⟩; replace HO423 := rB HO423 hb; replace HO426 := rB HO426 hb; replace BK415 := kB BK415 hb; replace HB := sB HB hb; (try clear hb)))
       go_meet
       case rel => exact ⟨_, (t429), (by first | rfl | (simp; done) | (simp [*]; done)), H', ⟨by first | omega | exact Nat.le_refl _⟩, ⟨by refine kP ?_; exact BK415.1⟩, ⟨bS HB.1⟩⟩
     ·
      replace c16 := Bool.eq_false_iff.mpr c16
      subst c16
      have H1 : (tegulalaw35_same.j0 k l1 true a0_0 l0_1) = some r := by rw [if_neg (show ¬ (false = true) by decide)] at H; exact H
      clear H
      have H := H1
      clear H1
      have H' := Aside0.mk H
      clear H
      have hcz50_0 : w4.cell? ⟨gb415, 0, none⟩ = some (.int .i64 a0_0) := cC BK415 0
      have hcz50_1 : w4.cell? ⟨gb415, 1, none⟩ = some (.slice A0_1 l0_1.length c0_1) := cC BK415 1
      have hfz50_0 := fC BK415 0
      have hfz50_1 := fC BK415 1
      go_wp2_with (first | ((with_reducible refine gC 17 ?_); refine gL 7 Try.func17 #[.agg #[.int .i64 a0_0, .slice A0_1 l0_1.length c0_1]] ?_; (with_reducible refine (alloc_Map_Slots.calls a0_0 _ _ l0_1 t416 _ ?side1 ?side2 A5.1).mono ?_); (case side1 => exact cU (Kd.C_below HR0_1.1 HB.1)); (case side2 => exact HC0_1.1); rintro e w51 ⟨rfl, hb⟩; refine ⟨_, rfl, ?_⟩; replace BK415 := kB BK415 hb; replace HB := sB HB hb; (try clear hb); have hcz52_0 : w51.cell? ⟨gb415, 0, none⟩ = some (.int .i64 a0_0) := cC BK415 0; have hcz52_1 : w51.cell? ⟨gb415, 1, none⟩ = some (.slice A0_1 l0_1.length c0_1) := cC BK415 1; have hfz52_0 := fC BK415 0; have hfz52_1 := fC BK415 1) | (go_at_call 15; (with_reducible refine (alloc_Map_Free.calls k a0_0 _ _ l0_1 t417 _ ?side1 ?side2 A7.1).mono ?_); (case side1 => exact cU (Kd.C_below HR0_1.1 HB.1)); (case side2 => exact HC0_1.1); rintro e w53 ⟨rfl, hb⟩; replace BK415 := kB BK415 hb; replace HB := sB HB hb; (try clear hb)) | (go_at_call 23; (with_reducible refine (tegularef35_Map_Free.calls k _ _ l1 t418 _ ?side1 ?side2 A8.1).mono ?_); (case side1 => exact cU (Kd.C_below HR1.1 HB.1)); (case side2 => exact HC1.1); rintro e w' ⟨rfl, ⟨nd, rfl⟩⟩; have hcz54_0 : w53.cell? ⟨gb415, 0, none⟩ = some (.int .i64 a0_0) := cC BK415 0; have hcz54_1 : w53.cell? ⟨gb415, 1, none⟩ = some (.slice A0_1 l0_1.length c0_1) := cC BK415 1; have hfz54_0 := fC BK415 0; have hfz54_1 := fC BK415 1) | (go_at_call 16; (with_reducible refine (alloc_Map_Largest.calls k a0_0 _ _ l0_1 t419 _ ?side1 ?side2 A10.1).mono ?_); (case side1 => repeat (first | exact (Kd.C_below HR0_1.1 (bS HB.1)) | (with_reducible refine Kd.C_alloc ?_ _) | (with_reducible refine Kd.C_drewN ?_ _) | (with_reducible refine Kd.C_drew ?_))); (case side2 => exact HC0_1.1); rintro e w55 ⟨rfl, hb⟩; replace BK415 := kB BK415 hb; replace HB := sB HB hb; (try clear hb)) | (go_at_call 40; (with_reducible refine (tegularef35_Map_Largest.calls k _ _ l1 t420 _ ?side1 ?side2 A11.1).mono ?_); (case side1 => exact cU (Kd.C_below HR1.1 HB.1)); (case side2 => exact HC1.1); rintro e w56 ⟨rfl, hb⟩; replace BK415 := kB BK415 hb; replace HB := sB HB hb; (try clear hb); have hcz57_0 : w56.cell? ⟨gb415, 0, none⟩ = some (.int .i64 a0_0) := cC BK415 0; have hcz57_1 : w56.cell? ⟨gb415, 1, none⟩ = some (.slice A0_1 l0_1.length c0_1) := cC BK415 1; have hfz57_0 := fC BK415 0; have hfz57_1 := fC BK415 1) | (go_at_call 18; (with_reducible refine (alloc_Map_Runs.calls a0_0 _ _ l0_1 t421 _ ?side1 ?side2 A13.1).mono ?_); (case side1 => exact cU (Kd.C_below HR0_1.1 HB.1)); (case side2 => exact HC0_1.1); rintro e w58 ⟨v422, rfl, ho0, hb⟩; have HO423 := Aa (Kd.R_lower ho0 (below_size (bS HB.1))); replace BK415 := kB BK415 hb; replace HB := sB HB hb; (try clear hb); (try clear ho0)) | (go_at_call 41; (with_reducible refine (tegularef35_Map_Runs.calls k _ _ l1 t424 _ ?side1 ?side2 A14.1).mono ?_); (case side1 => exact cU (Kd.C_below HR1.1 HB.1)); (case side2 => exact HC1.1); rintro e w59 ⟨v425, rfl, ho0, hb⟩; have HO426 := Aa (Kd.R_lower (Kd.R_new' ho0 (Kd.R_lt (rU HO423.1))) (below_size (bS HB.1))); replace HO423 := rE HO423 ho0 hb; replace BK415 := kB BK415 hb; replace HB := sB HB hb; (try clear hb); (try clear ho0); obtain ⟨Ao60, co60, eo60⟩ := Kd.R_slice HO423.1; subst eo60; obtain ⟨Ao61, co61, eo61⟩ := Kd.R_slice HO426.1; subst eo61) | (go_at_call 13; (with_reducible refine (tegularef32_Same.calls k _ _ t421 _ _ t424 false _ ?side1 ?side2 ?side3 ?side4 A15.1).mono ?_); (case side1 => repeat (first | exact (Kd.R_reads' HO423.1).2.2 | (with_reducible refine Kd.C_alloc ?_ _) | (with_reducible refine Kd.C_drewN ?_ _) | (with_reducible refine Kd.C_drew ?_))); (case side2 => exact (Kd.R_reads' HO423.1).2.1); (case side3 => repeat (first | exact (Kd.R_reads' HO426.1).2.2 | (with_reducible refine Kd.C_alloc ?_ _) | (with_reducible refine Kd.C_drewN ?_ _) | (with_reducible refine Kd.C_drew ?_))); (case side4 => exact (Kd.R_reads' HO426.1).2.1); rintro e w' ⟨rfl, ⟨nd, rfl⟩⟩))
      go_meet
      case rel => exact ⟨_, (true), (by first | rfl | (simp; done) | (simp [*]; done)), H', ⟨by first | omega | exact Nat.le_refl _⟩, ⟨by refine kP ?_; exact BK415.1⟩, ⟨bS HB.1⟩⟩
    ·
     rw [if_neg c12] at H
     have c12b0 : (t419 == t420) = false := beq_eq_false_iff_ne.mpr c12
     have c12b1 : (t419 != t420) = true := bne_iff_ne.mpr c12
     have H' := Aside0.mk H
     clear H
     have hcz62_0 : w4.cell? ⟨gb415, 0, none⟩ = some (.int .i64 a0_0) := cC BK415 0
     have hcz62_1 : w4.cell? ⟨gb415, 1, none⟩ = some (.slice A0_1 l0_1.length c0_1) := cC BK415 1
     have hfz62_0 := fC BK415 0
     have hfz62_1 := fC BK415 1
     go_wp2_with (first | ((with_reducible refine gC 17 ?_); refine gL 7 Try.func17 #[.agg #[.int .i64 a0_0, .slice A0_1 l0_1.length c0_1]] ?_; (with_reducible refine (alloc_Map_Slots.calls a0_0 _ _ l0_1 t416 _ ?side1 ?side2 A5.1).mono ?_); (case side1 => exact cU (Kd.C_below HR0_1.1 HB.1)); (case side2 => exact HC0_1.1); rintro e w63 ⟨rfl, hb⟩; refine ⟨_, rfl, ?_⟩; replace BK415 := kB BK415 hb; replace HB := sB HB hb; (try clear hb); have hcz64_0 : w63.cell? ⟨gb415, 0, none⟩ = some (.int .i64 a0_0) := cC BK415 0; have hcz64_1 : w63.cell? ⟨gb415, 1, none⟩ = some (.slice A0_1 l0_1.length c0_1) := cC BK415 1; have hfz64_0 := fC BK415 0; have hfz64_1 := fC BK415 1) | (go_at_call 15; (with_reducible refine (alloc_Map_Free.calls k a0_0 _ _ l0_1 t417 _ ?side1 ?side2 A7.1).mono ?_); (case side1 => exact cU (Kd.C_below HR0_1.1 HB.1)); (case side2 => exact HC0_1.1); rintro e w65 ⟨rfl, hb⟩; replace BK415 := kB BK415 hb; replace HB := sB HB hb; (try clear hb)) | (go_at_call 23; (with_reducible refine (tegularef35_Map_Free.calls k _ _ l1 t418 _ ?side1 ?side2 A8.1).mono ?_); (case side1 => exact cU (Kd.C_below HR1.1 HB.1)); (case side2 => exact HC1.1); rintro e w' ⟨rfl, ⟨nd, rfl⟩⟩; have hcz66_0 : w65.cell? ⟨gb415, 0, none⟩ = some (.int .i64 a0_0) := cC BK415 0; have hcz66_1 : w65.cell? ⟨gb415, 1, none⟩ = some (.slice A0_1 l0_1.length c0_1) := cC BK415 1; have hfz66_0 := fC BK415 0; have hfz66_1 := fC BK415 1) | (go_at_call 16; (with_reducible refine (alloc_Map_Largest.calls k a0_0 _ _ l0_1 t419 _ ?side1 ?side2 A10.1).mono ?_); (case side1 => repeat (first | exact (Kd.C_below HR0_1.1 (bS HB.1)) | (with_reducible refine Kd.C_alloc ?_ _) | (with_reducible refine Kd.C_drewN ?_ _) | (with_reducible refine Kd.C_drew ?_))); (case side2 => exact HC0_1.1); rintro e w67 ⟨rfl, hb⟩; replace BK415 := kB BK415 hb; replace HB := sB HB hb; (try clear hb)) | (go_at_call 40; (with_reducible refine (tegularef35_Map_Largest.calls k _ _ l1 t420 _ ?side1 ?side2 A11.1).mono ?_); (case side1 => exact cU (Kd.C_below HR1.1 HB.1)); (case side2 => exact HC1.1); rintro e w68 ⟨rfl, hb⟩; replace BK415 := kB BK415 hb; replace HB := sB HB hb; (try clear hb)))
     go_meet
     case rel => exact ⟨_, (true), (by first | rfl | (simp; done) | (simp [*]; done)), H', ⟨by first | omega | exact Nat.le_refl _⟩, ⟨by refine kP ?_; exact BK415.1⟩, ⟨bS HB.1⟩⟩
   ·
    rw [if_neg c9] at H
    have c9b0 : (t417 == t418) = false := beq_eq_false_iff_ne.mpr c9
    have c9b1 : (t417 != t418) = true := bne_iff_ne.mpr c9
    have H' := Aside0.mk H
    clear H
    have hcz69_0 : w4.cell? ⟨gb415, 0, none⟩ = some (.int .i64 a0_0) := cC BK415 0
    have hcz69_1 : w4.cell? ⟨gb415, 1, none⟩ = some (.slice A0_1 l0_1.length c0_1) := cC BK415 1
    have hfz69_0 := fC BK415 0
    have hfz69_1 := fC BK415 1
    go_wp2_with (first | ((with_reducible refine gC 17 ?_); refine gL 7 Try.func17 #[.agg #[.int .i64 a0_0, .slice A0_1 l0_1.length c0_1]] ?_; (with_reducible refine (alloc_Map_Slots.calls a0_0 _ _ l0_1 t416 _ ?side1 ?side2 A5.1).mono ?_); (case side1 => exact cU (Kd.C_below HR0_1.1 HB.1)); (case side2 => exact HC0_1.1); rintro e w70 ⟨rfl, hb⟩; refine ⟨_, rfl, ?_⟩; replace BK415 := kB BK415 hb; replace HB := sB HB hb; (try clear hb); have hcz71_0 : w70.cell? ⟨gb415, 0, none⟩ = some (.int .i64 a0_0) := cC BK415 0; have hcz71_1 : w70.cell? ⟨gb415, 1, none⟩ = some (.slice A0_1 l0_1.length c0_1) := cC BK415 1; have hfz71_0 := fC BK415 0; have hfz71_1 := fC BK415 1) | (go_at_call 15; (with_reducible refine (alloc_Map_Free.calls k a0_0 _ _ l0_1 t417 _ ?side1 ?side2 A7.1).mono ?_); (case side1 => exact cU (Kd.C_below HR0_1.1 HB.1)); (case side2 => exact HC0_1.1); rintro e w72 ⟨rfl, hb⟩; replace BK415 := kB BK415 hb; replace HB := sB HB hb; (try clear hb)) | (go_at_call 23; (with_reducible refine (tegularef35_Map_Free.calls k _ _ l1 t418 _ ?side1 ?side2 A8.1).mono ?_); (case side1 => exact cU (Kd.C_below HR1.1 HB.1)); (case side2 => exact HC1.1); rintro e w' ⟨rfl, ⟨nd, rfl⟩⟩))
    go_meet
    case rel => exact ⟨_, (true), (by first | rfl | (simp; done) | (simp [*]; done)), H', ⟨by first | omega | exact Nat.le_refl _⟩, ⟨by refine kP ?_; exact BK415.1⟩, ⟨bS HB.1⟩⟩
  ·
   rw [if_neg c6] at H
   have c6b0 : (t416 == (l1.length : Int)) = false := beq_eq_false_iff_ne.mpr c6
   have c6b1 : (t416 != (l1.length : Int)) = true := bne_iff_ne.mpr c6
   (first | rw [c6b0] | (simp only [i64_w, i32_w]; rw [c6b0]) | skip)
   have H' := Aside0.mk H
   clear H
   have hcz73_0 : w4.cell? ⟨gb415, 0, none⟩ = some (.int .i64 a0_0) := cC BK415 0
   have hcz73_1 : w4.cell? ⟨gb415, 1, none⟩ = some (.slice A0_1 l0_1.length c0_1) := cC BK415 1
   have hfz73_0 := fC BK415 0
   have hfz73_1 := fC BK415 1
   go_wp2_with (first | ((with_reducible refine gC 17 ?_); refine gL 7 Try.func17 #[.agg #[.int .i64 a0_0, .slice A0_1 l0_1.length c0_1]] ?_; (with_reducible refine (alloc_Map_Slots.calls a0_0 _ _ l0_1 t416 _ ?side1 ?side2 A5.1).mono ?_); (case side1 => exact cU (Kd.C_below HR0_1.1 HB.1)); (case side2 => exact HC0_1.1); rintro e w74 ⟨rfl, hb⟩; refine ⟨_, rfl, ?_⟩; replace BK415 := kB BK415 hb; replace HB := sB HB hb; (try clear hb)))
   go_meet
   case rel => exact ⟨_, (true), (by first | rfl | (simp; done) | (simp [*]; done)), H', ⟨by first | omega | exact Nat.le_refl _⟩, ⟨by refine kP ?_; exact BK415.1⟩, ⟨bS HB.1⟩⟩
 case rest =>
  clear HC3
  try clear c1
  try clear c2
  try clear p2
  try clear c6
  try clear c6b0
  try clear c6b1
  try clear c9
  try clear c9b0
  try clear c9b1
  try clear c12
  try clear c12b0
  try clear c12b1
  try clear c16
  try clear c17
  try clear c18
  try clear c24
  try clear hcz19_0
  try clear hcz19_1
  try clear hcz21_0
  try clear hcz21_1
  try clear hcz23_0
  try clear hcz23_1
  try clear hcz26_0
  try clear hcz26_1
  try clear hcz31_0
  try clear hcz31_1
  try clear hcz34_0
  try clear hcz34_1
  try clear hcz36_0
  try clear hcz36_1
  try clear hcz38_0
  try clear hcz38_1
  try clear hcz41_0
  try clear hcz41_1
  try clear hcz46_0
  try clear hcz46_1
  try clear hcz48_0
  try clear hcz48_1
  try clear hcz50_0
  try clear hcz50_1
  try clear hcz52_0
  try clear hcz52_1
  try clear hcz54_0
  try clear hcz54_1
  try clear hcz57_0
  try clear hcz57_1
  try clear hcz62_0
  try clear hcz62_1
  try clear hcz64_0
  try clear hcz64_1
  try clear hcz66_0
  try clear hcz66_1
  try clear hcz69_0
  try clear hcz69_1
  try clear hcz71_0
  try clear hcz71_1
  try clear hcz73_0
  try clear hcz73_1
  try clear hfz19_0
  try clear hfz19_1
  try clear hfz21_0
  try clear hfz21_1
  try clear hfz23_0
  try clear hfz23_1
  try clear hfz26_0
  try clear hfz26_1
  try clear hfz31_0
  try clear hfz31_1
  try clear hfz34_0
  try clear hfz34_1
  try clear hfz36_0
  try clear hfz36_1
  try clear hfz38_0
  try clear hfz38_1
  try clear hfz41_0
  try clear hfz41_1
  try clear hfz46_0
  try clear hfz46_1
  try clear hfz48_0
  try clear hfz48_1
  try clear hfz50_0
  try clear hfz50_1
  try clear hfz52_0
  try clear hfz52_1
  try clear hfz54_0
  try clear hfz54_1
  try clear hfz57_0
  try clear hfz57_1
  try clear hfz62_0
  try clear hfz62_1
  try clear hfz64_0
  try clear hfz64_1
  try clear hfz66_0
  try clear hfz66_1
  try clear hfz69_0
  try clear hfz69_1
  try clear hfz71_0
  try clear hfz71_1
  try clear hfz73_0
  try clear hfz73_1
  obtain ⟨kq, x42_2, rfl, HA, HJ2, BK415, HB⟩ := hcut
  cases kq with
  | zero => exact absurd HA.1 (by simp [tegulalaw35_same.j0])
  | succ kj2 =>
   have H := HA.1
   clear HA
   simp only [tegulalaw35_same.j0] at H
   by_cases c75 : x42_2 = true
   ·
    subst c75
    have H1 : (some false) = some r := by rw [if_pos rfl] at H; exact H
    clear H
    have H := H1
    clear H1
    obtain rfl := Option.some.inj H
    go_wp2
    go_ret
    exact ⟨fT, bS HB.1⟩
   ·
    replace c75 := Bool.eq_false_iff.mpr c75
    subst c75
    have H1 : (tegulalaw35_same.l0 kj2 l1 0 a0_0 l0_1) = some r := by rw [if_neg (show ¬ (false = true) by decide)] at H; exact H
    clear H
    have H := H1
    clear H1
    have H' := Aside0.mk H
    clear H
    go_wp2
    go_loopg [5] kj2 (fun kq v5 w' => ∃ (x5_2 : Int), v5 = .int .i64 x5_2 ∧ Aside0 (tegulalaw35_same.l0 kq l1 x5_2 a0_0 l0_1 = some r) ∧ Aside0 (kq ≤ kj2) ∧ Aside0 (w'.heap[gb415]? = some (.cells #[.int .i64 a0_0, (.slice A0_1 l0_1.length c0_1)] 26 (0, 0))) ∧ Aside0 (Below w.heap.size w w'))
    case atStart => exact ⟨(0), (by first | rfl | (simp; done) | (simp [*]; done)), H', ⟨Nat.le_refl _⟩, ⟨by refine kP ?_; exact BK415.1⟩, ⟨bS HB.1⟩⟩
    case round =>
     clear H'
     try clear c1
     try clear c2
     try clear p2
     try clear c6
     try clear c6b0
     try clear c6b1
     try clear c7
     try clear c9
     try clear c9b0
     try clear c9b1
     try clear c12
     try clear c12b0
     try clear c12b1
     try clear c16
     try clear c17
     try clear c18
     try clear c24
     try clear c75
     try clear hcz19_0
     try clear hcz19_1
     try clear hcz21_0
     try clear hcz21_1
     try clear hcz23_0
     try clear hcz23_1
     try clear hcz26_0
     try clear hcz26_1
     try clear hcz31_0
     try clear hcz31_1
     try clear hcz34_0
     try clear hcz34_1
     try clear hcz36_0
     try clear hcz36_1
     try clear hcz38_0
     try clear hcz38_1
     try clear hcz41_0
     try clear hcz41_1
     try clear hcz46_0
     try clear hcz46_1
     try clear hcz48_0
     try clear hcz48_1
     try clear hcz50_0
     try clear hcz50_1
     try clear hcz52_0
     try clear hcz52_1
     try clear hcz54_0
     try clear hcz54_1
     try clear hcz57_0
     try clear hcz57_1
     try clear hcz62_0
     try clear hcz62_1
     try clear hcz64_0
     try clear hcz64_1
     try clear hcz66_0
     try clear hcz66_1
     try clear hcz69_0
     try clear hcz69_1
     try clear hcz71_0
     try clear hcz71_1
     try clear hcz73_0
     try clear hcz73_1
     try clear hfz19_0
     try clear hfz19_1
     try clear hfz21_0
     try clear hfz21_1
     try clear hfz23_0
     try clear hfz23_1
     try clear hfz26_0
     try clear hfz26_1
     try clear hfz31_0
     try clear hfz31_1
     try clear hfz34_0
     try clear hfz34_1
     try clear hfz36_0
     try clear hfz36_1
     try clear hfz38_0
     try clear hfz38_1
     try clear hfz41_0
     try clear hfz41_1
     try clear hfz46_0
     try clear hfz46_1
     try clear hfz48_0
     try clear hfz48_1
     try clear hfz50_0
     try clear hfz50_1
     try clear hfz52_0
     try clear hfz52_1
     try clear hfz54_0
     try clear hfz54_1
     try clear hfz57_0
     try clear hfz57_1
     try clear hfz62_0
     try clear hfz62_1
     try clear hfz64_0
     try clear hfz64_1
     try clear hfz66_0
     try clear hfz66_1
     try clear hfz69_0
     try clear hfz69_1
     try clear hfz71_0
     try clear hfz71_1
     try clear hfz73_0
     try clear hfz73_1
     try clear p2
     obtain ⟨x5_2, rfl, HA, HK2, BK415, HB⟩ := hrel
     cases gk with
     | zero => exact absurd HA.1 (by simp [tegulalaw35_same.l0])
     | succ k2 =>
      have H := HA.1
      clear HA
      simp only [tegulalaw35_same.l0] at H
      by_cases c76 : x5_2 < (l1.length : Int)
      ·
       rw [if_pos c76] at H
       have c76b0 := decide_eq_true c76
       clear c76
       replace H := Option.bind_eq_some_iff.mp H
       obtain ⟨t430, A770, H⟩ := H
       replace H : (if 0 ≤ x5_2 then (if (t430 == (rdOf false l1 x5_2)) = true then (some false) else (tegulalaw35_same.l0 k2 l1 (wrap64 (x5_2 + 1)) a0_0 l0_1)) else (none)) = some r := H
       have A77 := Aside0.mk A770
       clear A770
       by_cases c78 : 0 ≤ x5_2
       ·
        rw [if_pos c78] at H
        have c78b0 := decide_eq_true c78
        clear c78
        by_cases c79 : (t430 == (rdOf false l1 x5_2)) = true
        ·
         rw [if_pos c79] at H
         have c79b0 : (t430 == (rdOf false l1 x5_2)) = true := c79
         (try (have c79b1 : decide (t430 = (rdOf false l1 x5_2)) = true := by simpa using c79))
         (try (have c79b2 : (t430 == (rdOf false l1 x5_2)) = true := by simpa using c79))
         clear c79
         obtain rfl := Option.some.inj H
         try go_wp2
         replace BK415 := Aa (blk_drew BK415.1)
         replace HB := Aa (below_drew1 HB.1)
         have p431 : 0 ≤ (x5_2 : Int) := dT
         have q431 : x5_2 < (l1.length : Int) := dT
         obtain ⟨ad431, e431, hx431_0⟩ := Kd.at_bool HR1.1 x5_2 p431 q431
         have hw431_0 := hx431_0
         cases e431
         replace hx431_0 := cB HB hx431_0
         replace p431 := eq_true p431
         replace q431 := eq_true q431
         refine start_ (n := 8) (S := fun w' => w'.cell? ⟨gb415, 0, none⟩ = some (.int .i64 a0_0) ∧ w'.cell? ⟨gb415, 1, none⟩ = some (.slice A0_1 l0_1.length c0_1) ∧ w'.cell? (ad431.add (x5_2).toNat) = some (.bool (rdOf false l1 x5_2))) (ds := []) (bm 8 0) (by kernel_rfl) rfl (bm0 _) ⟨cC BK415 0, cC BK415 1, (cB HB hw431_0)⟩ (fun hHeld => ?_); refine with_tabW tegulalaw35_same.tab6 tegulalaw35_same.bits6 (fun HT_ HW_ => ?_)
         generalize wr.drew = w80 at BK415 HB hx431_0 hHeld ⊢
         refine pA 2 1 50 ?_
         refine pA 10 3 52 ?_
         refine pA 26 4 53 ?_
         refine pA 58 5 54 ?_
         refine tA 59 0 49 hHeld ?_
         refine tA 123 6 55 hHeld ?_
         refine oA 127 2 51 (fun K hK => ?_)
         refine gR Try.func19 #[.agg #[.int .i64 a0_0, .slice A0_1 l0_1.length c0_1], .int .i64 x5_2] ?_
         with_reducible refine (alloc_Map_Is.calls k2 a0_0 _ _ l0_1 x5_2 t430 _ ?side1 ?side2 A77.1).mono ?_
         (case side1 => exact cU (Kd.C_below HR0_1.1 HB.1))
         (case side2 => exact HC0_1.1)
         rintro e w81 ⟨rfl, hb⟩
         refine ⟨_, rfl, ?_⟩
         replace BK415 := kB BK415 hb
         replace HB := sB HB hb
         (try clear hb)
         (try clear hb2)
         (try clear hk)
         (try clear hi)
         refine hK.out _ _ ⟨cC BK415 0, cC BK415 1, (cB HB hw431_0)⟩ (fun hHeld => ?_)
         clear hK K
         refine nA ?_
         refine pA 255 7 56 ?_
         refine done_ (done_of HT_.1 (by kernel_rfl)) ?_
         try go_wp2
         go_ret
         exact ⟨fT, bS HB.1⟩
        ·
         rw [if_neg c79] at H
         have c79b0 : (t430 == (rdOf false l1 x5_2)) = false := by simpa using c79
         (try (have c79b1 : decide (t430 = (rdOf false l1 x5_2)) = false := by simpa using c79))
         (try (have c79b2 : (t430 == (rdOf false l1 x5_2)) = false := by simpa using c79))
         (try (have c79b3 : ¬ (t430 = (rdOf false l1 x5_2)) := by simpa using c79))
         clear c79
         have H' := Aside0.mk H
         clear H
         try go_wp2
         replace BK415 := Aa (blk_drew BK415.1)
         replace HB := Aa (below_drew1 HB.1)
         have p431 : 0 ≤ (x5_2 : Int) := dT
         have q431 : x5_2 < (l1.length : Int) := dT
         obtain ⟨ad431, e431, hx431_0⟩ := Kd.at_bool HR1.1 x5_2 p431 q431
         have hw431_0 := hx431_0
         cases e431
         replace hx431_0 := cB HB hx431_0
         replace p431 := eq_true p431
         replace q431 := eq_true q431
         refine start_ (n := 8) (S := fun w' => w'.cell? ⟨gb415, 0, none⟩ = some (.int .i64 a0_0) ∧ w'.cell? ⟨gb415, 1, none⟩ = some (.slice A0_1 l0_1.length c0_1) ∧ w'.cell? (ad431.add (x5_2).toNat) = some (.bool (rdOf false l1 x5_2))) (ds := []) (bm 8 0) (by kernel_rfl) rfl (bm0 _) ⟨cC BK415 0, cC BK415 1, (cB HB hw431_0)⟩ (fun hHeld => ?_); refine with_tabW tegulalaw35_same.tab6 tegulalaw35_same.bits6 (fun HT_ HW_ => ?_)
         generalize wr.drew = w82 at BK415 HB hx431_0 hHeld ⊢
         refine pA 2 1 50 ?_
         refine pA 10 3 52 ?_
         refine pA 26 4 53 ?_
         refine pA 58 5 54 ?_
         refine tA 59 0 49 hHeld ?_
         refine tA 123 6 55 hHeld ?_
         refine oA 127 2 51 (fun K hK => ?_)
         refine gR Try.func19 #[.agg #[.int .i64 a0_0, .slice A0_1 l0_1.length c0_1], .int .i64 x5_2] ?_
         with_reducible refine (alloc_Map_Is.calls k2 a0_0 _ _ l0_1 x5_2 t430 _ ?side1 ?side2 A77.1).mono ?_
         (case side1 => exact cU (Kd.C_below HR0_1.1 HB.1))
         (case side2 => exact HC0_1.1)
         rintro e w83 ⟨rfl, hb⟩
         refine ⟨_, rfl, ?_⟩
         replace BK415 := kB BK415 hb
         replace HB := sB HB hb
         (try clear hb)
         (try clear hb2)
         (try clear hk)
         (try clear hi)
         refine hK.out _ _ ⟨cC BK415 0, cC BK415 1, (cB HB hw431_0)⟩ (fun hHeld => ?_)
         clear hK K
         refine nA ?_
         refine pA 255 7 56 ?_
         refine done_ (done_of HT_.1 (by kernel_rfl)) ?_
         try go_wp2
         go_roundg k2
         case measure => have := HJ2.1; have := HK2.1; omega
         case rel => exact ⟨(wrap64 (x5_2 + 1)), (by first | rfl | (simp; done) | (simp [*]; done)), H', ⟨by have := HJ2.1; have := HK2.1; omega⟩, ⟨by refine kP ?_; exact BK415.1⟩, ⟨bS HB.1⟩⟩
       ·
        rw [if_neg c78] at H
        exact absurd H (by simp)
      ·
       rw [if_neg c76] at H
       have c76b0 := decide_eq_false c76
       clear c76
       obtain rfl := Option.some.inj H
       go_wp2
       go_ret
       exact ⟨fT, bS HB.1⟩

end Go.Proofs.Ytcjpikjbjehjeaa.PAllocB
